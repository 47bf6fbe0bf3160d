/- Walks of the order's laws: few, alive. -/
import Derived.Test.YtbjpoamnglfjeaaOrdE
set_option linter.unusedVariables false
set_option linter.unusedSimpArgs false
namespace Go.Proofs.Ytbjpoamnglfjeaa
open Go.RowKit Cb

def numB (n : Int) : Bool := !(decide (200 < n) && decide (n ≤ 1000000))
def fewE (l : List Ent) : Bool := l.all (fun e => e.2.2.1.all numB) && decide (l.length ≤ 60)
set_option maxRecDepth 100000 in
set_option maxHeartbeats 2000000 in
theorem fewe_any (F : Nat → Prop) (v : Value) (l : List Ent) (w : World) (h : Sl F w v l) (hl : l.length * 64 ≤ 140737488355328) (hcb : cutsB l) :
    Calls Try.prog 16 #[v] w fun e w' => e = .returned (.bool (fewE l)) ∧ Chg No w w' := by
  obtain ⟨A, c, rfl⟩ := h.slice
  have H := Lib.hid h
  have Hcb := Lib.hid hcb
  clear h hcb
  go_enter Try.func16, Try.ntmps16
  go_wp2_with (first | (with_reducible refine stop_append ?_) | (with_reducible refine stop_copy ?_) | (with_reducible refine stop_make ?_) | (with_reducible refine stop_lookup ?_) | (with_reducible refine stop_update ?_) | (with_reducible refine stop_slice ?_) | (with_reducible refine stop_range ?_) | (with_reducible refine stop_next ?_) | (with_reducible refine stop_convert ⟨_, rfl⟩ ?_) | (with_reducible refine stop_convertB ⟨_, _, _, rfl⟩ ?_) | (with_reducible refine stop_eqSlice ⟨_, _, rfl⟩ ?_))
  go_loopw [4, 6, 9, 16] (fun _ _ v9 _ wr => ∃ k : Nat, k ≤ l.length ∧ v9 = .int .i64 k ∧ Chg No w wr ∧ (l.take k).all (fun e => e.2.2.1.all numB) = true) (fun _ _ v9 _ _ => l.length - (intOf v9).toNat)
  case atStart => exact ⟨0, by omega, rfl, Chg.refl _ _, rfl⟩
  case round =>
    obtain ⟨k, hk, rfl, hc1, hall⟩ := hrel
    have Hall := Lib.hid hall
    clear hall
    by_cases hlt : k < l.length
    · obtain ⟨b, o, vc, rfl, hnb, hbl, hsv, a0, a1, a2, a3, a4, a5⟩ := ent_get (H.out.keepNo hc1) k hlt
      have htk := List.take_succ_eq_append_getElem hlt
      have hmem := List.getElem_mem hlt
      have hcut := Hcb.out _ hmem
      have Hfe := Lib.hid (show l[k].2.2.1.all numB = false → fewE l = false from fun hf => by
        unfold fewE
        rw [Bool.and_eq_false_iff]; left
        rw [List.all_eq_false]
        exact ⟨_, hmem, by simp [hf]⟩)
      clear hmem
      generalize l[k] = x at a0 a1 a2 a3 a4 a5 hsv htk hcut Hfe
      obtain ⟨n, kd, cut, tag, t, u⟩ := x
      simp only at a0 a1 a2 a3 a4 a5 hsv hcut Hfe
      obtain ⟨Av, cv, rfl⟩ := hsv.slice
      have hca := (Chg.refl No wr).alloc (.cells #[.int .i64 n, .int .i64 kd, .slice Av cut.length cv, .int .i64 tag, .int .i64 t, .int .i64 u] 52)
      have Hsv := Lib.hid (hsv.keepNo hca)
      have Htk := Lib.hid htk
      clear hsv htk
      go_wp2_with (first | (with_reducible refine stop_append ?_) | (with_reducible refine stop_copy ?_) | (with_reducible refine stop_make ?_) | (with_reducible refine stop_lookup ?_) | (with_reducible refine stop_update ?_) | (with_reducible refine stop_slice ?_) | (with_reducible refine stop_range ?_) | (with_reducible refine stop_next ?_) | (with_reducible refine stop_convert ⟨_, rfl⟩ ?_) | (with_reducible refine stop_convertB ⟨_, _, _, rfl⟩ ?_) | (with_reducible refine stop_eqSlice ⟨_, _, rfl⟩ ?_))
      generalize hwA : wr.alloc (.cells #[.int .i64 n, .int .i64 kd, .slice Av cut.length cv, .int .i64 tag, .int .i64 t, .int .i64 u] 52) = wA at *
      have hcA := hc1.trans hca
      clear hwA a0 a1 a2 a3 a4 a5 hbl
      generalize wr.heap.size = q at *
      go_loopw [6, 16] (fun _ v16 wr => ∃ j : Nat, j ≤ cut.length ∧ v16 = .int .i64 j ∧ wr = wA ∧ (cut.take j).all numB = true) (fun _ v16 _ => cut.length - (intOf v16).toNat)
      case atStart => exact ⟨0, by omega, rfl, rfl, rfl⟩
      case round =>
        obtain ⟨j, hj, rfl, rfl, hin⟩ := hrel
        have Hin := Lib.hid hin
        clear hin
        by_cases hjl : j < cut.length
        · obtain ⟨b2, o2, d, rfl, _, hbl2, rfl, ha⟩ := Hsv.out.get j hjl
          have ha0 := ha 0 _ rfl
          simp only [show Rep.n Int = 1 from rfl, Nat.mul_one, Nat.add_zero] at ha0
          have Hmem := Lib.hid (List.getElem_mem hjl)
          have Htj := Lib.hid (List.take_succ_eq_append_getElem hjl)
          clear ha
          generalize cut[j] = y at ha0 Hmem Htj
          by_cases hy1 : 200 < y
          · by_cases hy2 : y ≤ 1000000
            · have Hr := Lib.hid (Hfe.out (by
                rw [List.all_eq_false]
                exact ⟨y, Hmem.out, by simp [numB, hy1, hy2]⟩))
              go_wp2_with (first | (with_reducible refine stop_append ?_) | (with_reducible refine stop_copy ?_) | (with_reducible refine stop_make ?_) | (with_reducible refine stop_lookup ?_) | (with_reducible refine stop_update ?_) | (with_reducible refine stop_slice ?_) | (with_reducible refine stop_range ?_) | (with_reducible refine stop_next ?_) | (with_reducible refine stop_convert ⟨_, rfl⟩ ?_) | (with_reducible refine stop_convertB ⟨_, _, _, rfl⟩ ?_) | (with_reducible refine stop_eqSlice ⟨_, _, rfl⟩ ?_))
              go_ret
              rw [Hr.out]
              exact ⟨rfl, hcA⟩
            · have Hy := Lib.hid (show numB y = true by simp [numB]; omega)
              go_wp2_with (first | (with_reducible refine stop_append ?_) | (with_reducible refine stop_copy ?_) | (with_reducible refine stop_make ?_) | (with_reducible refine stop_lookup ?_) | (with_reducible refine stop_update ?_) | (with_reducible refine stop_slice ?_) | (with_reducible refine stop_range ?_) | (with_reducible refine stop_next ?_) | (with_reducible refine stop_convert ⟨_, rfl⟩ ?_) | (with_reducible refine stop_convertB ⟨_, _, _, rfl⟩ ?_) | (with_reducible refine stop_eqSlice ⟨_, _, rfl⟩ ?_))
              go_roundw
              case rel => exact ⟨j + 1, by omega, by go_num, (by first | rfl | trivial), by rw [Htj.out, List.all_append, Hin.out]; simp [Hy.out]⟩
              case measure => simp [intOf]; omega
          · have Hy := Lib.hid (show numB y = true by simp [numB, hy1])
            go_wp2_with (first | (with_reducible refine stop_append ?_) | (with_reducible refine stop_copy ?_) | (with_reducible refine stop_make ?_) | (with_reducible refine stop_lookup ?_) | (with_reducible refine stop_update ?_) | (with_reducible refine stop_slice ?_) | (with_reducible refine stop_range ?_) | (with_reducible refine stop_next ?_) | (with_reducible refine stop_convert ⟨_, rfl⟩ ?_) | (with_reducible refine stop_convertB ⟨_, _, _, rfl⟩ ?_) | (with_reducible refine stop_eqSlice ⟨_, _, rfl⟩ ?_))
            go_roundw
            case rel => exact ⟨j + 1, by omega, by go_num, (by first | rfl | trivial), by rw [Htj.out, List.all_append, Hin.out]; simp [Hy.out]⟩
            case measure => simp [intOf]; omega
        · obtain rfl : j = cut.length := by omega
          rw [List.take_length] at Hin
          go_wp2_with (first | (with_reducible refine stop_append ?_) | (with_reducible refine stop_copy ?_) | (with_reducible refine stop_make ?_) | (with_reducible refine stop_lookup ?_) | (with_reducible refine stop_update ?_) | (with_reducible refine stop_slice ?_) | (with_reducible refine stop_range ?_) | (with_reducible refine stop_next ?_) | (with_reducible refine stop_convert ⟨_, rfl⟩ ?_) | (with_reducible refine stop_convertB ⟨_, _, _, rfl⟩ ?_) | (with_reducible refine stop_eqSlice ⟨_, _, rfl⟩ ?_))
          go_roundw
          case rel => exact ⟨k + 1, by omega, by go_num, hcA, by rw [Htk.out, List.all_append, Hall.out]; simp [Hin.out]⟩
          case measure => simp [intOf]; omega
    · obtain rfl : k = l.length := by omega
      rw [List.take_length] at Hall
      by_cases h60 : l.length ≤ 60
      · have hi : (l.length : Int) ≤ 60 := by omega
        have Hr := Lib.hid (show fewE l = true by unfold fewE; rw [Hall.out]; simp [h60])
        go_wp2_with (first | (with_reducible refine stop_append ?_) | (with_reducible refine stop_copy ?_) | (with_reducible refine stop_make ?_) | (with_reducible refine stop_lookup ?_) | (with_reducible refine stop_update ?_) | (with_reducible refine stop_slice ?_) | (with_reducible refine stop_range ?_) | (with_reducible refine stop_next ?_) | (with_reducible refine stop_convert ⟨_, rfl⟩ ?_) | (with_reducible refine stop_convertB ⟨_, _, _, rfl⟩ ?_) | (with_reducible refine stop_eqSlice ⟨_, _, rfl⟩ ?_))
        go_ret
        rw [Hr.out]
        exact ⟨by simp [hi], hc1⟩
      · have hi : ¬ (l.length : Int) ≤ 60 := by omega
        have Hr := Lib.hid (show fewE l = false by unfold fewE; simp [h60])
        go_wp2_with (first | (with_reducible refine stop_append ?_) | (with_reducible refine stop_copy ?_) | (with_reducible refine stop_make ?_) | (with_reducible refine stop_lookup ?_) | (with_reducible refine stop_update ?_) | (with_reducible refine stop_slice ?_) | (with_reducible refine stop_range ?_) | (with_reducible refine stop_next ?_) | (with_reducible refine stop_convert ⟨_, rfl⟩ ?_) | (with_reducible refine stop_convertB ⟨_, _, _, rfl⟩ ?_) | (with_reducible refine stop_eqSlice ⟨_, _, rfl⟩ ?_))
        go_ret
        rw [Hr.out]
        exact ⟨by simp [hi], hc1⟩
def al1 : Ent := (1, 1, [1, 2], 0, 0, 0)
def al2 : Ent := (2, 1, [3, 2], 0, 0, 0)
def al3 : Ent := (3, 1, [3, 4], 0, 0, 0)
def alO : OSt := ⟨[3, 4], [(0, (0, 0), 1), (1, (1, 0), 2), (3, (0, 1), 2), (5, (1, 2), 2)], [0, 3, 5, 7]⟩
theorem al_of : ofF (newF (2 : Nat)) [al1, al2, al3] = (alO, 3) := by kernel_rfl
theorem al_at : atF alO 3 = some (0, 1) := by kernel_rfl
theorem al_find : findF alO.runs (1, 3) = some 6 := by kernel_rfl
theorem al_after : afterF alO 1 = some 3 := by kernel_rfl
theorem al_len : alO.len = 7 := by kernel_rfl
theorem al_add : (addF alO al1).2 = 150 := by kernel_rfl
theorem al_inv : Cb.Inv 2 alO := by
  have := inv_of (inv_new 2 (by omega) (by omega)) [al1, al2, al3]
  rw [al_of] at this
  exact this
theorem nums2_sl (w : World) (x y : Int) (T : TypeId) : Sl No (w.alloc (.cells #[.int .i64 x, .int .i64 y] T)) (.slice (some ⟨w.heap.size, 0, none⟩) 2 2) [x, y] :=
  Sl.lit (ys := [x, y]) (ds := [[.int .i64 x], [.int .i64 y]]) rfl rfl (fun i h h' => by
    match i, h with
    | 0, _ => rfl
    | 1, _ => rfl) (not_no _) rfl (Nat.le_refl _)
def alW (w : World) (T U : TypeId) : World :=
  (((w.alloc (.cells #[.int .i64 1, .int .i64 2] T)).alloc (.cells #[.int .i64 3, .int .i64 2] T)).alloc (.cells #[.int .i64 3, .int .i64 4] T)).alloc (.cells #[.int .i64 1, .int .i64 1, .slice (some ⟨w.heap.size, 0, none⟩) 2 2, .int .i64 0, .int .i64 0, .int .i64 0,
    .int .i64 2, .int .i64 1, .slice (some ⟨w.heap.size + 1, 0, none⟩) 2 2, .int .i64 0, .int .i64 0, .int .i64 0, .int .i64 3, .int .i64 1, .slice (some ⟨w.heap.size + 1 + 1, 0, none⟩) 2 2, .int .i64 0, .int .i64 0, .int .i64 0] U)
theorem al_world (w : World) (T U : TypeId) : Sl No (alW w T U) (.slice (some ⟨w.heap.size + 1 + 1 + 1, 0, none⟩) 3 3) [al1, al2, al3] ∧ Chg No w (alW w T U) := by
  have h1 := nums2_sl w 1 2 T
  have h2 := nums2_sl (w.alloc (.cells #[.int .i64 1, .int .i64 2] T)) 3 2 T
  have h3 := nums2_sl ((w.alloc (.cells #[.int .i64 1, .int .i64 2] T)).alloc (.cells #[.int .i64 3, .int .i64 2] T)) 3 4 T
  simp only [World.size_alloc] at h2 h3
  have h1 := (h1.keepNo ((Chg.refl No _).alloc (.cells #[.int .i64 3, .int .i64 2] T))).keepNo ((Chg.refl No _).alloc (.cells #[.int .i64 3, .int .i64 4] T))
  have h2 := h2.keepNo ((Chg.refl No _).alloc (.cells #[.int .i64 3, .int .i64 4] T))
  refine ⟨?_, (((Chg.refl No w).alloc _).alloc _).alloc _ |>.alloc _⟩
  have := Sl.lit (F := No) (w := ((w.alloc (.cells #[.int .i64 1, .int .i64 2] T)).alloc (.cells #[.int .i64 3, .int .i64 2] T)).alloc (.cells #[.int .i64 3, .int .i64 4] T)) (T := U) (ys := [al1, al2, al3])
    (ds := [entC al1 (.slice (some ⟨w.heap.size, 0, none⟩) 2 2), entC al2 (.slice (some ⟨w.heap.size + 1, 0, none⟩) 2 2), entC al3 (.slice (some ⟨w.heap.size + 1 + 1, 0, none⟩) 2 2)]) (C := _) rfl rfl (fun i h h' => by
    match i, h with
    | 0, _ => exact ent_mk al1 h1
    | 1, _ => exact ent_mk al2 h2
    | 2, _ => exact ent_mk al3 h3) (not_no _) (n := 3) (c := 3) rfl (Nat.le_refl _)
  simp only [World.size_alloc] at this
  exact this
set_option maxRecDepth 100000 in
set_option maxHeartbeats 4000000 in
theorem oalive_any (w : World) : Calls Try.prog 17 #[] w fun e w' => e = .returned (.bool true) ∧ Chg No w w' := by
  obtain ⟨h1, hc1⟩ := al_world w 3 58
  go_enter Try.func17, Try.ntmps17
  go_wp2_with (first | (with_reducible refine stop_append ?_) | (with_reducible refine stop_copy ?_) | (with_reducible refine stop_make ?_) | (with_reducible refine stop_lookup ?_) | (with_reducible refine stop_update ?_) | (with_reducible refine stop_slice ?_) | (with_reducible refine stop_range ?_) | (with_reducible refine stop_next ?_) | (with_reducible refine stop_convert ⟨_, rfl⟩ ?_) | (with_reducible refine stop_convertB ⟨_, _, _, rfl⟩ ?_) | (with_reducible refine stop_eqSlice ⟨_, _, rfl⟩ ?_))
  change Calls _ _ _ (alW w 3 58) _
  generalize alW w 3 58 = w1 at *
  obtain ⟨b, o, vc, e, hnb, hbl, hsv, a0, a1, a2, a3, a4, a5⟩ := ent_get (Sl.up h1 (Nat.le_refl _)) 0 (by simp)
  simp only [Option.some.injEq, Addr.mk.injEq, and_true] at e
  obtain ⟨rfl, rfl⟩ := e
  simp only [List.getElem_cons_zero, Nat.zero_mul, Nat.zero_add] at a0 a1 a2 a3 a4 a5 hsv
  have Hsv := Lib.hid hsv
  have H := Lib.hid (oof_yes 2 _ [al1, al2, al3] w1 (by omega) (by omega) h1 (by simp) (by
    intro e he
    simp only [List.mem_cons, List.not_mem_nil, or_false] at he
    rcases he with rfl | rfl | rfl <;> simp [al1, al2, al3]))
  rw [al_of] at H
  obtain ⟨Av, cv, rfl⟩ := hsv.slice
  clear hsv h1
  generalize w.heap.size + 1 + 1 + 1 = q at *
  refine H.out.mono ?_
  rintro e w2 ⟨p, rfl, hc2, ho⟩
  have Ho := Lib.hid ho
  clear ho H
  have hsz := hc1.size
  go_wp2_with (first | (with_reducible refine stop_append ?_) | (with_reducible refine stop_copy ?_) | (with_reducible refine stop_make ?_) | (with_reducible refine stop_lookup ?_) | (with_reducible refine stop_update ?_) | (with_reducible refine stop_slice ?_) | (with_reducible refine stop_range ?_) | (with_reducible refine stop_next ?_) | (with_reducible refine stop_convert ⟨_, rfl⟩ ?_) | (with_reducible refine stop_convertB ⟨_, _, _, rfl⟩ ?_) | (with_reducible refine stop_eqSlice ⟨_, _, rfl⟩ ?_))
  refine (at_any Ho.out al_inv 3).mono ?_
  rw [al_at]
  rintro e w3 ⟨hc3, ⟨x, hx, rfl⟩ | ⟨hx, _⟩⟩
  rotate_left
  · cases hx
  cases hx
  have HO := Lib.hid (fun W (hW : Chg No w2 W) => Ho.out.keepNo hW)
  have HA := Lib.hid (show ∀ W, Chg No w2 W → W.cell? ⟨q, 0, none⟩ = some (.int .i64 al1.1) ∧ W.cell? ⟨q, 1, none⟩ = some (.int .i64 al1.2.1) ∧ W.cell? ⟨q, 2, none⟩ = some (.slice Av al1.2.2.1.length cv) ∧ W.cell? ⟨q, 3, none⟩ = some (.int .i64 al1.2.2.2.1) ∧ W.cell? ⟨q, 4, none⟩ = some (.int .i64 al1.2.2.2.2.1) ∧ W.cell? ⟨q, 5, none⟩ = some (.int .i64 al1.2.2.2.2.2) from
    fun W hW => have h := hc2.trans hW; ⟨h.cell a0 (not_no _), h.cell a1 (not_no _), h.cell a2 (not_no _), h.cell a3 (not_no _), h.cell a4 (not_no _), h.cell a5 (not_no _)⟩)
  have HS := Lib.hid (fun W (hW : Chg No w2 W) => Hsv.out.keepNo (hc2.trans hW))
  clear a0 a1 a2 a3 a4 a5 Ho Hsv
  have hc4 := hc3.alloc (.cells #[.int .i64 0, .int .i64 1] 36)
  have o4 := alloc_obj w3 (.cells #[.int .i64 0, .int .i64 1] 36)
  go_wp2_with (first | (with_reducible refine stop_append ?_) | (with_reducible refine stop_copy ?_) | (with_reducible refine stop_make ?_) | (with_reducible refine stop_lookup ?_) | (with_reducible refine stop_update ?_) | (with_reducible refine stop_slice ?_) | (with_reducible refine stop_range ?_) | (with_reducible refine stop_next ?_) | (with_reducible refine stop_convert ⟨_, rfl⟩ ?_) | (with_reducible refine stop_convertB ⟨_, _, _, rfl⟩ ?_) | (with_reducible refine stop_eqSlice ⟨_, _, rfl⟩ ?_))
  generalize w3.alloc (.cells #[.int .i64 0, .int .i64 1] 36) = w4 at *
  generalize w3.heap.size = q4 at *
  refine (ofind_any (HO.out _ hc4) al_inv 1 3 (by omega)).mono ?_
  rw [al_find]
  rintro e w5 ⟨hc5, ⟨x, hx, rfl⟩ | ⟨hx, _⟩⟩
  rotate_left
  · cases hx
  cases hx
  have o5 := hc5.obj o4 (not_no _)
  have hc5 := hc4.trans hc5
  go_wp2_with (first | (with_reducible refine stop_append ?_) | (with_reducible refine stop_copy ?_) | (with_reducible refine stop_make ?_) | (with_reducible refine stop_lookup ?_) | (with_reducible refine stop_update ?_) | (with_reducible refine stop_slice ?_) | (with_reducible refine stop_range ?_) | (with_reducible refine stop_next ?_) | (with_reducible refine stop_convert ⟨_, rfl⟩ ?_) | (with_reducible refine stop_convertB ⟨_, _, _, rfl⟩ ?_) | (with_reducible refine stop_eqSlice ⟨_, _, rfl⟩ ?_))
  refine (oafter_any (HO.out _ hc5) al_inv 1).mono ?_
  rw [al_after]
  rintro e w6 ⟨hc6, ⟨x, hx, rfl⟩ | ⟨hx, _⟩⟩
  rotate_left
  · cases hx
  cases hx
  have o6 := hc6.obj o5 (not_no _)
  have hc6 := hc5.trans hc6
  have k0 := cell_obj (i := 0) o6 (u := .int .i64 0) rfl
  have k1 := cell_obj (i := 1) o6 (u := .int .i64 1) rfl
  clear o4 o5
  go_wp2_with (first | (with_reducible refine stop_append ?_) | (with_reducible refine stop_copy ?_) | (with_reducible refine stop_make ?_) | (with_reducible refine stop_lookup ?_) | (with_reducible refine stop_update ?_) | (with_reducible refine stop_slice ?_) | (with_reducible refine stop_range ?_) | (with_reducible refine stop_next ?_) | (with_reducible refine stop_convert ⟨_, rfl⟩ ?_) | (with_reducible refine stop_convertB ⟨_, _, _, rfl⟩ ?_) | (with_reducible refine stop_eqSlice ⟨_, _, rfl⟩ ?_))
  refine (olen_any (HO.out _ hc6) al_inv).mono ?_
  rw [al_len]
  rintro e w7 ⟨rfl, hc7⟩
  have hc7 := hc6.trans hc7
  obtain ⟨a0, a1, a2, a3, a4, a5⟩ := HA.out _ hc7
  go_wp2_with (first | (with_reducible refine stop_append ?_) | (with_reducible refine stop_copy ?_) | (with_reducible refine stop_make ?_) | (with_reducible refine stop_lookup ?_) | (with_reducible refine stop_update ?_) | (with_reducible refine stop_slice ?_) | (with_reducible refine stop_range ?_) | (with_reducible refine stop_next ?_) | (with_reducible refine stop_convert ⟨_, rfl⟩ ?_) | (with_reducible refine stop_convertB ⟨_, _, _, rfl⟩ ?_) | (with_reducible refine stop_eqSlice ⟨_, _, rfl⟩ ?_))
  refine (oadd_any (HO.out _ hc7) al_inv al1 (.slice Av al1.2.2.1.length cv) ((HS.out _ hc7).weak (fun _ _ g => g)) (by simp [al1])).mono ?_
  rw [show addF alO al1 = (alO, 150) by kernel_rfl]
  rintro e w8 ⟨rfl, hc8, _⟩
  go_wp2_with (first | (with_reducible refine stop_append ?_) | (with_reducible refine stop_copy ?_) | (with_reducible refine stop_make ?_) | (with_reducible refine stop_lookup ?_) | (with_reducible refine stop_update ?_) | (with_reducible refine stop_slice ?_) | (with_reducible refine stop_range ?_) | (with_reducible refine stop_next ?_) | (with_reducible refine stop_convert ⟨_, rfl⟩ ?_) | (with_reducible refine stop_convertB ⟨_, _, _, rfl⟩ ?_) | (with_reducible refine stop_eqSlice ⟨_, _, rfl⟩ ?_))
  go_ret
  refine ⟨rfl, ((hc1.trans hc2).trans hc7).old hc8 (fun i hi => ?_)⟩
  have := hi.1
  omega
end Go.Proofs.Ytbjpoamnglfjeaa
