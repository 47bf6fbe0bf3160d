/- Walks of the document's order: Row, Find. -/
import Derived.Test.YtbjpoamnglfjeaaOrdI
import Derived.Test.YtbjpoamnglfjeaaOrdQ
set_option linter.unusedVariables false
set_option linter.unusedSimpArgs false
namespace Go.Proofs.Ytbjpoamnglfjeaa
open Go.RowKit Cb

theorem num_get {F : Nat → Prop} {w : World} {A : Option Addr} {n c : Nat} {l : List Int} (h : Sl F w (.slice A n c) l) (k : Nat) (hk : k < l.length) :
    ∃ b o, A = some ⟨b, o, none⟩ ∧ ¬ F b ∧ b < w.heap.size ∧ w.cell? ⟨b, o + k, none⟩ = some (.int .i64 (l.getD k 0)) := by
  obtain ⟨b, o, d, rfl, hF, hb, rfl, ha⟩ := h.get k hk
  refine ⟨b, o, rfl, hF, hb, ?_⟩
  have := ha 0 _ rfl
  simp only [show Rep.n Int = 1 from rfl, Nat.mul_one, Nat.add_zero] at this
  rw [this, List.getD_eq_getElem?_getD, List.getElem?_eq_getElem hk]; rfl
set_option maxRecDepth 100000 in
set_option maxHeartbeats 4000000 in
theorem rrow_any (sh : Nat) (h1 : 1 ≤ sh) (h8 : sh ≤ 8) (v : Value) (l : List Ent) (R : List (Int × Int)) (hR : RRow sh l R) (w : World) (hs : Sl No w v l) (hl : l.length * 64 ≤ 140737488355328) :
    Calls Try.prog 58 #[.agg #[.int .i64 sh, v], .int .i64 l.length] w fun e w' => ∃ v', e = .returned v' ∧ Chg No w w' ∧ Sl (Lt w.heap.size) w' v' R := by
  obtain ⟨A, c, rfl⟩ := hs.slice
  have hc0 := (Chg.refl No w).alloc (.cells #[.int .i64 sh, .slice A l.length c] 33)
  have o2 := alloc_obj w (.cells #[.int .i64 sh, .slice A l.length c] 33)
  have Hs := Lib.hid (hs.keepNo hc0)
  have HR := Lib.hid hR
  clear hs hR
  go_enter Try.func58, Try.ntmps58
  go_wp2_with (first | (with_reducible refine stop_append ?_) | (with_reducible refine stop_copy ?_) | (with_reducible refine stop_make ?_) | (with_reducible refine stop_lookup ?_) | (with_reducible refine stop_update ?_) | (with_reducible refine stop_slice ?_) | (with_reducible refine stop_range ?_) | (with_reducible refine stop_next ?_) | (with_reducible refine stop_convert ⟨_, rfl⟩ ?_) | (with_reducible refine stop_convertB ⟨_, _, _, rfl⟩ ?_) | (with_reducible refine stop_eqSlice ⟨_, _, rfl⟩ ?_))
  generalize w.alloc (.cells #[.int .i64 sh, .slice A l.length c] 33) = w0 at *
  have hq2 : w.heap.size < w0.heap.size := lt_of_heap o2
  generalize hq : w.heap.size = q2 at *
  refine step_make (α := Int) (n := sh) No w0.heap.size 0 Try.underlying46 vinfo_int rfl (by decide) rfl rfl (by omega) (by omega) (Nat.le_refl _) ?_
  intro v1 w1 hown hob hc1
  have hl0 : Sl No w1 v1 (rst sh l 0).1 := hown.slFlat (fun _ _ f => f)
  obtain ⟨A1, c1, rfl⟩ := hown.slice
  rw [List.length_replicate] at hl0 ⊢
  have Hl0 := Lib.hid hl0
  have Hs1 := Lib.hid (Hs.out.keepNo hc1)
  have z0 : w1.cell? ⟨q2, 0, none⟩ = some (.int .i64 sh) := hc1.cell (cell_obj (i := 0) o2 rfl) (not_no _)
  have z1 : w1.cell? ⟨q2, 1, none⟩ = some (.slice A l.length c) := hc1.cell (cell_obj (i := 1) o2 rfl) (not_no _)
  have Hz0 := Lib.hid (fun W (hW : Chg No w1 W) => hW.cell z0 (not_no _))
  have Hz1 := Lib.hid (fun W (hW : Chg No w1 W) => hW.cell z1 (not_no _))
  have hcw := hc0.trans hc1
  have hsz1 := hcw.size
  clear hown hob hl0 z0 z1 o2 Hs
  go_wp2_with (first | (with_reducible refine stop_append ?_) | (with_reducible refine stop_copy ?_) | (with_reducible refine stop_make ?_) | (with_reducible refine stop_lookup ?_) | (with_reducible refine stop_update ?_) | (with_reducible refine stop_slice ?_) | (with_reducible refine stop_range ?_) | (with_reducible refine stop_next ?_) | (with_reducible refine stop_convert ⟨_, rfl⟩ ?_) | (with_reducible refine stop_convertB ⟨_, _, _, rfl⟩ ?_) | (with_reducible refine stop_eqSlice ⟨_, _, rfl⟩ ?_))
  go_loopw [5, 6, 7, 8, 9] (fun v5 v6 v7 _ _ wr => ∃ i : Nat, i ≤ l.length ∧ v7 = .int .i64 i ∧ Chg No w1 wr ∧ Cb.Own No wr w1.heap.size 24 v5 (rst sh l i).2 ∧ Sl No w1 v6 (rst sh l i).1) (fun _ _ v7 _ _ _ => l.length - (intOf v7).toNat)
  case atStart => exact ⟨0, by omega, rfl, Chg.refl _ _, Cb.Own.nil _ _ _ _, Hl0.out⟩
  case round =>
    obtain ⟨i, hi, rfl, hcr, hown, hlast⟩ := hrel
    have Hown := Lib.hid hown
    have Hlast := Lib.hid hlast
    obtain ⟨A5, c5, rfl⟩ := hown.slice
    obtain ⟨A6, c6, rfl⟩ := hlast.slice
    clear hown hlast
    by_cases hlt : i < l.length
    · obtain ⟨b, o, vc, rfl, _, _, hsv, a0, a1, a2, a3, a4, a5⟩ := ent_get Hs1.out i hlt
      have hrs := rst_succ sh l i hlt
      obtain ⟨hll, hlb⟩ := HR.out.last i (by omega)
      have Hlb := Lib.hid hlb
      have k1 := hcr.cell a1 (not_no _)
      have zz := Hz1.out wr hcr
      rw [rstep] at hrs
      clear hlb
      by_cases hk : l[i].2.1 = 1
      · rw [if_pos hk, hll] at hrs
        rw [hk] at a1 k1
        obtain ⟨hcl, hcb⟩ := HR.out.cut i hlt hk
        have Hpart := Lib.hid (fun (s m : Nat) => HR.out.part hlt hk (s := s) (m := m))
        obtain ⟨Av, cv, rfl⟩ := hsv.slice
        have Hsv := Lib.hid hsv
        have Hcb := Lib.hid hcb
        have Ha2 := Lib.hid (fun W (hW : Chg No w1 W) => hW.cell a2 (not_no _))
        clear hsv hcb hk a0 a1 a2 a3 a4 a5
        rw [hcl] at Hsv Ha2
        have Hrs := Lib.hid hrs
        clear hrs
        generalize l[i].2.2.1 = cut at *
        generalize rst sh l i = st at *
        obtain ⟨last, acc⟩ := st
        simp only at hll Hlb Hown Hlast Hpart Hrs
        rw [hll] at Hlast ⊢
        go_wp2_with (first | (with_reducible refine stop_append ?_) | (with_reducible refine stop_copy ?_) | (with_reducible refine stop_make ?_) | (with_reducible refine stop_lookup ?_) | (with_reducible refine stop_update ?_) | (with_reducible refine stop_slice ?_) | (with_reducible refine stop_range ?_) | (with_reducible refine stop_next ?_) | (with_reducible refine stop_convert ⟨_, rfl⟩ ?_) | (with_reducible refine stop_convertB ⟨_, _, _, rfl⟩ ?_) | (with_reducible refine stop_eqSlice ⟨_, _, rfl⟩ ?_))
        go_loopw [5, 8, 9] (fun v5 v8 _ wr => ∃ s : Nat, s ≤ sh ∧ v8 = .int .i64 s ∧ Chg No w1 wr ∧ Cb.Own No wr w1.heap.size 24 v5 (acc ++ spans last cut s)) (fun _ v8 _ _ => sh - (intOf v8).toNat)
        case atStart => exact ⟨0, by omega, rfl, hcr, by simpa [spans] using Hown.out⟩
        case round =>
          clear zz k1 hcr Hown
          obtain ⟨s, hs, rfl, hcr, hown⟩ := hrel
          have Hown := Lib.hid hown
          obtain ⟨A5', c5', rfl⟩ := hown.slice
          clear hown
          have zz0 := Hz0.out wr hcr
          by_cases hslt : s < sh
          · obtain ⟨bl, ol, rfl, _, _, y0⟩ := num_get Hlast.out s (by omega)
            obtain ⟨bc, oc, rfl, _, _, x0⟩ := num_get Hsv.out s (by omega)
            have hy : 0 ≤ last.getD s 0 ∧ last.getD s 0 ≤ 1099511627776 := by
              rw [List.getD_eq_getElem?_getD, List.getElem?_eq_getElem (by omega)]
              exact Hlb.out _ (List.getElem_mem _)
            have hx : 0 ≤ cut.getD s 0 ∧ cut.getD s 0 ≤ 1099511627776 := by
              rw [List.getD_eq_getElem?_getD, List.getElem?_eq_getElem (by omega)]
              exact Hcb.out _ (List.getElem_mem _)
            have Hp := Lib.hid (Hpart.out s · hslt)
            have Hss := Lib.hid (spans_succ last cut s)
            have yr := hcr.cell y0 (not_no _)
            have Hx0 := Lib.hid (fun W (hW : Chg No w1 W) => hW.cell x0 (not_no _))
            clear y0 x0
            generalize last.getD s 0 = y at *
            generalize cut.getD s 0 = x at *
            go_wp2_with (first | (with_reducible refine stop_append ?_) | (with_reducible refine stop_copy ?_) | (with_reducible refine stop_make ?_) | (with_reducible refine stop_lookup ?_) | (with_reducible refine stop_update ?_) | (with_reducible refine stop_slice ?_) | (with_reducible refine stop_range ?_) | (with_reducible refine stop_next ?_) | (with_reducible refine stop_convert ⟨_, rfl⟩ ?_) | (with_reducible refine stop_convertB ⟨_, _, _, rfl⟩ ?_) | (with_reducible refine stop_eqSlice ⟨_, _, rfl⟩ ?_))
            go_loopw [5, 9] (fun v5 v9 wr => ∃ m : Nat, (m = 0 ∨ y + m ≤ x) ∧ v9 = .int .i64 (y + m) ∧ Chg No w1 wr ∧ Cb.Own No wr w1.heap.size 24 v5 (acc ++ spans last cut s ++ span s y (y + m))) (fun _ v9 _ => (x - intOf v9).toNat)
            case atStart => exact ⟨0, .inl rfl, by simp, hcr, by simpa [span] using Hown.out⟩
            case round =>
              clear yr zz0 hcr Hown
              obtain ⟨m, hm, rfl, hcr, hown⟩ := hrel
              have Hown := Lib.hid hown
              obtain ⟨A7, c7, rfl⟩ := hown.slice
              clear hown
              have zz1 := Hz1.out wr hcr
              have zc := Ha2.out wr hcr
              have zx := Hx0.out wr hcr
              by_cases hmx : y + m < x
              · have hpl := Hp.out m (by omega)
                have hsn := span_snoc s y m
                have hwr : IntKind.i64.wrap (y + m + 1) = y + m + 1 := IntWalk.i64_in _ (by omega)
                have Hsn := Lib.hid hsn
                have hpl' : (acc ++ spans last cut s ++ span s y (y + m)).length ≤ 1000000 := hpl
                clear hsn hpl
                go_wp2_with (first | (with_reducible refine stop_append ?_) | (with_reducible refine stop_copy ?_) | (with_reducible refine stop_make ?_) | (with_reducible refine stop_lookup ?_) | (with_reducible refine stop_update ?_) | (with_reducible refine stop_slice ?_) | (with_reducible refine stop_range ?_) | (with_reducible refine stop_next ?_) | (with_reducible refine stop_convert ⟨_, rfl⟩ ?_) | (with_reducible refine stop_convertB ⟨_, _, _, rfl⟩ ?_) | (with_reducible refine stop_eqSlice ⟨_, _, rfl⟩ ?_))
                refine step_append_flat (α := Int × Int) (ys := [((s : Int), y + m)]) Try.underlying42 info_place rfl (Hown.out.alloc (.cells #[.int .i64 s, .int .i64 (y + m)] 24)) rfl rfl (Sl.lit1 (F := No) (y := ((s : Int), y + m)) rfl ⟨[_], [_], rfl, rfl, rfl⟩ (not_no _)) (by rw [List.length_singleton]; omega) (by rw [List.length_singleton]; omega) (by have := hcr.size; simp; omega) ?_
                intro v9 w9 hown9 hg9
                have hc9 : Chg No w1 w9 := (hcr.alloc (.cells #[.int .i64 s, .int .i64 (y + m)] 24)).grew hg9 (fun k hk => .inr (Hown.out.lt k hk).1)
                rw [List.append_assoc, ← Hsn.out] at hown9
                have Hown9 := Lib.hid hown9
                clear hown9 hg9
                go_wp2_with (first | (with_reducible refine stop_append ?_) | (with_reducible refine stop_copy ?_) | (with_reducible refine stop_make ?_) | (with_reducible refine stop_lookup ?_) | (with_reducible refine stop_update ?_) | (with_reducible refine stop_slice ?_) | (with_reducible refine stop_range ?_) | (with_reducible refine stop_next ?_) | (with_reducible refine stop_convert ⟨_, rfl⟩ ?_) | (with_reducible refine stop_convertB ⟨_, _, _, rfl⟩ ?_) | (with_reducible refine stop_eqSlice ⟨_, _, rfl⟩ ?_))
                go_roundw
                case rel => exact ⟨m + 1, .inr (by omega), by rw [show y + ((m + 1 : Nat) : Int) = y + m + 1 by omega], hc9, Hown9.out⟩
                case measure => simp [intOf]; omega
              · have Hsp := Lib.hid (show span s y (y + m) = span s y x by
                  simp only [span]; congr 2; omega)
                go_wp2_with (first | (with_reducible refine stop_append ?_) | (with_reducible refine stop_copy ?_) | (with_reducible refine stop_make ?_) | (with_reducible refine stop_lookup ?_) | (with_reducible refine stop_update ?_) | (with_reducible refine stop_slice ?_) | (with_reducible refine stop_range ?_) | (with_reducible refine stop_next ?_) | (with_reducible refine stop_convert ⟨_, rfl⟩ ?_) | (with_reducible refine stop_convertB ⟨_, _, _, rfl⟩ ?_) | (with_reducible refine stop_eqSlice ⟨_, _, rfl⟩ ?_))
                go_roundw
                case rel => exact ⟨s + 1, by omega, by go_num, hcr, by rw [Hss.out, ← List.append_assoc, ← Hsp.out]; exact Hown.out⟩
                case measure => simp [intOf]; omega
          · obtain rfl : s = sh := by omega
            have zz1 := Hz1.out wr hcr
            have zc := Ha2.out wr hcr
            go_wp2_with (first | (with_reducible refine stop_append ?_) | (with_reducible refine stop_copy ?_) | (with_reducible refine stop_make ?_) | (with_reducible refine stop_lookup ?_) | (with_reducible refine stop_update ?_) | (with_reducible refine stop_slice ?_) | (with_reducible refine stop_range ?_) | (with_reducible refine stop_next ?_) | (with_reducible refine stop_convert ⟨_, rfl⟩ ?_) | (with_reducible refine stop_convertB ⟨_, _, _, rfl⟩ ?_) | (with_reducible refine stop_eqSlice ⟨_, _, rfl⟩ ?_))
            go_roundw
            case rel => exact ⟨i + 1, by omega, by go_num, hcr, by rw [Hrs.out]; exact Hown.out, by rw [Hrs.out]; exact Hsv.out⟩
            case measure => simp [intOf]; omega
      · rw [if_neg hk] at hrs
        have hk2 : (l[i].2.1 != 1) = true := by simpa using hk
        have hk3 : (l[i].2.1 == 1) = false := by simpa using hk
        have Hrs := Lib.hid hrs
        clear hrs hk a0 a1 a2 a3 a4 a5
        generalize l[i].2.1 = kd at *
        go_wp2_with (first | (with_reducible refine stop_append ?_) | (with_reducible refine stop_copy ?_) | (with_reducible refine stop_make ?_) | (with_reducible refine stop_lookup ?_) | (with_reducible refine stop_update ?_) | (with_reducible refine stop_slice ?_) | (with_reducible refine stop_range ?_) | (with_reducible refine stop_next ?_) | (with_reducible refine stop_convert ⟨_, rfl⟩ ?_) | (with_reducible refine stop_convertB ⟨_, _, _, rfl⟩ ?_) | (with_reducible refine stop_eqSlice ⟨_, _, rfl⟩ ?_))
        go_roundw
        case rel => exact ⟨i + 1, by omega, by go_num, hcr, by rw [Hrs.out]; exact Hown.out, by rw [Hrs.out]; exact Hlast.out⟩
        case measure => simp [intOf]; omega
    · obtain rfl : i = l.length := by omega
      rw [HR.out.fin] at Hown ⊢
      go_wp2_with (first | (with_reducible refine stop_append ?_) | (with_reducible refine stop_copy ?_) | (with_reducible refine stop_make ?_) | (with_reducible refine stop_lookup ?_) | (with_reducible refine stop_update ?_) | (with_reducible refine stop_slice ?_) | (with_reducible refine stop_range ?_) | (with_reducible refine stop_next ?_) | (with_reducible refine stop_convert ⟨_, rfl⟩ ?_) | (with_reducible refine stop_convertB ⟨_, _, _, rfl⟩ ?_) | (with_reducible refine stop_eqSlice ⟨_, _, rfl⟩ ?_))
      go_ret
      exact ⟨_, rfl, hcw.trans hcr, Hown.out.slFlat (G := Lt w.heap.size) (fun k hk f => by have := (Hown.out.lt k hk).1; simp only [Lt] at f; omega)⟩
end Go.Proofs.Ytbjpoamnglfjeaa
