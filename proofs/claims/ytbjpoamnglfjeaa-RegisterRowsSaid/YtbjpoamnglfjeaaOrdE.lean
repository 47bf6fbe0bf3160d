/- Walks of package order and of its laws: entries in memory, mine, few, Of. -/
import Derived.Test.YtbjpoamnglfjeaaOrdD
set_option linter.unusedVariables false
set_option linter.unusedSimpArgs false
namespace Go.Proofs.Ytbjpoamnglfjeaa
open Go.RowKit Cb

/-- An entry's cells. -/
def entC (e : Ent) (v : Value) : List Value := [.int .i64 e.1, .int .i64 e.2.1, v, .int .i64 e.2.2.2.1, .int .i64 e.2.2.2.2.1, .int .i64 e.2.2.2.2.2]
theorem ent_cs {F : Nat → Prop} {w : World} {e : Ent} {d : List Value} (h : Rep.cs F w e d) : ∃ v, d = entC e v ∧ Sl F w v e.2.2.1 := by
  obtain ⟨d1, d2, rfl, rfl, ⟨d3, d4, rfl, rfl, ⟨d5, d6, rfl, ⟨v, rfl, hv⟩, ⟨d7, d8, rfl, rfl, ⟨d9, d10, rfl, rfl, rfl⟩⟩⟩⟩⟩ := h
  exact ⟨v, rfl, hv⟩
theorem ent_mk {F : Nat → Prop} {w : World} (e : Ent) {v : Value} (h : Sl F w v e.2.2.1) : Rep.cs F w e (entC e v) :=
  ⟨[_], _, rfl, rfl, [_], _, rfl, rfl, [_], _, rfl, ⟨v, rfl, h⟩, [_], _, rfl, rfl, [_], [_], rfl, rfl, rfl⟩
theorem ent_n : Rep.n Ent = 6 := rfl
theorem info_ent : Info Try.prog 58 (.agg #[.int .i64 0, .int .i64 0, .slice none 0 0, .int .i64 0, .int .i64 0, .int .i64 0]) 6 64 := by unfold Info; kernel_rfl
/-- One entry of a row. -/
theorem ent_get {F : Nat → Prop} {w : World} {A : Option Addr} {n c : Nat} {l : List Ent} (h : Sl F w (.slice A n c) l) (k : Nat) (hk : k < l.length) :
    ∃ b o v, A = some ⟨b, o, none⟩ ∧ ¬ F b ∧ b < w.heap.size ∧ Sl F w v l[k].2.2.1 ∧ w.cell? ⟨b, o + k * 6, none⟩ = some (.int .i64 l[k].1) ∧ w.cell? ⟨b, o + k * 6 + 1, none⟩ = some (.int .i64 l[k].2.1) ∧ w.cell? ⟨b, o + k * 6 + 2, none⟩ = some v ∧
      w.cell? ⟨b, o + k * 6 + 3, none⟩ = some (.int .i64 l[k].2.2.2.1) ∧ w.cell? ⟨b, o + k * 6 + 4, none⟩ = some (.int .i64 l[k].2.2.2.2.1) ∧ w.cell? ⟨b, o + k * 6 + 5, none⟩ = some (.int .i64 l[k].2.2.2.2.2) := by
  obtain ⟨b, o, d, rfl, hF, hb, hd, ha⟩ := h.get k hk
  obtain ⟨v, rfl, hv⟩ := ent_cs hd
  exact ⟨b, o, v, rfl, hF, hb, hv, ha 0 _ rfl, ha 1 _ rfl, ha 2 _ rfl, ha 3 _ rfl, ha 4 _ rfl, ha 5 _ rfl⟩
theorem Sl.up {α : Type} [Rep α] {w : World} {v : Value} {xs : List α} (h : Sl No w v xs) {n : Nat} (hn : w.heap.size ≤ n) : Sl (Ge n) w v xs := h.weak (fun b hb g => by simp only [Ge] at g; omega)

set_option maxRecDepth 100000 in
set_option maxHeartbeats 1000000 in
theorem mine_any (v : Value) (l : List Ent) (w : World) (h : Sl No w v l) (hl : l.length * 64 ≤ 140737488355328) :
    Calls Try.prog 15 #[v] w fun e w' => ∃ v', e = .returned v' ∧ Chg No w w' ∧ Sl No w' v' l := by
  obtain ⟨A, c, rfl⟩ := h.slice
  have H := Lib.hid h
  clear h
  go_enter Try.func15, Try.ntmps15
  go_wp2_with (first | (with_reducible refine stop_append ?_) | (with_reducible refine stop_copy ?_) | (with_reducible refine stop_make ?_) | (with_reducible refine stop_lookup ?_) | (with_reducible refine stop_update ?_) | (with_reducible refine stop_slice ?_) | (with_reducible refine stop_range ?_) | (with_reducible refine stop_next ?_) | (with_reducible refine stop_convert ⟨_, rfl⟩ ?_) | (with_reducible refine stop_convertB ⟨_, _, _, rfl⟩ ?_) | (with_reducible refine stop_eqSlice ⟨_, _, rfl⟩ ?_))
  go_loopw [3, 5, 8] (fun v3 _ v8 wr => ∃ k : Nat, k ≤ l.length ∧ v8 = .int .i64 k ∧ Chg No w wr ∧ Cb.Own No wr w.heap.size 58 v3 (l.take k)) (fun _ _ v8 _ => l.length - (intOf v8).toNat)
  case atStart => exact ⟨0, by omega, rfl, Chg.refl _ _, Cb.Own.nil _ _ _ _⟩
  case round =>
    obtain ⟨k, hk, rfl, hc1, hown⟩ := hrel
    by_cases hlt : k < l.length
    · have hgs : Sl (Ge w.heap.size) wr (.slice A l.length c) l := (Sl.up H.out (Nat.le_refl _)).keepNo hc1
      obtain ⟨b, o, vc, rfl, hnb, hbl, hsv, a0, a1, a2, a3, a4, a5⟩ := ent_get hgs k hlt
      have htk := List.take_succ_eq_append_getElem hlt
      clear hgs
      generalize l[k] = x at a0 a1 a2 a3 a4 a5 hsv htk
      have Hsv := Lib.hid hsv
      have Hcs := Lib.hid (ent_mk x hsv)
      obtain ⟨n, kd, cut, tag, t, u⟩ := x
      simp only [entC] at a0 a1 a2 a3 a4 a5 Hcs
      obtain ⟨Av, cv, rfl⟩ := hsv.slice
      have hlen : (l.take k).length = k := by simp; omega
      generalize l.take k = acc at hlen htk hown
      have Htk := Lib.hid htk
      have Hlen := Lib.hid hlen
      obtain ⟨A3, c3, rfl⟩ := hown.slice
      have Hown := Lib.hid hown
      clear hsv hown htk hlen
      go_wp2_with (first | (with_reducible refine stop_append ?_) | (with_reducible refine stop_copy ?_) | (with_reducible refine stop_make ?_) | (with_reducible refine stop_lookup ?_) | (with_reducible refine stop_update ?_) | (with_reducible refine stop_slice ?_) | (with_reducible refine stop_range ?_) | (with_reducible refine stop_next ?_) | (with_reducible refine stop_convert ⟨_, rfl⟩ ?_) | (with_reducible refine stop_convertB ⟨_, _, _, rfl⟩ ?_) | (with_reducible refine stop_eqSlice ⟨_, _, rfl⟩ ?_))
      have hca := (Chg.refl No wr).alloc (.cells #[.int .i64 n, .int .i64 kd, .slice Av cut.length cv, .int .i64 tag, .int .i64 t, .int .i64 u] 52)
      have hcb := hca.alloc (.cells #[.int .i64 n, .int .i64 kd, .slice Av cut.length cv, .int .i64 tag, .int .i64 t, .int .i64 u] 58)
      generalize hw4 : wr.alloc (.cells #[.int .i64 n, .int .i64 kd, .slice Av cut.length cv, .int .i64 tag, .int .i64 t, .int .i64 u] 52) = w4 at hca hcb ⊢
      have e4 : w4.heap.size = wr.heap.size + 1 := by rw [← hw4]; simp
      rw [← e4]
      have hobl : ∀ i, OB (.slice A3 acc.length c3) i → w.heap.size ≤ i ∧ i < wr.heap.size := fun i hi => Hown.out.lt i hi
      have hlit : Sl (OB (.slice A3 acc.length c3)) (w4.alloc (.cells #[.int .i64 n, .int .i64 kd, .slice Av cut.length cv, .int .i64 tag, .int .i64 t, .int .i64 u] 58)) (.slice (some ⟨w4.heap.size, 0, none⟩) 1 1) [(n, kd, cut, tag, t, u)] :=
        Sl.lit1 rfl (Rep.weak (Rep.keep Hcs.out hca.of_no) (fun i _ hi => (hobl i hi).1)) (fun hi => by have := hobl _ hi; omega)
      refine step_append_sl (α := Ent) (F := No) (G := OB (.slice A3 acc.length c3)) Try.underlying28 info_ent rfl (Hown.out.keep hcb (fun _ _ f => f) (fun _ _ f => f)) rfl rfl hlit (fun i _ hi => hi.elim (fun f => f.elim) id) (by have := Hlen.out; simp; omega) (by have := Hlen.out; simp [ent_n]; omega) (by have := hc1.size; have := hcb.size; omega) ?_
      intro v6 w6 hown6 hg6
      rw [← Htk.out] at hown6
      have hcw : Chg No w w6 := (hc1.trans hcb).grew hg6 (fun i hi => .inr (hobl i hi).1)
      have Hown6 := Lib.hid hown6
      clear hown6 hg6 hlit
      go_wp2_with (first | (with_reducible refine stop_append ?_) | (with_reducible refine stop_copy ?_) | (with_reducible refine stop_make ?_) | (with_reducible refine stop_lookup ?_) | (with_reducible refine stop_update ?_) | (with_reducible refine stop_slice ?_) | (with_reducible refine stop_range ?_) | (with_reducible refine stop_next ?_) | (with_reducible refine stop_convert ⟨_, rfl⟩ ?_) | (with_reducible refine stop_convertB ⟨_, _, _, rfl⟩ ?_) | (with_reducible refine stop_eqSlice ⟨_, _, rfl⟩ ?_))
      go_roundw
      case rel => exact ⟨k + 1, by omega, by go_num, hcw, Hown6.out⟩
      case measure => simp [intOf]; omega
    · obtain rfl : k = l.length := by omega
      rw [List.take_length] at hown
      have Hown := Lib.hid hown
      obtain ⟨A3, c3, rfl⟩ := hown.slice
      clear hown
      go_wp2_with (first | (with_reducible refine stop_append ?_) | (with_reducible refine stop_copy ?_) | (with_reducible refine stop_make ?_) | (with_reducible refine stop_lookup ?_) | (with_reducible refine stop_update ?_) | (with_reducible refine stop_slice ?_) | (with_reducible refine stop_range ?_) | (with_reducible refine stop_next ?_) | (with_reducible refine stop_convert ⟨_, rfl⟩ ?_) | (with_reducible refine stop_convertB ⟨_, _, _, rfl⟩ ?_) | (with_reducible refine stop_eqSlice ⟨_, _, rfl⟩ ?_))
      go_ret
      exact ⟨_, rfl, hc1, Hown.out.sl (fun _ _ f => f)⟩
def cutsB (l : List Ent) : Prop := ∀ e ∈ l, e.2.2.1.length * 8 ≤ 140737488355328
set_option maxRecDepth 100000 in
set_option maxHeartbeats 1000000 in
theorem oof_no (n : Int) (v : Value) (l : List Ent) (w : World) (h : ¬ (1 ≤ n ∧ n ≤ 8)) (hs : Sl No w v l) :
    Calls Try.prog 14 #[.int .i64 n, v] w fun e w' => e = .returned (.tuple #[.pointer none, .int .i64 0]) ∧ Chg No w w' := by
  have H := Lib.hid (onew_no n w h)
  obtain ⟨A, c, rfl⟩ := hs.slice
  clear h hs
  go_enter Try.func14, Try.ntmps14
  go_wp2_with (first | (with_reducible refine stop_append ?_) | (with_reducible refine stop_copy ?_) | (with_reducible refine stop_make ?_) | (with_reducible refine stop_lookup ?_) | (with_reducible refine stop_update ?_) | (with_reducible refine stop_slice ?_) | (with_reducible refine stop_range ?_) | (with_reducible refine stop_next ?_) | (with_reducible refine stop_convert ⟨_, rfl⟩ ?_) | (with_reducible refine stop_convertB ⟨_, _, _, rfl⟩ ?_) | (with_reducible refine stop_eqSlice ⟨_, _, rfl⟩ ?_))
  refine H.out.mono ?_
  rintro e w1 ⟨rfl, hc⟩
  go_wp2_with (first | (with_reducible refine stop_append ?_) | (with_reducible refine stop_copy ?_) | (with_reducible refine stop_make ?_) | (with_reducible refine stop_lookup ?_) | (with_reducible refine stop_update ?_) | (with_reducible refine stop_slice ?_) | (with_reducible refine stop_range ?_) | (with_reducible refine stop_next ?_) | (with_reducible refine stop_convert ⟨_, rfl⟩ ?_) | (with_reducible refine stop_convertB ⟨_, _, _, rfl⟩ ?_) | (with_reducible refine stop_eqSlice ⟨_, _, rfl⟩ ?_))
  go_ret2
  exact ⟨rfl, hc⟩
set_option maxRecDepth 100000 in
set_option maxHeartbeats 1000000 in
theorem oof_yes (n : Nat) (v : Value) (l : List Ent) (w : World) (h1 : 1 ≤ n) (h8 : n ≤ 8) (hs : Sl No w v l) (hl : l.length * 64 ≤ 140737488355328) (hcb : cutsB l) :
    Calls Try.prog 14 #[.int .i64 n, v] w fun e w' => ∃ p, e = .returned (.tuple #[.pointer (some ⟨p, 0, none⟩), .int .i64 (ofF (newF n) l).2]) ∧ Chg No w w' ∧ Ord w' w.heap.size w'.heap.size p (ofF (newF n) l).1 := by
  have H := Lib.hid (onew_yes n w h1 h8)
  have HI := Lib.hid (inv_new n h1 h8)
  have Hs := Lib.hid (Sl.up hs (Nat.le_refl _))
  have Hcb := Lib.hid hcb
  obtain ⟨A, c, rfl⟩ := hs.slice
  have hfin := Lib.hid (show ∀ k, k ≤ l.length → (ofF (newF n) (l.take k)).2 = k → (hlt : k < l.length) → (addF (ofF (newF n) (l.take k)).1 l[k]).2 ≠ 0 → ofF (newF n) l = ((ofF (newF n) (l.take k)).1, k) from fun k hk h2 hlt hne => by
    have e1 : l = l.take (k + 1) ++ l.drop (k + 1) := (List.take_append_drop _ _).symm
    have e2 : l.take (k + 1) = l.take k ++ [l[k]] := List.take_succ_eq_append_getElem hlt
    have e3 := of_snoc (o := newF n) (l := l.take k) (by rw [h2]; simp; omega) l[k]
    rw [if_neg hne] at e3
    have hlen : (l.take k).length = k := by simp; omega
    rw [← e2, hlen] at e3
    conv => lhs; rw [e1]
    rw [of_app_le (by rw [e3]; simp; omega), e3])
  clear hs hcb
  go_enter Try.func14, Try.ntmps14
  go_wp2_with (first | (with_reducible refine stop_append ?_) | (with_reducible refine stop_copy ?_) | (with_reducible refine stop_make ?_) | (with_reducible refine stop_lookup ?_) | (with_reducible refine stop_update ?_) | (with_reducible refine stop_slice ?_) | (with_reducible refine stop_range ?_) | (with_reducible refine stop_next ?_) | (with_reducible refine stop_convert ⟨_, rfl⟩ ?_) | (with_reducible refine stop_convertB ⟨_, _, _, rfl⟩ ?_) | (with_reducible refine stop_eqSlice ⟨_, _, rfl⟩ ?_))
  refine H.out.mono ?_
  rintro e w1 ⟨p, rfl, hc, ho⟩
  have Ho := Lib.hid ho
  clear ho
  go_wp2_with (first | (with_reducible refine stop_append ?_) | (with_reducible refine stop_copy ?_) | (with_reducible refine stop_make ?_) | (with_reducible refine stop_lookup ?_) | (with_reducible refine stop_update ?_) | (with_reducible refine stop_slice ?_) | (with_reducible refine stop_range ?_) | (with_reducible refine stop_next ?_) | (with_reducible refine stop_convert ⟨_, rfl⟩ ?_) | (with_reducible refine stop_convertB ⟨_, _, _, rfl⟩ ?_) | (with_reducible refine stop_eqSlice ⟨_, _, rfl⟩ ?_))
  go_loopw [8, 9, 19] (fun _ _ v19 wr => ∃ k : Nat, k ≤ l.length ∧ v19 = .int .i64 k ∧ Chg No w wr ∧ Ord wr w.heap.size wr.heap.size p (ofF (newF n) (l.take k)).1 ∧ (ofF (newF n) (l.take k)).2 = k) (fun _ _ v19 _ => l.length - (intOf v19).toNat)
  case atStart => exact ⟨0, by omega, rfl, hc, Ho.out, rfl⟩
  case round =>
    obtain ⟨k, hk, rfl, hc1, ho, h2⟩ := hrel
    have hI := inv_of HI.out (l.take k)
    by_cases hlt : k < l.length
    · have hgs : Sl (Ge w.heap.size) wr (.slice A l.length c) l := Hs.out.keepNo hc1
      obtain ⟨b, o, vc, rfl, hnb, hbl, hsv, a0, a1, a2, a3, a4, a5⟩ := ent_get hgs k hlt
      have hsn := of_snoc (o := newF n) (l := l.take k) (by rw [h2]; simp; omega) l[k]
      rw [← List.take_succ_eq_append_getElem hlt] at hsn
      have hst := hfin.out k hk h2 hlt
      have hcut := Hcb.out _ (List.getElem_mem hlt)
      have hlen : (l.take k).length = k := by simp; omega
      rw [hlen] at hsn
      clear hgs
      generalize l[k] = x at a0 a1 a2 a3 a4 a5 hsv hsn hst hcut
      generalize ofF (newF n) (l.take k) = st at *
      obtain ⟨st, j⟩ := st
      simp only at h2 hsn hst ho hI
      subst h2
      have hca := (Chg.refl No wr).alloc (.cells (entC x vc).toArray 58)
      have hadd := oadd_any (ho.keepNo hca).top hI x vc (hsv.keepNo hca) hcut
      obtain ⟨nn, kd, cut, tag, t, u⟩ := x
      obtain ⟨Av, cv, rfl⟩ := hsv.slice
      simp only [entC, entV] at a0 a1 a2 a3 a4 a5 hadd hca
      generalize haf : addF st (nn, kd, cut, tag, t, u) = r at *
      obtain ⟨st', code⟩ := r
      unfold AddPost at hadd
      have Hno := Lib.hid (show code ≠ 0 → st' = st from fun hne => by have := add_no (o := st) (e := (nn, kd, cut, tag, t, u)) (by rw [haf]; exact hne); rw [haf] at this; exact this)
      have Hadd := Lib.hid hadd
      have Hsn := Lib.hid hsn
      have Hst := Lib.hid hst
      clear hadd hsn hst haf hsv
      simp only at Hadd Hsn Hst
      by_cases hcd : code = 0
      · subst hcd
        go_wp2_with (first | (with_reducible refine stop_append ?_) | (with_reducible refine stop_copy ?_) | (with_reducible refine stop_make ?_) | (with_reducible refine stop_lookup ?_) | (with_reducible refine stop_update ?_) | (with_reducible refine stop_slice ?_) | (with_reducible refine stop_range ?_) | (with_reducible refine stop_next ?_) | (with_reducible refine stop_convert ⟨_, rfl⟩ ?_) | (with_reducible refine stop_convertB ⟨_, _, _, rfl⟩ ?_) | (with_reducible refine stop_eqSlice ⟨_, _, rfl⟩ ?_))
        refine Hadd.out.mono ?_
        rintro e w2 ⟨rfl, hc2, ho2⟩
        have hcw : Chg No w w2 := (hc1.trans hca).old hc2 (fun i hi => hi.1)
        have Ho2 := Lib.hid ho2
        clear ho2
        go_wp2_with (first | (with_reducible refine stop_append ?_) | (with_reducible refine stop_copy ?_) | (with_reducible refine stop_make ?_) | (with_reducible refine stop_lookup ?_) | (with_reducible refine stop_update ?_) | (with_reducible refine stop_slice ?_) | (with_reducible refine stop_range ?_) | (with_reducible refine stop_next ?_) | (with_reducible refine stop_convert ⟨_, rfl⟩ ?_) | (with_reducible refine stop_convertB ⟨_, _, _, rfl⟩ ?_) | (with_reducible refine stop_eqSlice ⟨_, _, rfl⟩ ?_))
        go_roundw
        case rel => exact ⟨j + 1, by omega, by go_num, hcw, by rw [Hsn.out]; exact Ho2.out, by rw [Hsn.out]; rfl⟩
        case measure => simp [intOf]; omega
      · have hcd2 : (code != 0) = true := by simpa using hcd
        have hcd3 : (code == 0) = false := by simpa using hcd
        have Hcd := Lib.hid hcd
        clear hcd
        go_wp2_with (first | (with_reducible refine stop_append ?_) | (with_reducible refine stop_copy ?_) | (with_reducible refine stop_make ?_) | (with_reducible refine stop_lookup ?_) | (with_reducible refine stop_update ?_) | (with_reducible refine stop_slice ?_) | (with_reducible refine stop_range ?_) | (with_reducible refine stop_next ?_) | (with_reducible refine stop_convert ⟨_, rfl⟩ ?_) | (with_reducible refine stop_convertB ⟨_, _, _, rfl⟩ ?_) | (with_reducible refine stop_eqSlice ⟨_, _, rfl⟩ ?_))
        refine Hadd.out.mono ?_
        rintro e w2 ⟨rfl, hc2, ho2⟩
        have hcw : Chg No w w2 := (hc1.trans hca).old hc2 (fun i hi => hi.1)
        have Ho2 := Lib.hid ho2
        clear ho2
        go_wp2_with (first | (with_reducible refine stop_append ?_) | (with_reducible refine stop_copy ?_) | (with_reducible refine stop_make ?_) | (with_reducible refine stop_lookup ?_) | (with_reducible refine stop_update ?_) | (with_reducible refine stop_slice ?_) | (with_reducible refine stop_range ?_) | (with_reducible refine stop_next ?_) | (with_reducible refine stop_convert ⟨_, rfl⟩ ?_) | (with_reducible refine stop_convertB ⟨_, _, _, rfl⟩ ?_) | (with_reducible refine stop_eqSlice ⟨_, _, rfl⟩ ?_))
        go_ret2
        exact ⟨p, by rw [Hst.out Hcd.out]; rfl, hcw, by rw [Hst.out Hcd.out, ← Hno.out Hcd.out]; exact Ho2.out⟩
    · obtain rfl : k = l.length := by omega
      rw [List.take_length] at ho h2
      have Ho2 := Lib.hid ho
      have H2 := Lib.hid h2
      clear ho h2
      go_wp2_with (first | (with_reducible refine stop_append ?_) | (with_reducible refine stop_copy ?_) | (with_reducible refine stop_make ?_) | (with_reducible refine stop_lookup ?_) | (with_reducible refine stop_update ?_) | (with_reducible refine stop_slice ?_) | (with_reducible refine stop_range ?_) | (with_reducible refine stop_next ?_) | (with_reducible refine stop_convert ⟨_, rfl⟩ ?_) | (with_reducible refine stop_convertB ⟨_, _, _, rfl⟩ ?_) | (with_reducible refine stop_eqSlice ⟨_, _, rfl⟩ ?_))
      go_ret2
      exact ⟨_, by rw [H2.out]; rfl, hc1, Ho2.out⟩
end Go.Proofs.Ytbjpoamnglfjeaa
