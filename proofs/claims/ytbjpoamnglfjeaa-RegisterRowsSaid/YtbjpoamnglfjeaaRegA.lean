/- Walks of package register: entries of the caller's own. -/
import Derived.Test.YtbjpoamnglfjeaaOrdE
import Derived.Test.YtbjpoamnglfjeaaTerB
set_option linter.unusedVariables false
set_option linter.unusedSimpArgs false
namespace Go.Proofs.Ytbjpoamnglfjeaa
open Go.RowKit Cb

set_option maxRecDepth 100000 in
set_option maxHeartbeats 1000000 in
theorem regents_any (v : Value) (l : List Ent) (w : World) (h : Sl No w v l) (hl : l.length ≤ 2199023255488) (hcb : ∀ e ∈ l, e.2.2.1.length ≤ 1000000) :
    Calls Try.prog 72 #[v] w fun e w' => ∃ v', e = .returned v' ∧ Chg No w w' ∧ Sl (Lt w.heap.size) w' v' l := by
  obtain ⟨A, c, rfl⟩ := h.slice
  have H := Lib.hid h
  have Hcb := Lib.hid hcb
  clear h hcb
  go_enter Try.func72, Try.ntmps72
  go_wp2_with (first | (with_reducible refine stop_append ?_) | (with_reducible refine stop_copy ?_) | (with_reducible refine stop_make ?_) | (with_reducible refine stop_lookup ?_) | (with_reducible refine stop_update ?_) | (with_reducible refine stop_slice ?_) | (with_reducible refine stop_range ?_) | (with_reducible refine stop_next ?_) | (with_reducible refine stop_convert ⟨_, rfl⟩ ?_) | (with_reducible refine stop_convertB ⟨_, _, _, rfl⟩ ?_) | (with_reducible refine stop_eqSlice ⟨_, _, rfl⟩ ?_))
  go_loopw [3, 8] (fun v3 v8 wr => ∃ k : Nat, k ≤ l.length ∧ v8 = .int .i64 k ∧ Chg No w wr ∧ Cb.Own (Lt w.heap.size) wr w.heap.size 58 v3 (l.take k)) (fun _ v8 _ => l.length - (intOf v8).toNat)
  case atStart => exact ⟨0, by omega, rfl, Chg.refl _ _, Cb.Own.nil _ _ _ _⟩
  case round =>
    obtain ⟨k, hk, rfl, hc1, hown⟩ := hrel
    by_cases hlt : k < l.length
    · have hgs : Sl (Ge w.heap.size) wr (.slice A l.length c) l := (Sl.up H.out (Nat.le_refl _)).keepNo hc1
      obtain ⟨b, o, vc, rfl, hnb, hbl, hsv, a0, a1, a2, a3, a4, a5⟩ := ent_get hgs k hlt
      have htk := List.take_succ_eq_append_getElem hlt
      have hcl := Hcb.out _ (List.getElem_mem hlt)
      clear hgs
      generalize l[k] = x at a0 a1 a2 a3 a4 a5 hsv htk hcl
      have Hsv := Lib.hid hsv
      obtain ⟨n, kd, cut, tag, t, u⟩ := x
      simp only [entC] at a0 a1 a2 a3 a4 a5 hcl Hsv
      obtain ⟨Av, cv, rfl⟩ := hsv.slice
      have hlen : (l.take k).length = k := by simp; omega
      generalize l.take k = acc at hlen htk hown
      have Htk := Lib.hid htk
      have Hlen := Lib.hid hlen
      obtain ⟨A3, c3, rfl⟩ := hown.slice
      have Hown := Lib.hid hown
      clear hsv hown htk hlen
      have hca := (Chg.refl No wr).alloc (.cells #[.int .i64 n, .int .i64 kd, .slice Av cut.length cv, .int .i64 tag, .int .i64 t, .int .i64 u] 58)
      have ho := alloc_obj wr (.cells #[.int .i64 n, .int .i64 kd, .slice Av cut.length cv, .int .i64 tag, .int .i64 t, .int .i64 u] 58)
      have b2 := cell_obj (i := 2) ho rfl
      have Hclone := Lib.hid (vclone_any _ _ cut _ (Hsv.out.keepNo hca) hcl)
      go_wp2_with (first | (with_reducible refine stop_append ?_) | (with_reducible refine stop_copy ?_) | (with_reducible refine stop_make ?_) | (with_reducible refine stop_lookup ?_) | (with_reducible refine stop_update ?_) | (with_reducible refine stop_slice ?_) | (with_reducible refine stop_range ?_) | (with_reducible refine stop_next ?_) | (with_reducible refine stop_convert ⟨_, rfl⟩ ?_) | (with_reducible refine stop_convertB ⟨_, _, _, rfl⟩ ?_) | (with_reducible refine stop_eqSlice ⟨_, _, rfl⟩ ?_))
      generalize wr.alloc (.cells #[.int .i64 n, .int .i64 kd, .slice Av cut.length cv, .int .i64 tag, .int .i64 t, .int .i64 u] 58) = w4 at *
      have hql := lt_of_heap ho
      refine Hclone.out.mono ?_
      rintro e w5 ⟨vn, rfl, hc5, hsn⟩
      obtain ⟨An, cn, rfl⟩ := hsn.slice
      have Hsn := Lib.hid hsn
      clear hsn b2 a0 a1 a2 a3 a4 a5
      have ho5 := hc5.obj ho (not_no _)
      obtain ⟨p, hp⟩ : ∃ p, p = wr.heap.size := ⟨_, rfl⟩
      rw [← hp] at ho5 hql ⊢
      have Hp := Lib.hid hp
      clear hp ho
      have c0 := cell_obj (i := 0) ho5 rfl
      have c1 := cell_obj (i := 1) ho5 rfl
      have c2 := cell_obj (i := 2) ho5 rfl
      have c3' := cell_obj (i := 3) ho5 rfl
      have c4 := cell_obj (i := 4) ho5 rfl
      have c5 := cell_obj (i := 5) ho5 rfl
      have f2 := free_obj (i := 2) ho5
      go_wp2_with (first | (with_reducible refine stop_append ?_) | (with_reducible refine stop_copy ?_) | (with_reducible refine stop_make ?_) | (with_reducible refine stop_lookup ?_) | (with_reducible refine stop_update ?_) | (with_reducible refine stop_slice ?_) | (with_reducible refine stop_range ?_) | (with_reducible refine stop_next ?_) | (with_reducible refine stop_convert ⟨_, rfl⟩ ?_) | (with_reducible refine stop_convertB ⟨_, _, _, rfl⟩ ?_) | (with_reducible refine stop_eqSlice ⟨_, _, rfl⟩ ?_))
      have e6 : (w5.setCell ⟨p, 2, none⟩ (.slice An cut.length cn)).heap.size = w5.heap.size := by simp
      have hc6 : Chg (At p) w5 (w5.setCell ⟨p, 2, none⟩ (.slice An cut.length cn)) := chg_set _
      clear c0 c1 c2 c3' c4 c5 f2 ho5
      generalize w5.setCell ⟨p, 2, none⟩ (.slice An cut.length cn) = w6 at *
      rw [← e6]
      have hc16 : Chg No wr w6 := (hca.trans hc5).old hc6 (fun i h => by have := Hp.out; simp only [At] at h; omega)
      have hc67 := (Chg.refl No w6).alloc (.cells #[.int .i64 n, .int .i64 kd, .slice An cut.length cn, .int .i64 tag, .int .i64 t, .int .i64 u] 58)
      have hobl : ∀ i, OB (.slice A3 acc.length c3) i → w.heap.size ≤ i ∧ i < wr.heap.size := fun i hi => Hown.out.lt i hi
      have hw4 := hca.size
      have hw1 := hc1.size
      have hsn6 : Sl (Or (Lt w.heap.size) (OB (.slice A3 acc.length c3))) w6 (.slice An cut.length cn) cut :=
        ((Hsn.out.weak (G := Or (Or (Lt w.heap.size) (OB (.slice A3 acc.length c3))) (At p)) (fun i _ hi => by
          simp only [Lt]
          rcases hi with (hi | hi) | hi
          · simp only [Lt] at hi; omega
          · have := hobl i hi; omega
          · simp only [At] at hi; omega)).keep (hc6.weak (fun i _ hi => .inr hi))).weak (fun i _ hi => .inl hi)
      have hlit : Sl (Or (Lt w.heap.size) (OB (.slice A3 acc.length c3))) (w6.alloc (.cells #[.int .i64 n, .int .i64 kd, .slice An cut.length cn, .int .i64 tag, .int .i64 t, .int .i64 u] 58)) (.slice (some ⟨w6.heap.size, 0, none⟩) 1 1) [(n, kd, cut, tag, t, u)] :=
        Sl.lit1 rfl (ent_mk (n, kd, cut, tag, t, u) hsn6) (fun hi => by
          have := hc16.size
          rcases hi with hi | hi
          · simp only [Lt] at hi; omega
          · have := hobl _ hi; omega)
      refine step_append_sl (α := Ent) (F := Lt w.heap.size) (G := Or (Lt w.heap.size) (OB (.slice A3 acc.length c3))) Try.underlying28 info_ent rfl (Hown.out.keep (hc16.trans hc67) (fun _ _ f => f.elim) (fun _ _ f => f)) rfl rfl hlit (fun i _ hi => hi) (by have := Hlen.out; simp; omega) (by have := Hlen.out; simp [ent_n]; omega) (by have := hc16.size; have := hc67.size; omega) ?_
      intro v6 w8 hown6 hg6
      rw [← Htk.out] at hown6
      have hcw : Chg No w w8 := ((hc1.trans hc16).trans hc67).grew hg6 (fun i hi => .inr (hobl i hi).1)
      have Hown6 := Lib.hid hown6
      clear hown6 hg6 hlit hsn6
      go_wp2_with (first | (with_reducible refine stop_append ?_) | (with_reducible refine stop_copy ?_) | (with_reducible refine stop_make ?_) | (with_reducible refine stop_lookup ?_) | (with_reducible refine stop_update ?_) | (with_reducible refine stop_slice ?_) | (with_reducible refine stop_range ?_) | (with_reducible refine stop_next ?_) | (with_reducible refine stop_convert ⟨_, rfl⟩ ?_) | (with_reducible refine stop_convertB ⟨_, _, _, rfl⟩ ?_) | (with_reducible refine stop_eqSlice ⟨_, _, rfl⟩ ?_))
      go_roundw
      case rel => exact ⟨k + 1, by omega, by go_num, hcw, Hown6.out⟩
      case measure => simp [intOf]; omega
    · obtain rfl : k = l.length := by omega
      rw [List.take_length] at hown
      have Hown := Lib.hid hown
      obtain ⟨A3, c3, rfl⟩ := hown.slice
      clear hown
      go_wp2_with (first | (with_reducible refine stop_append ?_) | (with_reducible refine stop_copy ?_) | (with_reducible refine stop_make ?_) | (with_reducible refine stop_lookup ?_) | (with_reducible refine stop_update ?_) | (with_reducible refine stop_slice ?_) | (with_reducible refine stop_range ?_) | (with_reducible refine stop_next ?_) | (with_reducible refine stop_convert ⟨_, rfl⟩ ?_) | (with_reducible refine stop_convertB ⟨_, _, _, rfl⟩ ?_) | (with_reducible refine stop_eqSlice ⟨_, _, rfl⟩ ?_))
      go_ret
      exact ⟨_, rfl, hc1, Hown.out.sl (fun i hi f => by have := (Hown.out.lt i hi).1; simp only [Lt] at f; omega)⟩
set_option maxRecDepth 100000 in
set_option maxHeartbeats 1000000 in
theorem repents_any (v : Value) (l : List Ent) (w : World) (h : Sl No w v l) (hl : l.length ≤ 2199023255488) (hcb : ∀ e ∈ l, e.2.2.1.length ≤ 1000000) :
    Calls Try.prog 87 #[v] w fun e w' => ∃ v', e = .returned v' ∧ Chg No w w' ∧ Sl (Lt w.heap.size) w' v' l := by
  obtain ⟨A, c, rfl⟩ := h.slice
  have H := Lib.hid h
  have Hcb := Lib.hid hcb
  clear h hcb
  go_enter Try.func87, Try.ntmps87
  go_wp2_with (first | (with_reducible refine stop_append ?_) | (with_reducible refine stop_copy ?_) | (with_reducible refine stop_make ?_) | (with_reducible refine stop_lookup ?_) | (with_reducible refine stop_update ?_) | (with_reducible refine stop_slice ?_) | (with_reducible refine stop_range ?_) | (with_reducible refine stop_next ?_) | (with_reducible refine stop_convert ⟨_, rfl⟩ ?_) | (with_reducible refine stop_convertB ⟨_, _, _, rfl⟩ ?_) | (with_reducible refine stop_eqSlice ⟨_, _, rfl⟩ ?_))
  go_loopw [3, 8] (fun v3 v8 wr => ∃ k : Nat, k ≤ l.length ∧ v8 = .int .i64 k ∧ Chg No w wr ∧ Cb.Own (Lt w.heap.size) wr w.heap.size 58 v3 (l.take k)) (fun _ v8 _ => l.length - (intOf v8).toNat)
  case atStart => exact ⟨0, by omega, rfl, Chg.refl _ _, Cb.Own.nil _ _ _ _⟩
  case round =>
    obtain ⟨k, hk, rfl, hc1, hown⟩ := hrel
    by_cases hlt : k < l.length
    · have hgs : Sl (Ge w.heap.size) wr (.slice A l.length c) l := (Sl.up H.out (Nat.le_refl _)).keepNo hc1
      obtain ⟨b, o, vc, rfl, hnb, hbl, hsv, a0, a1, a2, a3, a4, a5⟩ := ent_get hgs k hlt
      have htk := List.take_succ_eq_append_getElem hlt
      have hcl := Hcb.out _ (List.getElem_mem hlt)
      clear hgs
      generalize l[k] = x at a0 a1 a2 a3 a4 a5 hsv htk hcl
      have Hsv := Lib.hid hsv
      obtain ⟨n, kd, cut, tag, t, u⟩ := x
      simp only [entC] at a0 a1 a2 a3 a4 a5 hcl Hsv
      obtain ⟨Av, cv, rfl⟩ := hsv.slice
      have hlen : (l.take k).length = k := by simp; omega
      generalize l.take k = acc at hlen htk hown
      have Htk := Lib.hid htk
      have Hlen := Lib.hid hlen
      obtain ⟨A3, c3, rfl⟩ := hown.slice
      have Hown := Lib.hid hown
      clear hsv hown htk hlen
      have hca := (Chg.refl No wr).alloc (.cells #[.int .i64 n, .int .i64 kd, .slice Av cut.length cv, .int .i64 tag, .int .i64 t, .int .i64 u] 58)
      have ho := alloc_obj wr (.cells #[.int .i64 n, .int .i64 kd, .slice Av cut.length cv, .int .i64 tag, .int .i64 t, .int .i64 u] 58)
      have b2 := cell_obj (i := 2) ho rfl
      have Hclone := Lib.hid (vclone_any _ _ cut _ (Hsv.out.keepNo hca) hcl)
      go_wp2_with (first | (with_reducible refine stop_append ?_) | (with_reducible refine stop_copy ?_) | (with_reducible refine stop_make ?_) | (with_reducible refine stop_lookup ?_) | (with_reducible refine stop_update ?_) | (with_reducible refine stop_slice ?_) | (with_reducible refine stop_range ?_) | (with_reducible refine stop_next ?_) | (with_reducible refine stop_convert ⟨_, rfl⟩ ?_) | (with_reducible refine stop_convertB ⟨_, _, _, rfl⟩ ?_) | (with_reducible refine stop_eqSlice ⟨_, _, rfl⟩ ?_))
      generalize wr.alloc (.cells #[.int .i64 n, .int .i64 kd, .slice Av cut.length cv, .int .i64 tag, .int .i64 t, .int .i64 u] 58) = w4 at *
      have hql := lt_of_heap ho
      refine Hclone.out.mono ?_
      rintro e w5 ⟨vn, rfl, hc5, hsn⟩
      obtain ⟨An, cn, rfl⟩ := hsn.slice
      have Hsn := Lib.hid hsn
      clear hsn b2 a0 a1 a2 a3 a4 a5
      have ho5 := hc5.obj ho (not_no _)
      obtain ⟨p, hp⟩ : ∃ p, p = wr.heap.size := ⟨_, rfl⟩
      rw [← hp] at ho5 hql ⊢
      have Hp := Lib.hid hp
      clear hp ho
      have c0 := cell_obj (i := 0) ho5 rfl
      have c1 := cell_obj (i := 1) ho5 rfl
      have c2 := cell_obj (i := 2) ho5 rfl
      have c3' := cell_obj (i := 3) ho5 rfl
      have c4 := cell_obj (i := 4) ho5 rfl
      have c5 := cell_obj (i := 5) ho5 rfl
      have f2 := free_obj (i := 2) ho5
      go_wp2_with (first | (with_reducible refine stop_append ?_) | (with_reducible refine stop_copy ?_) | (with_reducible refine stop_make ?_) | (with_reducible refine stop_lookup ?_) | (with_reducible refine stop_update ?_) | (with_reducible refine stop_slice ?_) | (with_reducible refine stop_range ?_) | (with_reducible refine stop_next ?_) | (with_reducible refine stop_convert ⟨_, rfl⟩ ?_) | (with_reducible refine stop_convertB ⟨_, _, _, rfl⟩ ?_) | (with_reducible refine stop_eqSlice ⟨_, _, rfl⟩ ?_))
      have e6 : (w5.setCell ⟨p, 2, none⟩ (.slice An cut.length cn)).heap.size = w5.heap.size := by simp
      have hc6 : Chg (At p) w5 (w5.setCell ⟨p, 2, none⟩ (.slice An cut.length cn)) := chg_set _
      clear c0 c1 c2 c3' c4 c5 f2 ho5
      generalize w5.setCell ⟨p, 2, none⟩ (.slice An cut.length cn) = w6 at *
      rw [← e6]
      have hc16 : Chg No wr w6 := (hca.trans hc5).old hc6 (fun i h => by have := Hp.out; simp only [At] at h; omega)
      have hc67 := (Chg.refl No w6).alloc (.cells #[.int .i64 n, .int .i64 kd, .slice An cut.length cn, .int .i64 tag, .int .i64 t, .int .i64 u] 58)
      have hobl : ∀ i, OB (.slice A3 acc.length c3) i → w.heap.size ≤ i ∧ i < wr.heap.size := fun i hi => Hown.out.lt i hi
      have hw4 := hca.size
      have hw1 := hc1.size
      have hsn6 : Sl (Or (Lt w.heap.size) (OB (.slice A3 acc.length c3))) w6 (.slice An cut.length cn) cut :=
        ((Hsn.out.weak (G := Or (Or (Lt w.heap.size) (OB (.slice A3 acc.length c3))) (At p)) (fun i _ hi => by
          simp only [Lt]
          rcases hi with (hi | hi) | hi
          · simp only [Lt] at hi; omega
          · have := hobl i hi; omega
          · simp only [At] at hi; omega)).keep (hc6.weak (fun i _ hi => .inr hi))).weak (fun i _ hi => .inl hi)
      have hlit : Sl (Or (Lt w.heap.size) (OB (.slice A3 acc.length c3))) (w6.alloc (.cells #[.int .i64 n, .int .i64 kd, .slice An cut.length cn, .int .i64 tag, .int .i64 t, .int .i64 u] 58)) (.slice (some ⟨w6.heap.size, 0, none⟩) 1 1) [(n, kd, cut, tag, t, u)] :=
        Sl.lit1 rfl (ent_mk (n, kd, cut, tag, t, u) hsn6) (fun hi => by
          have := hc16.size
          rcases hi with hi | hi
          · simp only [Lt] at hi; omega
          · have := hobl _ hi; omega)
      refine step_append_sl (α := Ent) (F := Lt w.heap.size) (G := Or (Lt w.heap.size) (OB (.slice A3 acc.length c3))) Try.underlying28 info_ent rfl (Hown.out.keep (hc16.trans hc67) (fun _ _ f => f.elim) (fun _ _ f => f)) rfl rfl hlit (fun i _ hi => hi) (by have := Hlen.out; simp; omega) (by have := Hlen.out; simp [ent_n]; omega) (by have := hc16.size; have := hc67.size; omega) ?_
      intro v6 w8 hown6 hg6
      rw [← Htk.out] at hown6
      have hcw : Chg No w w8 := ((hc1.trans hc16).trans hc67).grew hg6 (fun i hi => .inr (hobl i hi).1)
      have Hown6 := Lib.hid hown6
      clear hown6 hg6 hlit hsn6
      go_wp2_with (first | (with_reducible refine stop_append ?_) | (with_reducible refine stop_copy ?_) | (with_reducible refine stop_make ?_) | (with_reducible refine stop_lookup ?_) | (with_reducible refine stop_update ?_) | (with_reducible refine stop_slice ?_) | (with_reducible refine stop_range ?_) | (with_reducible refine stop_next ?_) | (with_reducible refine stop_convert ⟨_, rfl⟩ ?_) | (with_reducible refine stop_convertB ⟨_, _, _, rfl⟩ ?_) | (with_reducible refine stop_eqSlice ⟨_, _, rfl⟩ ?_))
      go_roundw
      case rel => exact ⟨k + 1, by omega, by go_num, hcw, Hown6.out⟩
      case measure => simp [intOf]; omega
    · obtain rfl : k = l.length := by omega
      rw [List.take_length] at hown
      have Hown := Lib.hid hown
      obtain ⟨A3, c3, rfl⟩ := hown.slice
      clear hown
      go_wp2_with (first | (with_reducible refine stop_append ?_) | (with_reducible refine stop_copy ?_) | (with_reducible refine stop_make ?_) | (with_reducible refine stop_lookup ?_) | (with_reducible refine stop_update ?_) | (with_reducible refine stop_slice ?_) | (with_reducible refine stop_range ?_) | (with_reducible refine stop_next ?_) | (with_reducible refine stop_convert ⟨_, rfl⟩ ?_) | (with_reducible refine stop_convertB ⟨_, _, _, rfl⟩ ?_) | (with_reducible refine stop_eqSlice ⟨_, _, rfl⟩ ?_))
      go_ret
      exact ⟨_, rfl, hc1, Hown.out.sl (fun i hi f => by have := (Hown.out.lt i hi).1; simp only [Lt] at f; omega)⟩
end Go.Proofs.Ytbjpoamnglfjeaa
