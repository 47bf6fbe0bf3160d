/- Walks of package register: Row. -/
import Derived.Test.YtbjpoamnglfjeaaRegD
set_option linter.unusedVariables false
set_option linter.unusedSimpArgs false
namespace Go.Proofs.Ytbjpoamnglfjeaa
open Go.RowKit Cb

theorem right_small {t : Int} {q : List Int} {s : List (List Int)} (hr : rightC t q s = true) : q.length ≤ 7 ∧ s.length ≤ 8 ∧ ∀ x ∈ s, x.length ≤ 3 := by
  obtain ⟨_, ⟨_, h7⟩, ⟨_, h8⟩, _, hall⟩ := rightC_iff.1 hr
  refine ⟨h7, h8, fun x hx => ?_⟩
  have := hall x hx
  simp only [shardB, Bool.and_eq_true, decide_eq_true_eq] at this
  exact this.1.2
set_option maxRecDepth 100000 in
set_option maxHeartbeats 1000000 in
theorem rrow_no (B p : Nat) (rows : List Rw) (w : World) (h : RegS w B p rows) (hi : RowsI rows) (t : Int) (ht : t < firstR rows ∨ firstR rows + (rows.length - 1 : Nat) < t) :
    Calls Try.prog 43 #[.pointer (some ⟨p, 0, none⟩), .int .i64 t] w fun e w' => e = .returned (.tuple #[.agg #[.int .i64 0, .slice none 0 0, .slice none 0 0, .slice none 0 0, .bool false], .int .i64 141]) ∧ Chg No w w' := by
  have Hat := Lib.hid (fun W (hW : Chg No w W) => rat_no B p rows W (h.keepNo hW) hi t ht)
  clear h hi ht
  have o4 := alloc_obj w (.cells #[.int .i64 0, .slice none 0 0, .slice none 0 0, .slice none 0 0, .bool false] 88)
  have hca := (Chg.refl No w).alloc (.cells #[.int .i64 0, .slice none 0 0, .slice none 0 0, .slice none 0 0, .bool false] 88)
  go_enter Try.func43, Try.ntmps43
  go_wp2_with (first | (with_reducible refine stop_append ?_) | (with_reducible refine stop_copy ?_) | (with_reducible refine stop_make ?_) | (with_reducible refine stop_lookup ?_) | (with_reducible refine stop_update ?_) | (with_reducible refine stop_slice ?_) | (with_reducible refine stop_range ?_) | (with_reducible refine stop_next ?_) | (with_reducible refine stop_convert ⟨_, rfl⟩ ?_) | (with_reducible refine stop_convertB ⟨_, _, _, rfl⟩ ?_) | (with_reducible refine stop_eqSlice ⟨_, _, rfl⟩ ?_))
  generalize w.alloc (.cells #[.int .i64 0, .slice none 0 0, .slice none 0 0, .slice none 0 0, .bool false] 88) = w0 at *
  obtain ⟨q4, hq4⟩ : ∃ p, p = w.heap.size := ⟨_, rfl⟩
  rw [← hq4] at o4 ⊢
  have hge : w.heap.size ≤ q4 := by omega
  clear hq4
  refine (Hat.out _ hca).mono ?_
  rintro e w1 ⟨rfl, hc1⟩
  have o41 := hc1.obj o4 (not_no _)
  have hcw := hca.trans hc1
  clear o4 hc1 hca
  have z0 := cell_obj (i := 0) o41 rfl
  have z1 := cell_obj (i := 1) o41 rfl
  have z2 := cell_obj (i := 2) o41 rfl
  have z3 := cell_obj (i := 3) o41 rfl
  have z4 := cell_obj (i := 4) o41 rfl
  have f0 := free_obj (i := 0) o41
  have f1 := free_obj (i := 1) o41
  have f2 := free_obj (i := 2) o41
  have f3 := free_obj (i := 3) o41
  have f4 := free_obj (i := 4) o41
  go_wp2_with (first | (with_reducible refine stop_append ?_) | (with_reducible refine stop_copy ?_) | (with_reducible refine stop_make ?_) | (with_reducible refine stop_lookup ?_) | (with_reducible refine stop_update ?_) | (with_reducible refine stop_slice ?_) | (with_reducible refine stop_range ?_) | (with_reducible refine stop_next ?_) | (with_reducible refine stop_convert ⟨_, rfl⟩ ?_) | (with_reducible refine stop_convertB ⟨_, _, _, rfl⟩ ?_) | (with_reducible refine stop_eqSlice ⟨_, _, rfl⟩ ?_))
  refine bodyPost_ret (v := .tuple #[.agg #[.int .i64 0, .slice none 0 0, .slice none 0 0, .slice none 0 0, .bool false], .int .i64 141]) (by simp [results, Try.results43, go_sem, *]) rfl ?_
  refine ⟨rfl, ?_⟩
  repeat (first | exact hcw | refine Chg.setCell ?_ (.inr hge) _)
set_option maxRecDepth 100000 in
set_option maxHeartbeats 1000000 in
theorem rrow_yes (B p : Nat) (rows : List Rw) (w : World) (h : RegS w B p rows) (hi : RowsI rows) (i : Nat) (hlt : i < rows.length) :
    Calls Try.prog 43 #[.pointer (some ⟨p, 0, none⟩), .int .i64 (firstR rows + i)] w fun e w' => ∃ vq vs vt, e = .returned (.tuple #[.agg #[.int .i64 (firstR rows + i), vq, vs, vt, .bool rows[i].2.2.2.2], .int .i64 0]) ∧ Chg No w w' ∧
      Sl (Lt w.heap.size) w' vq rows[i].2.1 ∧ Sl (Lt w.heap.size) w' vs rows[i].2.2.1 ∧ Sl (Lt w.heap.size) w' vt rows[i].2.2.2.1 := by
  obtain ⟨g, c, hc, -, -, hgl⟩ := rg_row h hi.1
  have Hat := Lib.hid (fun W (hW : Chg No w W) => rat_yes B p rows W (h.keepNo hW) hi (hW.cell hc (not_no _)) rfl i hlt)
  obtain ⟨vq, vs, vt, a0, a1, a2, a3, a4, hsq, hss, hst⟩ := rg_get h hc i hlt
  have ht := first_get hi i hlt
  obtain ⟨-, hr, htl, hte⟩ := hi.2.2 i hlt
  obtain ⟨h7, h8, h3⟩ := right_small hr
  rw [← ht] at Hat
  rw [← ht]
  have Hown := Lib.hid (fun W (hW : Chg No w W) => own_any rows[i].1 vq vs vt rows[i].2.2.2.2 _ _ _ W (hsq.no.keepNo hW) (hss.no.keepNo hW) (hst.no.keepNo hW) (by omega) (by omega) (fun x hx => by have := h3 x hx; omega) htl hte)
  unfold rowV at Hown
  clear ht hr htl hte h7 h8 h3 h hi hc
  obtain ⟨Aq, cq, rfl⟩ := hsq.slice
  obtain ⟨As, cs, rfl⟩ := hss.slice
  obtain ⟨Al, cl, rfl⟩ := hst.slice
  clear hsq hss hst
  generalize rows[i] = r at *
  obtain ⟨t, q, s, l, ov⟩ := r
  simp only at *
  have o4 := alloc_obj w (.cells #[.int .i64 0, .slice none 0 0, .slice none 0 0, .slice none 0 0, .bool false] 88)
  have hca := (Chg.refl No w).alloc (.cells #[.int .i64 0, .slice none 0 0, .slice none 0 0, .slice none 0 0, .bool false] 88)
  go_enter Try.func43, Try.ntmps43
  go_wp2_with (first | (with_reducible refine stop_append ?_) | (with_reducible refine stop_copy ?_) | (with_reducible refine stop_make ?_) | (with_reducible refine stop_lookup ?_) | (with_reducible refine stop_update ?_) | (with_reducible refine stop_slice ?_) | (with_reducible refine stop_range ?_) | (with_reducible refine stop_next ?_) | (with_reducible refine stop_convert ⟨_, rfl⟩ ?_) | (with_reducible refine stop_convertB ⟨_, _, _, rfl⟩ ?_) | (with_reducible refine stop_eqSlice ⟨_, _, rfl⟩ ?_))
  generalize w.alloc (.cells #[.int .i64 0, .slice none 0 0, .slice none 0 0, .slice none 0 0, .bool false] 88) = w0 at *
  obtain ⟨q4, hq4⟩ : ∃ p, p = w.heap.size := ⟨_, rfl⟩
  rw [← hq4] at o4 ⊢
  have hge : w.heap.size ≤ q4 := by omega
  clear hq4
  refine (Hat.out _ hca).mono ?_
  rintro e w1 ⟨rfl, hc1⟩
  have o41 := hc1.obj o4 (not_no _)
  have hcw := hca.trans hc1
  clear o4 hc1 hca
  replace a0 := hcw.cell a0 (not_no _)
  replace a1 := hcw.cell a1 (not_no _)
  replace a2 := hcw.cell a2 (not_no _)
  replace a3 := hcw.cell a3 (not_no _)
  replace a4 := hcw.cell a4 (not_no _)
  go_wp2_with (first | (with_reducible refine stop_append ?_) | (with_reducible refine stop_copy ?_) | (with_reducible refine stop_make ?_) | (with_reducible refine stop_lookup ?_) | (with_reducible refine stop_update ?_) | (with_reducible refine stop_slice ?_) | (with_reducible refine stop_range ?_) | (with_reducible refine stop_next ?_) | (with_reducible refine stop_convert ⟨_, rfl⟩ ?_) | (with_reducible refine stop_convertB ⟨_, _, _, rfl⟩ ?_) | (with_reducible refine stop_eqSlice ⟨_, _, rfl⟩ ?_))
  refine (Hown.out _ hcw).mono ?_
  rintro e w2 ⟨vq', vs', vt', rfl, hc2, hq2, hs2, ht2⟩
  obtain ⟨Bq, dq, rfl⟩ := hq2.slice
  obtain ⟨Bs, ds, rfl⟩ := hs2.slice
  obtain ⟨Bt, dt, rfl⟩ := ht2.slice
  have hql := lt_of_heap o41
  have o42 := hc2.obj o41 (not_no _)
  have hcw2 := hcw.trans hc2
  have hw1 := hcw.size
  clear a0 a1 a2 a3 a4 o41 hc2
  have z0 := cell_obj (i := 0) o42 rfl
  have z1 := cell_obj (i := 1) o42 rfl
  have z2 := cell_obj (i := 2) o42 rfl
  have z3 := cell_obj (i := 3) o42 rfl
  have z4 := cell_obj (i := 4) o42 rfl
  have f0 := free_obj (i := 0) o42
  have f1 := free_obj (i := 1) o42
  have f2 := free_obj (i := 2) o42
  have f3 := free_obj (i := 3) o42
  have f4 := free_obj (i := 4) o42
  have Hq2 := Lib.hid hq2; have Hs2 := Lib.hid hs2; have Ht2 := Lib.hid ht2
  clear hq2 hs2 ht2
  go_wp2_with (first | (with_reducible refine stop_append ?_) | (with_reducible refine stop_copy ?_) | (with_reducible refine stop_make ?_) | (with_reducible refine stop_lookup ?_) | (with_reducible refine stop_update ?_) | (with_reducible refine stop_slice ?_) | (with_reducible refine stop_range ?_) | (with_reducible refine stop_next ?_) | (with_reducible refine stop_convert ⟨_, rfl⟩ ?_) | (with_reducible refine stop_convertB ⟨_, _, _, rfl⟩ ?_) | (with_reducible refine stop_eqSlice ⟨_, _, rfl⟩ ?_))
  refine bodyPost_ret (v := .tuple #[.agg #[.int .i64 t, .slice Bq q.length dq, .slice Bs s.length ds, .slice Bt l.length dt, .bool ov], .int .i64 0]) (by simp [results, Try.results43, go_sem, *]) rfl ?_
  obtain ⟨o9, hc9⟩ := set5 o42 (.int .i64 t) (.slice Bq q.length dq) (.slice Bs s.length ds) (.slice Bt l.length dt) (.bool ov)
  have hk : ∀ i, i < w2.heap.size → At q4 i → Lt w1.heap.size i := fun i _ h => by simp only [At] at h; simp only [Lt]; omega
  have hk2 : ∀ i, Lt w.heap.size i → Lt w1.heap.size i := fun i h => by simp only [Lt] at *; omega
  exact ⟨_, _, _, rfl, hcw2.old hc9 (fun i h => by simp only [At] at h; omega), (Hq2.out.keep (hc9.weak hk)).weak (fun i _ h => hk2 i h), (Hs2.out.keep (hc9.weak hk)).weak (fun i _ h => hk2 i h), (Ht2.out.keep (hc9.weak hk)).weak (fun i _ h => hk2 i h)⟩
end Go.Proofs.Ytbjpoamnglfjeaa
