/- Walks of the vector's laws: alive. -/
import Derived.Test.YtlpnbbjmcmjkpaaVecT
import Derived.Test.YtlpnbbjmcmjkpaaVecE
import Derived.Test.YtlpnbbjmcmjkpaaRefV
set_option linter.unusedVariables false
set_option linter.unusedSimpArgs false
namespace Go.Proofs.Ytlpnbbjmcmjkpaa
open Go.RowKit Cb

def al3 : List (List Int) := [[1, 9], [2, 4], [3, 3]]
theorem al_max : bothF max [1, 5] [3, 2] = some [3, 5] := by kernel_rfl
theorem al_quorum : quorumF al3 2 = some [2, 4] := by
  have h1 : sortI (column al3 0) = [1, 2, 3] := by simp [sortI, column, al3, List.mergeSort, List.MergeSort.Internal.splitInTwo, List.merge]
  have h2 : sortI (column al3 1) = [3, 4, 9] := by simp [sortI, column, al3, List.mergeSort, List.MergeSort.Internal.splitInTwo, List.merge]
  have h3 : quorBad al3 = false := by kernel_rfl
  unfold quorumF
  rw [if_pos ⟨by decide, by decide, h3⟩]
  simp only [headL, al3, List.headD_cons, List.length_cons, List.length_nil, List.range_succ, List.range_zero, List.nil_append, List.map_append, List.map_cons, List.map_nil, List.cons_append] at h1 h2 ⊢
  rw [h1, h2]
  rfl
theorem al_enc : (encF [3, 5]).2 = 0 ∧ (encF [3, 5]).1.length = 3 := by
  have h : vright [3, 5] = true := by kernel_rfl
  have e2 : encNat 2 = [2] := encNat_lt 2 (by decide)
  have e3 : encNat 3 = [3] := encNat_lt 3 (by decide)
  have e5 : encNat 5 = [5] := encNat_lt 5 (by decide)
  have e : encF [3, 5] = (encNat 2 ++ [] ++ (encNat 3 ++ (encNat 5 ++ [])), 0) := by
    unfold encF; rw [if_pos h]; rfl
  rw [e, e2, e3, e5]
  exact ⟨rfl, rfl⟩
theorem al_covers : coversB [3, 5] [1, 5] = true := by kernel_rfl
theorem nums2 {F : Nat → Prop} (w : World) (x y : Int) (T : TypeId) (hF : ¬ F w.heap.size) : Sl F (w.alloc (.cells #[.int .i64 x, .int .i64 y] T)) (.slice (some ⟨w.heap.size, 0, none⟩) 2 2) [x, y] :=
  Sl.lit (ys := [x, y]) (ds := [[.int .i64 x], [.int .i64 y]]) rfl rfl (fun i h h' => by
    match i, h with
    | 0, _ => rfl
    | 1, _ => rfl) hF rfl (Nat.le_refl _)
def alW (w : World) (T U : TypeId) : World :=
  (((w.alloc (.cells #[.int .i64 1, .int .i64 9] T)).alloc (.cells #[.int .i64 2, .int .i64 4] T)).alloc (.cells #[.int .i64 3, .int .i64 3] T)).alloc (.cells #[.slice (some ⟨w.heap.size, 0, none⟩) 2 2, .slice (some ⟨w.heap.size + 1, 0, none⟩) 2 2, .slice (some ⟨w.heap.size + 1 + 1, 0, none⟩) 2 2] U)
theorem al_world (w : World) (T U : TypeId) : Sl No (alW w T U) (.slice (some ⟨w.heap.size + 1 + 1 + 1, 0, none⟩) 3 3) al3 ∧ Chg No w (alW w T U) := by
  have h1 := nums2 (F := No) w 1 9 T (not_no _)
  have h2 := nums2 (F := No) (w.alloc (.cells #[.int .i64 1, .int .i64 9] T)) 2 4 T (not_no _)
  have h3 := nums2 (F := No) ((w.alloc (.cells #[.int .i64 1, .int .i64 9] T)).alloc (.cells #[.int .i64 2, .int .i64 4] T)) 3 3 T (not_no _)
  simp only [World.size_alloc] at h2 h3
  have h1 := (h1.keepNo ((Chg.refl No _).alloc (.cells #[.int .i64 2, .int .i64 4] T))).keepNo ((Chg.refl No _).alloc (.cells #[.int .i64 3, .int .i64 3] T))
  have h2 := h2.keepNo ((Chg.refl No _).alloc (.cells #[.int .i64 3, .int .i64 3] T))
  refine ⟨?_, (((Chg.refl No w).alloc _).alloc _).alloc _ |>.alloc _⟩
  have := Sl.lit (F := No) (w := ((w.alloc (.cells #[.int .i64 1, .int .i64 9] T)).alloc (.cells #[.int .i64 2, .int .i64 4] T)).alloc (.cells #[.int .i64 3, .int .i64 3] T)) (T := U) (ys := al3)
    (ds := [[.slice (some ⟨w.heap.size, 0, none⟩) 2 2], [.slice (some ⟨w.heap.size + 1, 0, none⟩) 2 2], [.slice (some ⟨w.heap.size + 1 + 1, 0, none⟩) 2 2]]) (C := _) rfl rfl (fun i h h' => by
    match i, h with
    | 0, _ => exact ⟨_, rfl, h1⟩
    | 1, _ => exact ⟨_, rfl, h2⟩
    | 2, _ => exact ⟨_, rfl, h3⟩) (not_no _) (n := 3) (c := 3) rfl (Nat.le_refl _)
  simp only [World.size_alloc] at this
  exact this
set_option maxRecDepth 100000 in
set_option maxHeartbeats 4000000 in
theorem valive_any (w : World) : Calls Try.prog 12 #[] w fun e w' => e = .returned (.bool true) ∧ Chg No w w' := by
  have h1 := (nums2 (F := No) w 1 5 3 (not_no _)).keepNo ((Chg.refl No _).alloc (.cells #[.int .i64 3, .int .i64 2] 3))
  have h2 := nums2 (F := No) (w.alloc (.cells #[.int .i64 1, .int .i64 5] 3)) 3 2 3 (not_no _)
  simp only [World.size_alloc] at h2
  have hc0 := ((Chg.refl No w).alloc (.cells #[.int .i64 1, .int .i64 5] 3)).alloc (.cells #[.int .i64 3, .int .i64 2] 3)
  have H1 := Lib.hid (vmax_any No No _ _ [1, 5] [3, 2] _ h1 h2 (by simp) (by simp))
  rw [al_max] at H1
  clear h1 h2
  go_enter Try.func12, Try.ntmps12
  go_wp2_with (first | (with_reducible refine stop_append ?_) | (with_reducible refine stop_copy ?_) | (with_reducible refine stop_make ?_) | (with_reducible refine stop_lookup ?_) | (with_reducible refine stop_update ?_) | (with_reducible refine stop_slice ?_) | (with_reducible refine stop_range ?_) | (with_reducible refine stop_next ?_) | (with_reducible refine stop_convert ⟨_, rfl⟩ ?_) | (with_reducible refine stop_convertB ⟨_, _, _, rfl⟩ ?_) | (with_reducible refine stop_eqSlice ⟨_, _, rfl⟩ ?_))
  refine H1.out.mono ?_
  rintro e w1 ⟨hc1, ⟨z, hz, v1, rfl, hs1⟩ | ⟨hz, _⟩⟩
  rotate_left
  · cases hz
  obtain rfl := Option.some.inj hz
  obtain ⟨A1, c1, rfl⟩ := hs1.slice
  have Hs1 := Lib.hid hs1.no
  have hcw := hc0.trans hc1
  clear hs1 hz H1
  go_wp2_with (first | (with_reducible refine stop_append ?_) | (with_reducible refine stop_copy ?_) | (with_reducible refine stop_make ?_) | (with_reducible refine stop_lookup ?_) | (with_reducible refine stop_update ?_) | (with_reducible refine stop_slice ?_) | (with_reducible refine stop_range ?_) | (with_reducible refine stop_next ?_) | (with_reducible refine stop_convert ⟨_, rfl⟩ ?_) | (with_reducible refine stop_convertB ⟨_, _, _, rfl⟩ ?_) | (with_reducible refine stop_eqSlice ⟨_, _, rfl⟩ ?_))
  obtain ⟨h3, hca⟩ := al_world w1 3 24
  change Calls _ _ _ (alW w1 3 24) _
  have H3 := Lib.hid (quorum_any No _ al3 2 _ h3 (by decide) (by decide))
  rw [al_quorum] at H3
  clear h3
  generalize alW w1 3 24 = w2 at *
  refine H3.out.mono ?_
  rintro e w3 ⟨hc3, ⟨z, hz, v3, rfl, hs3⟩ | ⟨hz, _⟩⟩
  rotate_left
  · cases hz
  obtain rfl := Option.some.inj hz
  obtain ⟨A3, c3, rfl⟩ := hs3.slice
  have Hs3 := Lib.hid hs3.no
  have hc13 := hca.trans hc3
  clear hs3 hz H3
  have hcb := (Chg.refl No w3).alloc (.cells #[.int .i64 3, .int .i64 5] 3)
  have He := Lib.hid (vencode_any No _ [3, 5] _ (nums2 (F := No) w3 3 5 3 (not_no _)) (by simp))
  rw [al_enc.1] at He
  go_wp2_with (first | (with_reducible refine stop_append ?_) | (with_reducible refine stop_copy ?_) | (with_reducible refine stop_make ?_) | (with_reducible refine stop_lookup ?_) | (with_reducible refine stop_update ?_) | (with_reducible refine stop_slice ?_) | (with_reducible refine stop_range ?_) | (with_reducible refine stop_next ?_) | (with_reducible refine stop_convert ⟨_, rfl⟩ ?_) | (with_reducible refine stop_convertB ⟨_, _, _, rfl⟩ ?_) | (with_reducible refine stop_eqSlice ⟨_, _, rfl⟩ ?_))
  refine He.out.mono ?_
  rintro e w4 ⟨v4, rfl, hs4, hc4⟩
  obtain ⟨A4, c4, e4⟩ := hs4.slice
  rw [al_enc.2] at e4
  subst e4
  clear hs4 He
  have hc34 := hcb.trans hc4
  have hcc := (Chg.refl No w4).alloc (.cells #[.int .i64 3, .int .i64 5] 3)
  have Hq := Lib.hid (requal_any No No _ _ [3, 5] [3, 5] _ ((Hs1.out.keepNo (hc13.trans hc34)).keepNo hcc) (nums2 (F := No) w4 3 5 3 (not_no _)) (by simp) (by simp))
  go_wp2_with (first | (with_reducible refine stop_append ?_) | (with_reducible refine stop_copy ?_) | (with_reducible refine stop_make ?_) | (with_reducible refine stop_lookup ?_) | (with_reducible refine stop_update ?_) | (with_reducible refine stop_slice ?_) | (with_reducible refine stop_range ?_) | (with_reducible refine stop_next ?_) | (with_reducible refine stop_convert ⟨_, rfl⟩ ?_) | (with_reducible refine stop_convertB ⟨_, _, _, rfl⟩ ?_) | (with_reducible refine stop_eqSlice ⟨_, _, rfl⟩ ?_))
  refine Hq.out.mono ?_
  rintro e w5 ⟨rfl, hc5⟩
  simp only [decide_true]
  have hc45 := hcc.trans hc5
  have hcd := (Chg.refl No w5).alloc (.cells #[.int .i64 2, .int .i64 4] 3)
  have Hq2 := Lib.hid (requal_any No No _ _ [2, 4] [2, 4] _ ((Hs3.out.keepNo (hc34.trans hc45)).keepNo hcd) (nums2 (F := No) w5 2 4 3 (not_no _)) (by simp) (by simp))
  go_wp2_with (first | (with_reducible refine stop_append ?_) | (with_reducible refine stop_copy ?_) | (with_reducible refine stop_make ?_) | (with_reducible refine stop_lookup ?_) | (with_reducible refine stop_update ?_) | (with_reducible refine stop_slice ?_) | (with_reducible refine stop_range ?_) | (with_reducible refine stop_next ?_) | (with_reducible refine stop_convert ⟨_, rfl⟩ ?_) | (with_reducible refine stop_convertB ⟨_, _, _, rfl⟩ ?_) | (with_reducible refine stop_eqSlice ⟨_, _, rfl⟩ ?_))
  refine Hq2.out.mono ?_
  rintro e w6 ⟨rfl, hc6⟩
  simp only [decide_true]
  have hc56 := hcd.trans hc6
  have h7 := (nums2 (F := No) w6 3 5 3 (not_no _)).keepNo ((Chg.refl No _).alloc (.cells #[.int .i64 1, .int .i64 5] 3))
  have h8 := nums2 (F := No) (w6.alloc (.cells #[.int .i64 3, .int .i64 5] 3)) 1 5 3 (not_no _)
  simp only [World.size_alloc] at h8
  have hce := ((Chg.refl No w6).alloc (.cells #[.int .i64 3, .int .i64 5] 3)).alloc (.cells #[.int .i64 1, .int .i64 5] 3)
  have Hcv := Lib.hid (vcovers_any No No _ _ [3, 5] [1, 5] _ h7 h8 (by simp) (by simp))
  rw [al_covers] at Hcv
  clear h7 h8
  go_wp2_with (first | (with_reducible refine stop_append ?_) | (with_reducible refine stop_copy ?_) | (with_reducible refine stop_make ?_) | (with_reducible refine stop_lookup ?_) | (with_reducible refine stop_update ?_) | (with_reducible refine stop_slice ?_) | (with_reducible refine stop_range ?_) | (with_reducible refine stop_next ?_) | (with_reducible refine stop_convert ⟨_, rfl⟩ ?_) | (with_reducible refine stop_convertB ⟨_, _, _, rfl⟩ ?_) | (with_reducible refine stop_eqSlice ⟨_, _, rfl⟩ ?_))
  refine Hcv.out.mono ?_
  rintro e w7 ⟨rfl, hc7⟩
  go_wp2_with (first | (with_reducible refine stop_append ?_) | (with_reducible refine stop_copy ?_) | (with_reducible refine stop_make ?_) | (with_reducible refine stop_lookup ?_) | (with_reducible refine stop_update ?_) | (with_reducible refine stop_slice ?_) | (with_reducible refine stop_range ?_) | (with_reducible refine stop_next ?_) | (with_reducible refine stop_convert ⟨_, rfl⟩ ?_) | (with_reducible refine stop_convertB ⟨_, _, _, rfl⟩ ?_) | (with_reducible refine stop_eqSlice ⟨_, _, rfl⟩ ?_))
  refine (vzero_yes 2 w7 (by omega) (by omega)).mono ?_
  rintro e w8 ⟨a8, c8, rfl, hc8, _⟩
  go_wp2_with (first | (with_reducible refine stop_append ?_) | (with_reducible refine stop_copy ?_) | (with_reducible refine stop_make ?_) | (with_reducible refine stop_lookup ?_) | (with_reducible refine stop_update ?_) | (with_reducible refine stop_slice ?_) | (with_reducible refine stop_range ?_) | (with_reducible refine stop_next ?_) | (with_reducible refine stop_convert ⟨_, rfl⟩ ?_) | (with_reducible refine stop_convertB ⟨_, _, _, rfl⟩ ?_) | (with_reducible refine stop_eqSlice ⟨_, _, rfl⟩ ?_))
  go_ret
  exact ⟨rfl, (((((hcw.trans hc13).trans hc34).trans hc45).trans hc56).trans (hce.trans hc7)).trans hc8⟩
end Go.Proofs.Ytlpnbbjmcmjkpaa
