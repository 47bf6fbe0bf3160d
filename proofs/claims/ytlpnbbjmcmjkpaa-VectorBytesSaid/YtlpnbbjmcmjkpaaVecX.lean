/- The statements VectorThree, VectorGains, VectorBounds, walked. -/
import Derived.Test.YtlpnbbjmcmjkpaaVecL
import Derived.Test.YtlpnbbjmcmjkpaaVecP
set_option linter.unusedVariables false
set_option linter.unusedSimpArgs false
namespace Go.Proofs.Ytlpnbbjmcmjkpaa
open Go.RowKit Cb

def small (a : List Int) : Prop := a.length * 8 ≤ 140737488355328
theorem small_of {a : List Int} (h : vright a = true) : small a := by unfold small; have := (vright_iff.1 h).2.1; omega
theorem small_nil : small [] := by simp [small]
theorem small_both (f : Int → Int → Int) {a b : List Int} (ha : small a) : small ((bothF f a b).getD []) := by
  unfold bothF
  split
  · simp only [Option.getD_some, small, List.length_zipWith] at *; omega
  · exact small_nil
set_option maxRecDepth 100000 in
set_option maxHeartbeats 1000000 in
theorem vthree_any (v0 v1 v2 : Value) (a b c : List Int) (w : World) (h0 : Sl No w v0 a) (h1 : Sl No w v1 b) (h2 : Sl No w v2 c) (s0 : small a) (s1 : small b) (s2 : small c) :
    Calls Try.prog 5 #[v0, v1, v2] w fun e w' => e = .returned (.bool true) ∧ Chg No w w' := by
  have hmax := fun W xs ys x y (hx : Sl No W x xs) (hy : Sl No W y ys) (k : small xs) (k' : small ys) => (vmax_any No No x y xs ys W hx hy k k').mono (fun e w' h => pair_out h)
  have hmin := fun W xs ys x y (hx : Sl No W x xs) (hy : Sl No W y ys) (k : small xs) (k' : small ys) => (vmin_any No No x y xs ys W hx hy k k').mono (fun e w' h => pair_out h)
  have Hmax := Lib.hid hmax
  have Hmin := Lib.hid hmin
  clear hmax hmin
  have H0 := Lib.hid (fun W (hW : Chg No w W) => h0.keepNo hW)
  have H1 := Lib.hid (fun W (hW : Chg No w W) => h1.keepNo hW)
  have H2 := Lib.hid (fun W (hW : Chg No w W) => h2.keepNo hW)
  obtain ⟨A0, c0, rfl⟩ := h0.slice
  obtain ⟨A1, c1, rfl⟩ := h1.slice
  obtain ⟨A2, c2, rfl⟩ := h2.slice
  clear h0 h1 h2
  have hcase : kindB a b = false ∨ (kindB a b = true ∧ kindB b c = false) ∨ (kindB a b = true ∧ kindB b c = true) := by
    cases kindB a b <;> cases kindB b c <;> simp
  rcases hcase with hk | ⟨hk, hk2⟩ | ⟨hk, hk2⟩
  · have Hm1 := Lib.hid (Hmax.out w a b _ _ (H0.out _ (Chg.refl _ _)) (H1.out _ (Chg.refl _ _)) s0 s1)
    rw [both_no hk] at Hm1
    have Hm2 := Lib.hid (fun W (hW : Chg No w W) => Hmax.out W b c _ _ (H1.out _ hW) (H2.out _ hW) s1 s2)
    clear hk
    generalize bothF max b c = r at Hm2
    go_enter Try.func5, Try.ntmps5
    go_wp2_with (first | (with_reducible refine stop_append ?_) | (with_reducible refine stop_copy ?_) | (with_reducible refine stop_make ?_) | (with_reducible refine stop_lookup ?_) | (with_reducible refine stop_update ?_) | (with_reducible refine stop_slice ?_) | (with_reducible refine stop_range ?_) | (with_reducible refine stop_next ?_) | (with_reducible refine stop_convert ⟨_, rfl⟩ ?_) | (with_reducible refine stop_convertB ⟨_, _, _, rfl⟩ ?_) | (with_reducible refine stop_eqSlice ⟨_, _, rfl⟩ ?_))
    refine Hm1.out.mono ?_
    rintro e w1 ⟨B1, d1, rfl, _, hc1⟩
    simp only [Option.isSome_none]
    go_wp2_with (first | (with_reducible refine stop_append ?_) | (with_reducible refine stop_copy ?_) | (with_reducible refine stop_make ?_) | (with_reducible refine stop_lookup ?_) | (with_reducible refine stop_update ?_) | (with_reducible refine stop_slice ?_) | (with_reducible refine stop_range ?_) | (with_reducible refine stop_next ?_) | (with_reducible refine stop_convert ⟨_, rfl⟩ ?_) | (with_reducible refine stop_convertB ⟨_, _, _, rfl⟩ ?_) | (with_reducible refine stop_eqSlice ⟨_, _, rfl⟩ ?_))
    refine (Hm2.out _ hc1).mono ?_
    rintro e w2 ⟨B2, d2, rfl, _, hc2⟩
    go_wp2_with (first | (with_reducible refine stop_append ?_) | (with_reducible refine stop_copy ?_) | (with_reducible refine stop_make ?_) | (with_reducible refine stop_lookup ?_) | (with_reducible refine stop_update ?_) | (with_reducible refine stop_slice ?_) | (with_reducible refine stop_range ?_) | (with_reducible refine stop_next ?_) | (with_reducible refine stop_convert ⟨_, rfl⟩ ?_) | (with_reducible refine stop_convertB ⟨_, _, _, rfl⟩ ?_) | (with_reducible refine stop_eqSlice ⟨_, _, rfl⟩ ?_))
    refine (valive_any _).mono ?_
    rintro e w3 ⟨rfl, hc3⟩
    go_wp2_with (first | (with_reducible refine stop_append ?_) | (with_reducible refine stop_copy ?_) | (with_reducible refine stop_make ?_) | (with_reducible refine stop_lookup ?_) | (with_reducible refine stop_update ?_) | (with_reducible refine stop_slice ?_) | (with_reducible refine stop_range ?_) | (with_reducible refine stop_next ?_) | (with_reducible refine stop_convert ⟨_, rfl⟩ ?_) | (with_reducible refine stop_convertB ⟨_, _, _, rfl⟩ ?_) | (with_reducible refine stop_eqSlice ⟨_, _, rfl⟩ ?_))
    go_ret
    exact ⟨rfl, (hc1.trans hc2).trans hc3⟩
  · have Hm1 := Lib.hid (Hmax.out w a b _ _ (H0.out _ (Chg.refl _ _)) (H1.out _ (Chg.refl _ _)) s0 s1)
    rw [both_yes hk] at Hm1
    have Hm2 := Lib.hid (fun W (hW : Chg No w W) => Hmax.out W b c _ _ (H1.out _ hW) (H2.out _ hW) s1 s2)
    rw [both_no hk2] at Hm2
    clear hk hk2
    simp only [Option.getD_some, Option.isSome_some, PairOut] at Hm1
    generalize List.zipWith max a b = x1 at *
    go_enter Try.func5, Try.ntmps5
    go_wp2_with (first | (with_reducible refine stop_append ?_) | (with_reducible refine stop_copy ?_) | (with_reducible refine stop_make ?_) | (with_reducible refine stop_lookup ?_) | (with_reducible refine stop_update ?_) | (with_reducible refine stop_slice ?_) | (with_reducible refine stop_range ?_) | (with_reducible refine stop_next ?_) | (with_reducible refine stop_convert ⟨_, rfl⟩ ?_) | (with_reducible refine stop_convertB ⟨_, _, _, rfl⟩ ?_) | (with_reducible refine stop_eqSlice ⟨_, _, rfl⟩ ?_))
    refine Hm1.out.mono ?_
    rintro e w1 ⟨B1, d1, rfl, _, hc1⟩
    go_wp2_with (first | (with_reducible refine stop_append ?_) | (with_reducible refine stop_copy ?_) | (with_reducible refine stop_make ?_) | (with_reducible refine stop_lookup ?_) | (with_reducible refine stop_update ?_) | (with_reducible refine stop_slice ?_) | (with_reducible refine stop_range ?_) | (with_reducible refine stop_next ?_) | (with_reducible refine stop_convert ⟨_, rfl⟩ ?_) | (with_reducible refine stop_convertB ⟨_, _, _, rfl⟩ ?_) | (with_reducible refine stop_eqSlice ⟨_, _, rfl⟩ ?_))
    refine (Hm2.out _ hc1).mono ?_
    rintro e w2 ⟨B2, d2, rfl, _, hc2⟩
    simp only [Option.isSome_none]
    go_wp2_with (first | (with_reducible refine stop_append ?_) | (with_reducible refine stop_copy ?_) | (with_reducible refine stop_make ?_) | (with_reducible refine stop_lookup ?_) | (with_reducible refine stop_update ?_) | (with_reducible refine stop_slice ?_) | (with_reducible refine stop_range ?_) | (with_reducible refine stop_next ?_) | (with_reducible refine stop_convert ⟨_, rfl⟩ ?_) | (with_reducible refine stop_convertB ⟨_, _, _, rfl⟩ ?_) | (with_reducible refine stop_eqSlice ⟨_, _, rfl⟩ ?_))
    refine (valive_any _).mono ?_
    rintro e w3 ⟨rfl, hc3⟩
    go_wp2_with (first | (with_reducible refine stop_append ?_) | (with_reducible refine stop_copy ?_) | (with_reducible refine stop_make ?_) | (with_reducible refine stop_lookup ?_) | (with_reducible refine stop_update ?_) | (with_reducible refine stop_slice ?_) | (with_reducible refine stop_range ?_) | (with_reducible refine stop_next ?_) | (with_reducible refine stop_convert ⟨_, rfl⟩ ?_) | (with_reducible refine stop_convertB ⟨_, _, _, rfl⟩ ?_) | (with_reducible refine stop_eqSlice ⟨_, _, rfl⟩ ?_))
    go_ret
    exact ⟨rfl, (hc1.trans hc2).trans hc3⟩
  · obtain ⟨ra, rb, lab⟩ := kind_iff.1 hk
    obtain ⟨_, rc, lbc⟩ := kind_iff.1 hk2
    obtain ⟨m1, e1⟩ := max_right hk
    obtain ⟨m2, e2⟩ := max_right hk2
    obtain ⟨n1, f1⟩ := min_right hk
    have hkba : kindB b a = true := kind_mk rb ra lab.symm
    have k3 : kindB (List.zipWith max a b) c = true := kind_mk m1 rc (by omega)
    have k4 : kindB a (List.zipWith max b c) = true := kind_mk ra m2 (by omega)
    have Hsame1 := Lib.hid (show sameB (List.zipWith max (List.zipWith max a b) c) (List.zipWith max a (List.zipWith max b c)) = true by
      rw [← zip_assoc]; simp [sameB, kind_mk (max_right k3).1 (max_right k3).1 rfl])
    have Hsame2 := Lib.hid (show sameB (List.zipWith min a b) (List.zipWith min b a) = true by
      rw [zip_comm b a]; simp [sameB, kind_mk n1 n1 rfl])
    have t1 := small_of m1
    have t2 := small_of m2
    have t3 := small_of (max_right k3).1
    have t4 := small_of (max_right k4).1
    have t5 := small_of n1
    have t6 := small_of (min_right hkba).1
    have Hm1 := Lib.hid (Hmax.out w a b _ _ (H0.out _ (Chg.refl _ _)) (H1.out _ (Chg.refl _ _)) s0 s1)
    have Hm2 := Lib.hid (fun W (hW : Chg No w W) => Hmax.out W b c _ _ (H1.out _ hW) (H2.out _ hW) s1 s2)
    have Hm3 := Lib.hid (fun W x (hx : Sl No W x (List.zipWith max a b)) (hW : Chg No w W) => Hmax.out W _ c x _ hx (H2.out _ hW) t1 s2)
    have Hm4 := Lib.hid (fun W x (hx : Sl No W x (List.zipWith max b c)) (hW : Chg No w W) => Hmax.out W a _ _ x (H0.out _ hW) hx s0 t2)
    have Hm5 := Lib.hid (fun W (hW : Chg No w W) => Hmin.out W a b _ _ (H0.out _ hW) (H1.out _ hW) s0 s1)
    have Hm6 := Lib.hid (fun W (hW : Chg No w W) => Hmin.out W b a _ _ (H1.out _ hW) (H0.out _ hW) s1 s0)
    rw [both_yes hk] at Hm1 Hm5
    rw [both_yes hk2] at Hm2
    rw [both_yes k3] at Hm3
    rw [both_yes k4] at Hm4
    rw [both_yes hkba] at Hm6
    clear hk hk2 k3 k4 hkba ra rb rc lab lbc m1 m2 n1 e1 e2 f1
    simp only [Option.getD_some, Option.isSome_some, PairOut] at Hm1 Hm2 Hm3 Hm4 Hm5 Hm6
    generalize List.zipWith max (List.zipWith max a b) c = x3 at *
    generalize List.zipWith max a (List.zipWith max b c) = x4 at *
    generalize List.zipWith max a b = x1 at *
    generalize List.zipWith max b c = x2 at *
    generalize List.zipWith min a b = x5 at *
    generalize List.zipWith min b a = x6 at *
    go_enter Try.func5, Try.ntmps5
    go_wp2_with (first | (with_reducible refine stop_append ?_) | (with_reducible refine stop_copy ?_) | (with_reducible refine stop_make ?_) | (with_reducible refine stop_lookup ?_) | (with_reducible refine stop_update ?_) | (with_reducible refine stop_slice ?_) | (with_reducible refine stop_range ?_) | (with_reducible refine stop_next ?_) | (with_reducible refine stop_convert ⟨_, rfl⟩ ?_) | (with_reducible refine stop_convertB ⟨_, _, _, rfl⟩ ?_) | (with_reducible refine stop_eqSlice ⟨_, _, rfl⟩ ?_))
    refine Hm1.out.mono ?_
    rintro e w1 ⟨B1, d1, rfl, hs1, hc1⟩
    have Hs1 := Lib.hid hs1; clear hs1
    go_wp2_with (first | (with_reducible refine stop_append ?_) | (with_reducible refine stop_copy ?_) | (with_reducible refine stop_make ?_) | (with_reducible refine stop_lookup ?_) | (with_reducible refine stop_update ?_) | (with_reducible refine stop_slice ?_) | (with_reducible refine stop_range ?_) | (with_reducible refine stop_next ?_) | (with_reducible refine stop_convert ⟨_, rfl⟩ ?_) | (with_reducible refine stop_convertB ⟨_, _, _, rfl⟩ ?_) | (with_reducible refine stop_eqSlice ⟨_, _, rfl⟩ ?_))
    refine (Hm2.out _ hc1).mono ?_
    rintro e w2 ⟨B2, d2, rfl, hs2, hc2⟩
    have hcw2 := hc1.trans hc2
    have Hs2 := Lib.hid hs2; clear hs2
    go_wp2_with (first | (with_reducible refine stop_append ?_) | (with_reducible refine stop_copy ?_) | (with_reducible refine stop_make ?_) | (with_reducible refine stop_lookup ?_) | (with_reducible refine stop_update ?_) | (with_reducible refine stop_slice ?_) | (with_reducible refine stop_range ?_) | (with_reducible refine stop_next ?_) | (with_reducible refine stop_convert ⟨_, rfl⟩ ?_) | (with_reducible refine stop_convertB ⟨_, _, _, rfl⟩ ?_) | (with_reducible refine stop_eqSlice ⟨_, _, rfl⟩ ?_))
    refine (Hm3.out _ _ (Hs1.out.keepNo hc2) hcw2).mono ?_
    rintro e w3 ⟨B3, d3, rfl, hs3, hc3⟩
    have hcw3 := hcw2.trans hc3
    have Hs3 := Lib.hid hs3; clear hs3
    go_wp2_with (first | (with_reducible refine stop_append ?_) | (with_reducible refine stop_copy ?_) | (with_reducible refine stop_make ?_) | (with_reducible refine stop_lookup ?_) | (with_reducible refine stop_update ?_) | (with_reducible refine stop_slice ?_) | (with_reducible refine stop_range ?_) | (with_reducible refine stop_next ?_) | (with_reducible refine stop_convert ⟨_, rfl⟩ ?_) | (with_reducible refine stop_convertB ⟨_, _, _, rfl⟩ ?_) | (with_reducible refine stop_eqSlice ⟨_, _, rfl⟩ ?_))
    refine (Hm4.out _ _ (Hs2.out.keepNo hc3) hcw3).mono ?_
    rintro e w4 ⟨B4, d4, rfl, hs4, hc4⟩
    have hcw4 := hcw3.trans hc4
    have Hs4 := Lib.hid hs4; clear hs4
    go_wp2_with (first | (with_reducible refine stop_append ?_) | (with_reducible refine stop_copy ?_) | (with_reducible refine stop_make ?_) | (with_reducible refine stop_lookup ?_) | (with_reducible refine stop_update ?_) | (with_reducible refine stop_slice ?_) | (with_reducible refine stop_range ?_) | (with_reducible refine stop_next ?_) | (with_reducible refine stop_convert ⟨_, rfl⟩ ?_) | (with_reducible refine stop_convertB ⟨_, _, _, rfl⟩ ?_) | (with_reducible refine stop_eqSlice ⟨_, _, rfl⟩ ?_))
    refine (Hm5.out _ hcw4).mono ?_
    rintro e w5 ⟨B5, d5, rfl, hs5, hc5⟩
    have hcw5 := hcw4.trans hc5
    have Hs5 := Lib.hid hs5; clear hs5
    go_wp2_with (first | (with_reducible refine stop_append ?_) | (with_reducible refine stop_copy ?_) | (with_reducible refine stop_make ?_) | (with_reducible refine stop_lookup ?_) | (with_reducible refine stop_update ?_) | (with_reducible refine stop_slice ?_) | (with_reducible refine stop_range ?_) | (with_reducible refine stop_next ?_) | (with_reducible refine stop_convert ⟨_, rfl⟩ ?_) | (with_reducible refine stop_convertB ⟨_, _, _, rfl⟩ ?_) | (with_reducible refine stop_eqSlice ⟨_, _, rfl⟩ ?_))
    refine (Hm6.out _ hcw5).mono ?_
    rintro e w6 ⟨B6, d6, rfl, hs6, hc6⟩
    have hcw6 := hcw5.trans hc6
    have Hs6 := Lib.hid hs6; clear hs6
    go_wp2_with (first | (with_reducible refine stop_append ?_) | (with_reducible refine stop_copy ?_) | (with_reducible refine stop_make ?_) | (with_reducible refine stop_lookup ?_) | (with_reducible refine stop_update ?_) | (with_reducible refine stop_slice ?_) | (with_reducible refine stop_range ?_) | (with_reducible refine stop_next ?_) | (with_reducible refine stop_convert ⟨_, rfl⟩ ?_) | (with_reducible refine stop_convertB ⟨_, _, _, rfl⟩ ?_) | (with_reducible refine stop_eqSlice ⟨_, _, rfl⟩ ?_))
    refine (valive_any _).mono ?_
    rintro e w7 ⟨rfl, hc7⟩
    have hcw7 := hcw6.trans hc7
    go_wp2_with (first | (with_reducible refine stop_append ?_) | (with_reducible refine stop_copy ?_) | (with_reducible refine stop_make ?_) | (with_reducible refine stop_lookup ?_) | (with_reducible refine stop_update ?_) | (with_reducible refine stop_slice ?_) | (with_reducible refine stop_range ?_) | (with_reducible refine stop_next ?_) | (with_reducible refine stop_convert ⟨_, rfl⟩ ?_) | (with_reducible refine stop_convertB ⟨_, _, _, rfl⟩ ?_) | (with_reducible refine stop_eqSlice ⟨_, _, rfl⟩ ?_))
    refine (vsame_any No No _ _ x3 x4 w7 (Hs3.out.keepNo (((hc4.trans hc5).trans hc6).trans hc7)) (Hs4.out.keepNo ((hc5.trans hc6).trans hc7)) t3 t4).mono ?_
    rw [Hsame1.out]
    rintro e w8 ⟨rfl, hc8⟩
    go_wp2_with (first | (with_reducible refine stop_append ?_) | (with_reducible refine stop_copy ?_) | (with_reducible refine stop_make ?_) | (with_reducible refine stop_lookup ?_) | (with_reducible refine stop_update ?_) | (with_reducible refine stop_slice ?_) | (with_reducible refine stop_range ?_) | (with_reducible refine stop_next ?_) | (with_reducible refine stop_convert ⟨_, rfl⟩ ?_) | (with_reducible refine stop_convertB ⟨_, _, _, rfl⟩ ?_) | (with_reducible refine stop_eqSlice ⟨_, _, rfl⟩ ?_))
    refine (vsame_any No No _ _ x5 x6 w8 (Hs5.out.keepNo ((hc6.trans hc7).trans hc8)) (Hs6.out.keepNo (hc7.trans hc8)) t5 t6).mono ?_
    rw [Hsame2.out]
    rintro e w9 ⟨rfl, hc9⟩
    go_wp2_with (first | (with_reducible refine stop_append ?_) | (with_reducible refine stop_copy ?_) | (with_reducible refine stop_make ?_) | (with_reducible refine stop_lookup ?_) | (with_reducible refine stop_update ?_) | (with_reducible refine stop_slice ?_) | (with_reducible refine stop_range ?_) | (with_reducible refine stop_next ?_) | (with_reducible refine stop_convert ⟨_, rfl⟩ ?_) | (with_reducible refine stop_convertB ⟨_, _, _, rfl⟩ ?_) | (with_reducible refine stop_eqSlice ⟨_, _, rfl⟩ ?_))
    go_ret
    exact ⟨rfl, (hcw7.trans hc8).trans hc9⟩
end Go.Proofs.Ytlpnbbjmcmjkpaa
