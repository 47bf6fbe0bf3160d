/- The statements VectorGains, VectorBounds, walked. -/
import Derived.Test.YtlpnbbjmcmjkpaaVecX
set_option linter.unusedVariables false
set_option linter.unusedSimpArgs false
namespace Go.Proofs.Ytlpnbbjmcmjkpaa
open Go.RowKit Cb

set_option maxRecDepth 100000 in
set_option maxHeartbeats 1000000 in
theorem vgains_any (v0 v1 : Value) (a b : List Int) (w : World) (h0 : Sl No w v0 a) (h1 : Sl No w v1 b) (s0 : small a) (s1 : small b) :
    Calls Try.prog 7 #[v0, v1] w fun e w' => e = .returned (.bool true) ∧ Chg No w w' := by
  have Hg := Lib.hid ((vgain_any No No v0 v1 a b w h0 h1 s0 s1).mono (fun e w' h => pair_out h))
  have Hc := Lib.hid (fun W (hW : Chg No w W) => vcovers_any No No v0 v1 a b W (h0.keepNo hW) (h1.keepNo hW) s0 s1)
  have Ht0 := Lib.hid (fun W (hW : Chg No w W) => vtotal_any No v0 a W (h0.keepNo hW) s0)
  have Ht1 := Lib.hid (fun W (hW : Chg No w W) => vtotal_any No v1 b W (h1.keepNo hW) s1)
  obtain ⟨A0, c0, rfl⟩ := h0.slice
  obtain ⟨A1, c1, rfl⟩ := h1.slice
  clear h0 h1
  cases hcv : coversB a b with
  | false =>
    rw [hcv] at Hc
    rw [show gainF a b = none by simp [gainF, hcv]] at Hg
    clear hcv
    go_enter Try.func7, Try.ntmps7
    go_wp2_with (first | (with_reducible refine stop_append ?_) | (with_reducible refine stop_copy ?_) | (with_reducible refine stop_make ?_) | (with_reducible refine stop_lookup ?_) | (with_reducible refine stop_update ?_) | (with_reducible refine stop_slice ?_) | (with_reducible refine stop_range ?_) | (with_reducible refine stop_next ?_) | (with_reducible refine stop_convert ⟨_, rfl⟩ ?_) | (with_reducible refine stop_convertB ⟨_, _, _, rfl⟩ ?_) | (with_reducible refine stop_eqSlice ⟨_, _, rfl⟩ ?_))
    refine Hg.out.mono ?_
    rintro e w1 ⟨B1, d1, rfl, _, hc1⟩
    simp only [Option.isSome_none]
    go_wp2_with (first | (with_reducible refine stop_append ?_) | (with_reducible refine stop_copy ?_) | (with_reducible refine stop_make ?_) | (with_reducible refine stop_lookup ?_) | (with_reducible refine stop_update ?_) | (with_reducible refine stop_slice ?_) | (with_reducible refine stop_range ?_) | (with_reducible refine stop_next ?_) | (with_reducible refine stop_convert ⟨_, rfl⟩ ?_) | (with_reducible refine stop_convertB ⟨_, _, _, rfl⟩ ?_) | (with_reducible refine stop_eqSlice ⟨_, _, rfl⟩ ?_))
    refine (valive_any _).mono ?_
    rintro e w2 ⟨rfl, hc2⟩
    have hc2 := hc1.trans hc2
    go_wp2_with (first | (with_reducible refine stop_append ?_) | (with_reducible refine stop_copy ?_) | (with_reducible refine stop_make ?_) | (with_reducible refine stop_lookup ?_) | (with_reducible refine stop_update ?_) | (with_reducible refine stop_slice ?_) | (with_reducible refine stop_range ?_) | (with_reducible refine stop_next ?_) | (with_reducible refine stop_convert ⟨_, rfl⟩ ?_) | (with_reducible refine stop_convertB ⟨_, _, _, rfl⟩ ?_) | (with_reducible refine stop_eqSlice ⟨_, _, rfl⟩ ?_))
    refine (Hc.out _ hc2).mono ?_
    rintro e w3 ⟨rfl, hc3⟩
    go_wp2_with (first | (with_reducible refine stop_append ?_) | (with_reducible refine stop_copy ?_) | (with_reducible refine stop_make ?_) | (with_reducible refine stop_lookup ?_) | (with_reducible refine stop_update ?_) | (with_reducible refine stop_slice ?_) | (with_reducible refine stop_range ?_) | (with_reducible refine stop_next ?_) | (with_reducible refine stop_convert ⟨_, rfl⟩ ?_) | (with_reducible refine stop_convertB ⟨_, _, _, rfl⟩ ?_) | (with_reducible refine stop_eqSlice ⟨_, _, rfl⟩ ?_))
    go_ret
    exact ⟨rfl, hc2.trans hc3⟩
  | true =>
    obtain ⟨g1, g2⟩ := gain_right hcv
    have Hgt := Lib.hid (gain_total hcv)
    rw [show gainF a b = some (List.zipWith (· - ·) a b) by simp [gainF, hcv]] at Hg
    simp only [Option.getD_some, Option.isSome_some, PairOut] at Hg
    have hs := small_of g1
    have ta := total_bound a
    have tb := total_bound b
    rw [g2] at Hg
    clear hcv g1
    generalize List.zipWith (· - ·) a b = z at *
    have hwr : IntKind.i64.wrap (total a - total b) = total a - total b := IntWalk.i64_in _ (by omega)
    go_enter Try.func7, Try.ntmps7
    go_wp2_with (first | (with_reducible refine stop_append ?_) | (with_reducible refine stop_copy ?_) | (with_reducible refine stop_make ?_) | (with_reducible refine stop_lookup ?_) | (with_reducible refine stop_update ?_) | (with_reducible refine stop_slice ?_) | (with_reducible refine stop_range ?_) | (with_reducible refine stop_next ?_) | (with_reducible refine stop_convert ⟨_, rfl⟩ ?_) | (with_reducible refine stop_convertB ⟨_, _, _, rfl⟩ ?_) | (with_reducible refine stop_eqSlice ⟨_, _, rfl⟩ ?_))
    refine Hg.out.mono ?_
    rintro e w1 ⟨B1, d1, rfl, hs1, hc1⟩
    have Hs1 := Lib.hid hs1; clear hs1
    go_wp2_with (first | (with_reducible refine stop_append ?_) | (with_reducible refine stop_copy ?_) | (with_reducible refine stop_make ?_) | (with_reducible refine stop_lookup ?_) | (with_reducible refine stop_update ?_) | (with_reducible refine stop_slice ?_) | (with_reducible refine stop_range ?_) | (with_reducible refine stop_next ?_) | (with_reducible refine stop_convert ⟨_, rfl⟩ ?_) | (with_reducible refine stop_convertB ⟨_, _, _, rfl⟩ ?_) | (with_reducible refine stop_eqSlice ⟨_, _, rfl⟩ ?_))
    refine (valive_any _).mono ?_
    rintro e w2 ⟨rfl, hc2⟩
    have hcw2 := hc1.trans hc2
    go_wp2_with (first | (with_reducible refine stop_append ?_) | (with_reducible refine stop_copy ?_) | (with_reducible refine stop_make ?_) | (with_reducible refine stop_lookup ?_) | (with_reducible refine stop_update ?_) | (with_reducible refine stop_slice ?_) | (with_reducible refine stop_range ?_) | (with_reducible refine stop_next ?_) | (with_reducible refine stop_convert ⟨_, rfl⟩ ?_) | (with_reducible refine stop_convertB ⟨_, _, _, rfl⟩ ?_) | (with_reducible refine stop_eqSlice ⟨_, _, rfl⟩ ?_))
    refine (vtotal_any No _ z w2 (Hs1.out.keepNo hc2) hs).mono ?_
    rintro e w3 ⟨rfl, hc3⟩
    rw [Hgt.out]
    have hcw3 := hcw2.trans hc3
    go_wp2_with (first | (with_reducible refine stop_append ?_) | (with_reducible refine stop_copy ?_) | (with_reducible refine stop_make ?_) | (with_reducible refine stop_lookup ?_) | (with_reducible refine stop_update ?_) | (with_reducible refine stop_slice ?_) | (with_reducible refine stop_range ?_) | (with_reducible refine stop_next ?_) | (with_reducible refine stop_convert ⟨_, rfl⟩ ?_) | (with_reducible refine stop_convertB ⟨_, _, _, rfl⟩ ?_) | (with_reducible refine stop_eqSlice ⟨_, _, rfl⟩ ?_))
    refine (Ht0.out _ hcw3).mono ?_
    rintro e w4 ⟨rfl, hc4⟩
    have hcw4 := hcw3.trans hc4
    go_wp2_with (first | (with_reducible refine stop_append ?_) | (with_reducible refine stop_copy ?_) | (with_reducible refine stop_make ?_) | (with_reducible refine stop_lookup ?_) | (with_reducible refine stop_update ?_) | (with_reducible refine stop_slice ?_) | (with_reducible refine stop_range ?_) | (with_reducible refine stop_next ?_) | (with_reducible refine stop_convert ⟨_, rfl⟩ ?_) | (with_reducible refine stop_convertB ⟨_, _, _, rfl⟩ ?_) | (with_reducible refine stop_eqSlice ⟨_, _, rfl⟩ ?_))
    refine (Ht1.out _ hcw4).mono ?_
    rintro e w5 ⟨rfl, hc5⟩
    have hcw5 := hcw4.trans hc5
    go_wp2_with (first | (with_reducible refine stop_append ?_) | (with_reducible refine stop_copy ?_) | (with_reducible refine stop_make ?_) | (with_reducible refine stop_lookup ?_) | (with_reducible refine stop_update ?_) | (with_reducible refine stop_slice ?_) | (with_reducible refine stop_range ?_) | (with_reducible refine stop_next ?_) | (with_reducible refine stop_convert ⟨_, rfl⟩ ?_) | (with_reducible refine stop_convertB ⟨_, _, _, rfl⟩ ?_) | (with_reducible refine stop_eqSlice ⟨_, _, rfl⟩ ?_))
    go_ret
    exact ⟨by simp, hcw5⟩
set_option maxRecDepth 100000 in
set_option maxHeartbeats 1000000 in
theorem vbounds_any (v0 v1 v2 : Value) (a b c : List Int) (w : World) (h0 : Sl No w v0 a) (h1 : Sl No w v1 b) (h2 : Sl No w v2 c) (s0 : small a) (s1 : small b) (s2 : small c) :
    Calls Try.prog 6 #[v0, v1, v2] w fun e w' => e = .returned (.bool true) ∧ Chg No w w' := by
  have Hmax := Lib.hid ((vmax_any No No v0 v1 a b w h0 h1 s0 s1).mono (fun e w' h => pair_out h))
  have Hmin := Lib.hid (fun W (hW : Chg No w W) => (vmin_any No No v0 v1 a b W (h0.keepNo hW) (h1.keepNo hW) s0 s1).mono (fun e w' h => pair_out h))
  have H0 := Lib.hid (fun W (hW : Chg No w W) => h0.keepNo hW)
  have H1 := Lib.hid (fun W (hW : Chg No w W) => h1.keepNo hW)
  have H2 := Lib.hid (fun W (hW : Chg No w W) => h2.keepNo hW)
  obtain ⟨A0, c0, rfl⟩ := h0.slice
  obtain ⟨A1, c1, rfl⟩ := h1.slice
  obtain ⟨A2, c2, rfl⟩ := h2.slice
  clear h0 h1 h2
  cases hk : kindB a b with
  | false =>
    rw [both_no hk] at Hmax Hmin
    clear hk
    go_enter Try.func6, Try.ntmps6
    go_wp2_with (first | (with_reducible refine stop_append ?_) | (with_reducible refine stop_copy ?_) | (with_reducible refine stop_make ?_) | (with_reducible refine stop_lookup ?_) | (with_reducible refine stop_update ?_) | (with_reducible refine stop_slice ?_) | (with_reducible refine stop_range ?_) | (with_reducible refine stop_next ?_) | (with_reducible refine stop_convert ⟨_, rfl⟩ ?_) | (with_reducible refine stop_convertB ⟨_, _, _, rfl⟩ ?_) | (with_reducible refine stop_eqSlice ⟨_, _, rfl⟩ ?_))
    refine Hmax.out.mono ?_
    rintro e w1 ⟨B1, d1, rfl, _, hc1⟩
    simp only [Option.isSome_none]
    go_wp2_with (first | (with_reducible refine stop_append ?_) | (with_reducible refine stop_copy ?_) | (with_reducible refine stop_make ?_) | (with_reducible refine stop_lookup ?_) | (with_reducible refine stop_update ?_) | (with_reducible refine stop_slice ?_) | (with_reducible refine stop_range ?_) | (with_reducible refine stop_next ?_) | (with_reducible refine stop_convert ⟨_, rfl⟩ ?_) | (with_reducible refine stop_convertB ⟨_, _, _, rfl⟩ ?_) | (with_reducible refine stop_eqSlice ⟨_, _, rfl⟩ ?_))
    refine (Hmin.out _ hc1).mono ?_
    rintro e w2 ⟨B2, d2, rfl, _, hc2⟩
    simp only [Option.isSome_none]
    go_wp2_with (first | (with_reducible refine stop_append ?_) | (with_reducible refine stop_copy ?_) | (with_reducible refine stop_make ?_) | (with_reducible refine stop_lookup ?_) | (with_reducible refine stop_update ?_) | (with_reducible refine stop_slice ?_) | (with_reducible refine stop_range ?_) | (with_reducible refine stop_next ?_) | (with_reducible refine stop_convert ⟨_, rfl⟩ ?_) | (with_reducible refine stop_convertB ⟨_, _, _, rfl⟩ ?_) | (with_reducible refine stop_eqSlice ⟨_, _, rfl⟩ ?_))
    refine (valive_any _).mono ?_
    rintro e w3 ⟨rfl, hc3⟩
    go_wp2_with (first | (with_reducible refine stop_append ?_) | (with_reducible refine stop_copy ?_) | (with_reducible refine stop_make ?_) | (with_reducible refine stop_lookup ?_) | (with_reducible refine stop_update ?_) | (with_reducible refine stop_slice ?_) | (with_reducible refine stop_range ?_) | (with_reducible refine stop_next ?_) | (with_reducible refine stop_convert ⟨_, rfl⟩ ?_) | (with_reducible refine stop_convertB ⟨_, _, _, rfl⟩ ?_) | (with_reducible refine stop_eqSlice ⟨_, _, rfl⟩ ?_))
    go_ret
    exact ⟨rfl, (hc1.trans hc2).trans hc3⟩
  | true =>
    obtain ⟨b1, b2, b3, b4⟩ := bounds hk
    have Hb1 := Lib.hid b1; have Hb2 := Lib.hid b2; have Hb3 := Lib.hid b3; have Hb4 := Lib.hid b4
    have Hup := Lib.hid (fun h1 h2 => bounds_up (c := c) hk h1 h2)
    have Hdown := Lib.hid (fun h1 h2 => bounds_down (c := c) hk h1 h2)
    have Htot := Lib.hid (bounds_total hk)
    have t1 := small_of (max_right hk).1
    have t2 := small_of (min_right hk).1
    rw [both_yes hk] at Hmax Hmin
    simp only [Option.getD_some, Option.isSome_some, PairOut] at Hmax Hmin
    clear hk b1 b2 b3 b4
    generalize List.zipWith max a b = m at *
    generalize List.zipWith min a b = n at *
    have hT := total_bound m
    have hT1 := total_bound n
    have hT2 := total_bound a
    have hT3 := total_bound b
    have hwr1 : IntKind.i64.wrap (total m + total n) = total m + total n := IntWalk.i64_in _ (by omega)
    have hwr2 : IntKind.i64.wrap (total a + total b) = total a + total b := IntWalk.i64_in _ (by omega)
    clear hT hT1 hT2 hT3
    have hcase1 : coversB c a = false ∨ (coversB c a = true ∧ coversB c b = false) ∨ (coversB c a = true ∧ coversB c b = true ∧ coversB c m = true) := by
      cases e1 : coversB c a
      · simp
      · cases e2 : coversB c b
        · simp
        · simp [Hup.out e1 e2]
    have hcase2 : coversB a c = false ∨ (coversB a c = true ∧ coversB b c = false) ∨ (coversB a c = true ∧ coversB b c = true ∧ coversB n c = true) := by
      cases e1 : coversB a c
      · simp
      · cases e2 : coversB b c
        · simp
        · simp [Hdown.out e1 e2]
    have Hcase1 := Lib.hid hcase1
    have Hcase2 := Lib.hid hcase2
    clear hcase1 hcase2
    go_enter Try.func6, Try.ntmps6
    go_wp2_with (first | (with_reducible refine stop_append ?_) | (with_reducible refine stop_copy ?_) | (with_reducible refine stop_make ?_) | (with_reducible refine stop_lookup ?_) | (with_reducible refine stop_update ?_) | (with_reducible refine stop_slice ?_) | (with_reducible refine stop_range ?_) | (with_reducible refine stop_next ?_) | (with_reducible refine stop_convert ⟨_, rfl⟩ ?_) | (with_reducible refine stop_convertB ⟨_, _, _, rfl⟩ ?_) | (with_reducible refine stop_eqSlice ⟨_, _, rfl⟩ ?_))
    refine Hmax.out.mono ?_
    rintro e w1 ⟨B1, d1, rfl, hs1, hc1⟩
    go_wp2_with (first | (with_reducible refine stop_append ?_) | (with_reducible refine stop_copy ?_) | (with_reducible refine stop_make ?_) | (with_reducible refine stop_lookup ?_) | (with_reducible refine stop_update ?_) | (with_reducible refine stop_slice ?_) | (with_reducible refine stop_range ?_) | (with_reducible refine stop_next ?_) | (with_reducible refine stop_convert ⟨_, rfl⟩ ?_) | (with_reducible refine stop_convertB ⟨_, _, _, rfl⟩ ?_) | (with_reducible refine stop_eqSlice ⟨_, _, rfl⟩ ?_))
    refine (Hmin.out _ hc1).mono ?_
    rintro e w2 ⟨B2, d2, rfl, hs2, hc2⟩
    have hcw := hc1.trans hc2
    have HM := Lib.hid (fun W (hW : Chg No w2 W) => hs1.keepNo (hc2.trans hW))
    have HN := Lib.hid (fun W (hW : Chg No w2 W) => hs2.keepNo hW)
    have HC0 := Lib.hid (fun W (hW : Chg No w2 W) => H0.out W (hcw.trans hW))
    have HC1 := Lib.hid (fun W (hW : Chg No w2 W) => H1.out W (hcw.trans hW))
    have HC2 := Lib.hid (fun W (hW : Chg No w2 W) => H2.out W (hcw.trans hW))
    clear hs1 hs2
    have k0 := Chg.refl No w2
    go_wp2_with (first | (with_reducible refine stop_append ?_) | (with_reducible refine stop_copy ?_) | (with_reducible refine stop_make ?_) | (with_reducible refine stop_lookup ?_) | (with_reducible refine stop_update ?_) | (with_reducible refine stop_slice ?_) | (with_reducible refine stop_range ?_) | (with_reducible refine stop_next ?_) | (with_reducible refine stop_convert ⟨_, rfl⟩ ?_) | (with_reducible refine stop_convertB ⟨_, _, _, rfl⟩ ?_) | (with_reducible refine stop_eqSlice ⟨_, _, rfl⟩ ?_))
    refine (vcovers_any No No _ _ m a w2 (HM.out _ k0) (HC0.out _ k0) t1 s0).mono ?_
    rw [Hb1.out]
    rintro e w3 ⟨rfl, k1⟩
    go_wp2_with (first | (with_reducible refine stop_append ?_) | (with_reducible refine stop_copy ?_) | (with_reducible refine stop_make ?_) | (with_reducible refine stop_lookup ?_) | (with_reducible refine stop_update ?_) | (with_reducible refine stop_slice ?_) | (with_reducible refine stop_range ?_) | (with_reducible refine stop_next ?_) | (with_reducible refine stop_convert ⟨_, rfl⟩ ?_) | (with_reducible refine stop_convertB ⟨_, _, _, rfl⟩ ?_) | (with_reducible refine stop_eqSlice ⟨_, _, rfl⟩ ?_))
    refine (vcovers_any No No _ _ m b w3 (HM.out _ k1) (HC1.out _ k1) t1 s1).mono ?_
    rw [Hb2.out]
    rintro e w4 ⟨rfl, k2⟩
    have k2 := k1.trans k2
    go_wp2_with (first | (with_reducible refine stop_append ?_) | (with_reducible refine stop_copy ?_) | (with_reducible refine stop_make ?_) | (with_reducible refine stop_lookup ?_) | (with_reducible refine stop_update ?_) | (with_reducible refine stop_slice ?_) | (with_reducible refine stop_range ?_) | (with_reducible refine stop_next ?_) | (with_reducible refine stop_convert ⟨_, rfl⟩ ?_) | (with_reducible refine stop_convertB ⟨_, _, _, rfl⟩ ?_) | (with_reducible refine stop_eqSlice ⟨_, _, rfl⟩ ?_))
    refine (vcovers_any No No _ _ a n w4 (HC0.out _ k2) (HN.out _ k2) s0 t2).mono ?_
    rw [Hb3.out]
    rintro e w5 ⟨rfl, k3⟩
    have k3 := k2.trans k3
    go_wp2_with (first | (with_reducible refine stop_append ?_) | (with_reducible refine stop_copy ?_) | (with_reducible refine stop_make ?_) | (with_reducible refine stop_lookup ?_) | (with_reducible refine stop_update ?_) | (with_reducible refine stop_slice ?_) | (with_reducible refine stop_range ?_) | (with_reducible refine stop_next ?_) | (with_reducible refine stop_convert ⟨_, rfl⟩ ?_) | (with_reducible refine stop_convertB ⟨_, _, _, rfl⟩ ?_) | (with_reducible refine stop_eqSlice ⟨_, _, rfl⟩ ?_))
    refine (vcovers_any No No _ _ b n w5 (HC1.out _ k3) (HN.out _ k3) s1 t2).mono ?_
    rw [Hb4.out]
    rintro e w6 ⟨rfl, k4⟩
    have k4 := k3.trans k4
    go_wp2_with (first | (with_reducible refine stop_append ?_) | (with_reducible refine stop_copy ?_) | (with_reducible refine stop_make ?_) | (with_reducible refine stop_lookup ?_) | (with_reducible refine stop_update ?_) | (with_reducible refine stop_slice ?_) | (with_reducible refine stop_range ?_) | (with_reducible refine stop_next ?_) | (with_reducible refine stop_convert ⟨_, rfl⟩ ?_) | (with_reducible refine stop_convertB ⟨_, _, _, rfl⟩ ?_) | (with_reducible refine stop_eqSlice ⟨_, _, rfl⟩ ?_))
    refine (vtotal_any No _ m w6 (HM.out _ k4) t1).mono ?_
    rintro e w7 ⟨rfl, k5⟩
    have k5 := k4.trans k5
    go_wp2_with (first | (with_reducible refine stop_append ?_) | (with_reducible refine stop_copy ?_) | (with_reducible refine stop_make ?_) | (with_reducible refine stop_lookup ?_) | (with_reducible refine stop_update ?_) | (with_reducible refine stop_slice ?_) | (with_reducible refine stop_range ?_) | (with_reducible refine stop_next ?_) | (with_reducible refine stop_convert ⟨_, rfl⟩ ?_) | (with_reducible refine stop_convertB ⟨_, _, _, rfl⟩ ?_) | (with_reducible refine stop_eqSlice ⟨_, _, rfl⟩ ?_))
    refine (vtotal_any No _ n w7 (HN.out _ k5) t2).mono ?_
    rintro e w8 ⟨rfl, k6⟩
    have k6 := k5.trans k6
    go_wp2_with (first | (with_reducible refine stop_append ?_) | (with_reducible refine stop_copy ?_) | (with_reducible refine stop_make ?_) | (with_reducible refine stop_lookup ?_) | (with_reducible refine stop_update ?_) | (with_reducible refine stop_slice ?_) | (with_reducible refine stop_range ?_) | (with_reducible refine stop_next ?_) | (with_reducible refine stop_convert ⟨_, rfl⟩ ?_) | (with_reducible refine stop_convertB ⟨_, _, _, rfl⟩ ?_) | (with_reducible refine stop_eqSlice ⟨_, _, rfl⟩ ?_))
    refine (vtotal_any No _ a w8 (HC0.out _ k6) s0).mono ?_
    rintro e w9 ⟨rfl, k7⟩
    have k7 := k6.trans k7
    go_wp2_with (first | (with_reducible refine stop_append ?_) | (with_reducible refine stop_copy ?_) | (with_reducible refine stop_make ?_) | (with_reducible refine stop_lookup ?_) | (with_reducible refine stop_update ?_) | (with_reducible refine stop_slice ?_) | (with_reducible refine stop_range ?_) | (with_reducible refine stop_next ?_) | (with_reducible refine stop_convert ⟨_, rfl⟩ ?_) | (with_reducible refine stop_convertB ⟨_, _, _, rfl⟩ ?_) | (with_reducible refine stop_eqSlice ⟨_, _, rfl⟩ ?_))
    refine (vtotal_any No _ b w9 (HC1.out _ k7) s1).mono ?_
    rintro e w10 ⟨rfl, k8⟩
    have k8 := k7.trans k8
    have hne : (total m + total n != total a + total b) = false := by rw [Htot.out]; simp
    go_wp2_with (first | (with_reducible refine stop_append ?_) | (with_reducible refine stop_copy ?_) | (with_reducible refine stop_make ?_) | (with_reducible refine stop_lookup ?_) | (with_reducible refine stop_update ?_) | (with_reducible refine stop_slice ?_) | (with_reducible refine stop_range ?_) | (with_reducible refine stop_next ?_) | (with_reducible refine stop_convert ⟨_, rfl⟩ ?_) | (with_reducible refine stop_convertB ⟨_, _, _, rfl⟩ ?_) | (with_reducible refine stop_eqSlice ⟨_, _, rfl⟩ ?_))
    refine (valive_any _).mono ?_
    rintro e w11 ⟨rfl, k9⟩
    have k9 := k8.trans k9
    rcases Hcase1.out with e1 | ⟨e1, e2⟩ | ⟨e1, e2, e3⟩
    focus
      go_wp2_with (first | (with_reducible refine stop_append ?_) | (with_reducible refine stop_copy ?_) | (with_reducible refine stop_make ?_) | (with_reducible refine stop_lookup ?_) | (with_reducible refine stop_update ?_) | (with_reducible refine stop_slice ?_) | (with_reducible refine stop_range ?_) | (with_reducible refine stop_next ?_) | (with_reducible refine stop_convert ⟨_, rfl⟩ ?_) | (with_reducible refine stop_convertB ⟨_, _, _, rfl⟩ ?_) | (with_reducible refine stop_eqSlice ⟨_, _, rfl⟩ ?_))
      refine (vcovers_any No No _ _ c a w11 (HC2.out _ k9) (HC0.out _ k9) s2 s0).mono ?_
      rw [e1]
      rintro e w12 ⟨rfl, k10⟩
      obtain ⟨wz, hz, rfl⟩ : ∃ W, Chg No w2 W ∧ W = w12 := ⟨_, k9.trans k10, rfl⟩
      clear e1 k10
      go_wp2_with (first | (with_reducible refine stop_append ?_) | (with_reducible refine stop_copy ?_) | (with_reducible refine stop_make ?_) | (with_reducible refine stop_lookup ?_) | (with_reducible refine stop_update ?_) | (with_reducible refine stop_slice ?_) | (with_reducible refine stop_range ?_) | (with_reducible refine stop_next ?_) | (with_reducible refine stop_convert ⟨_, rfl⟩ ?_) | (with_reducible refine stop_convertB ⟨_, _, _, rfl⟩ ?_) | (with_reducible refine stop_eqSlice ⟨_, _, rfl⟩ ?_))
    rotate_left
    focus
      go_wp2_with (first | (with_reducible refine stop_append ?_) | (with_reducible refine stop_copy ?_) | (with_reducible refine stop_make ?_) | (with_reducible refine stop_lookup ?_) | (with_reducible refine stop_update ?_) | (with_reducible refine stop_slice ?_) | (with_reducible refine stop_range ?_) | (with_reducible refine stop_next ?_) | (with_reducible refine stop_convert ⟨_, rfl⟩ ?_) | (with_reducible refine stop_convertB ⟨_, _, _, rfl⟩ ?_) | (with_reducible refine stop_eqSlice ⟨_, _, rfl⟩ ?_))
      refine (vcovers_any No No _ _ c a w11 (HC2.out _ k9) (HC0.out _ k9) s2 s0).mono ?_
      rw [e1]
      rintro e w12 ⟨rfl, k10⟩
      have k10 := k9.trans k10
      go_wp2_with (first | (with_reducible refine stop_append ?_) | (with_reducible refine stop_copy ?_) | (with_reducible refine stop_make ?_) | (with_reducible refine stop_lookup ?_) | (with_reducible refine stop_update ?_) | (with_reducible refine stop_slice ?_) | (with_reducible refine stop_range ?_) | (with_reducible refine stop_next ?_) | (with_reducible refine stop_convert ⟨_, rfl⟩ ?_) | (with_reducible refine stop_convertB ⟨_, _, _, rfl⟩ ?_) | (with_reducible refine stop_eqSlice ⟨_, _, rfl⟩ ?_))
      refine (vcovers_any No No _ _ c b w12 (HC2.out _ k10) (HC1.out _ k10) s2 s1).mono ?_
      rw [e2]
      rintro e w13 ⟨rfl, k11⟩
      obtain ⟨wz, hz, rfl⟩ : ∃ W, Chg No w2 W ∧ W = w13 := ⟨_, k10.trans k11, rfl⟩
      clear e1 e2 k10 k11
      go_wp2_with (first | (with_reducible refine stop_append ?_) | (with_reducible refine stop_copy ?_) | (with_reducible refine stop_make ?_) | (with_reducible refine stop_lookup ?_) | (with_reducible refine stop_update ?_) | (with_reducible refine stop_slice ?_) | (with_reducible refine stop_range ?_) | (with_reducible refine stop_next ?_) | (with_reducible refine stop_convert ⟨_, rfl⟩ ?_) | (with_reducible refine stop_convertB ⟨_, _, _, rfl⟩ ?_) | (with_reducible refine stop_eqSlice ⟨_, _, rfl⟩ ?_))
    rotate_left
    focus
      go_wp2_with (first | (with_reducible refine stop_append ?_) | (with_reducible refine stop_copy ?_) | (with_reducible refine stop_make ?_) | (with_reducible refine stop_lookup ?_) | (with_reducible refine stop_update ?_) | (with_reducible refine stop_slice ?_) | (with_reducible refine stop_range ?_) | (with_reducible refine stop_next ?_) | (with_reducible refine stop_convert ⟨_, rfl⟩ ?_) | (with_reducible refine stop_convertB ⟨_, _, _, rfl⟩ ?_) | (with_reducible refine stop_eqSlice ⟨_, _, rfl⟩ ?_))
      refine (vcovers_any No No _ _ c a w11 (HC2.out _ k9) (HC0.out _ k9) s2 s0).mono ?_
      rw [e1]
      rintro e w12 ⟨rfl, k10⟩
      have k10 := k9.trans k10
      go_wp2_with (first | (with_reducible refine stop_append ?_) | (with_reducible refine stop_copy ?_) | (with_reducible refine stop_make ?_) | (with_reducible refine stop_lookup ?_) | (with_reducible refine stop_update ?_) | (with_reducible refine stop_slice ?_) | (with_reducible refine stop_range ?_) | (with_reducible refine stop_next ?_) | (with_reducible refine stop_convert ⟨_, rfl⟩ ?_) | (with_reducible refine stop_convertB ⟨_, _, _, rfl⟩ ?_) | (with_reducible refine stop_eqSlice ⟨_, _, rfl⟩ ?_))
      refine (vcovers_any No No _ _ c b w12 (HC2.out _ k10) (HC1.out _ k10) s2 s1).mono ?_
      rw [e2]
      rintro e w13 ⟨rfl, k11⟩
      have k11 := k10.trans k11
      go_wp2_with (first | (with_reducible refine stop_append ?_) | (with_reducible refine stop_copy ?_) | (with_reducible refine stop_make ?_) | (with_reducible refine stop_lookup ?_) | (with_reducible refine stop_update ?_) | (with_reducible refine stop_slice ?_) | (with_reducible refine stop_range ?_) | (with_reducible refine stop_next ?_) | (with_reducible refine stop_convert ⟨_, rfl⟩ ?_) | (with_reducible refine stop_convertB ⟨_, _, _, rfl⟩ ?_) | (with_reducible refine stop_eqSlice ⟨_, _, rfl⟩ ?_))
      refine (vcovers_any No No _ _ c m w13 (HC2.out _ k11) (HM.out _ k11) s2 t1).mono ?_
      rw [e3]
      rintro e w14 ⟨rfl, k12⟩
      obtain ⟨wz, hz, rfl⟩ : ∃ W, Chg No w2 W ∧ W = w14 := ⟨_, k11.trans k12, rfl⟩
      clear e1 e2 e3 k10 k11 k12
      go_wp2_with (first | (with_reducible refine stop_append ?_) | (with_reducible refine stop_copy ?_) | (with_reducible refine stop_make ?_) | (with_reducible refine stop_lookup ?_) | (with_reducible refine stop_update ?_) | (with_reducible refine stop_slice ?_) | (with_reducible refine stop_range ?_) | (with_reducible refine stop_next ?_) | (with_reducible refine stop_convert ⟨_, rfl⟩ ?_) | (with_reducible refine stop_convertB ⟨_, _, _, rfl⟩ ?_) | (with_reducible refine stop_eqSlice ⟨_, _, rfl⟩ ?_))
    all_goals
      refine (vcovers_any No No _ _ a c wz (HC0.out _ hz) (HC2.out _ hz) s0 s2).mono ?_
      rcases Hcase2.out with e1 | ⟨e1, e2⟩ | ⟨e1, e2, e3⟩
      · rw [e1]
        rintro e w15 ⟨rfl, q1⟩
        clear e1
        go_wp2_with (first | (with_reducible refine stop_append ?_) | (with_reducible refine stop_copy ?_) | (with_reducible refine stop_make ?_) | (with_reducible refine stop_lookup ?_) | (with_reducible refine stop_update ?_) | (with_reducible refine stop_slice ?_) | (with_reducible refine stop_range ?_) | (with_reducible refine stop_next ?_) | (with_reducible refine stop_convert ⟨_, rfl⟩ ?_) | (with_reducible refine stop_convertB ⟨_, _, _, rfl⟩ ?_) | (with_reducible refine stop_eqSlice ⟨_, _, rfl⟩ ?_))
        go_ret
        exact ⟨rfl, (hcw.trans hz).trans q1⟩
      · rw [e1]
        rintro e w15 ⟨rfl, q1⟩
        have q1 := hz.trans q1
        go_wp2_with (first | (with_reducible refine stop_append ?_) | (with_reducible refine stop_copy ?_) | (with_reducible refine stop_make ?_) | (with_reducible refine stop_lookup ?_) | (with_reducible refine stop_update ?_) | (with_reducible refine stop_slice ?_) | (with_reducible refine stop_range ?_) | (with_reducible refine stop_next ?_) | (with_reducible refine stop_convert ⟨_, rfl⟩ ?_) | (with_reducible refine stop_convertB ⟨_, _, _, rfl⟩ ?_) | (with_reducible refine stop_eqSlice ⟨_, _, rfl⟩ ?_))
        refine (vcovers_any No No _ _ b c w15 (HC1.out _ q1) (HC2.out _ q1) s1 s2).mono ?_
        rw [e2]
        rintro e w16 ⟨rfl, q2⟩
        clear e1 e2
        go_wp2_with (first | (with_reducible refine stop_append ?_) | (with_reducible refine stop_copy ?_) | (with_reducible refine stop_make ?_) | (with_reducible refine stop_lookup ?_) | (with_reducible refine stop_update ?_) | (with_reducible refine stop_slice ?_) | (with_reducible refine stop_range ?_) | (with_reducible refine stop_next ?_) | (with_reducible refine stop_convert ⟨_, rfl⟩ ?_) | (with_reducible refine stop_convertB ⟨_, _, _, rfl⟩ ?_) | (with_reducible refine stop_eqSlice ⟨_, _, rfl⟩ ?_))
        go_ret
        exact ⟨rfl, (hcw.trans q1).trans q2⟩
      · rw [e1]
        rintro e w15 ⟨rfl, q1⟩
        have q1 := hz.trans q1
        go_wp2_with (first | (with_reducible refine stop_append ?_) | (with_reducible refine stop_copy ?_) | (with_reducible refine stop_make ?_) | (with_reducible refine stop_lookup ?_) | (with_reducible refine stop_update ?_) | (with_reducible refine stop_slice ?_) | (with_reducible refine stop_range ?_) | (with_reducible refine stop_next ?_) | (with_reducible refine stop_convert ⟨_, rfl⟩ ?_) | (with_reducible refine stop_convertB ⟨_, _, _, rfl⟩ ?_) | (with_reducible refine stop_eqSlice ⟨_, _, rfl⟩ ?_))
        refine (vcovers_any No No _ _ b c w15 (HC1.out _ q1) (HC2.out _ q1) s1 s2).mono ?_
        rw [e2]
        rintro e w16 ⟨rfl, q2⟩
        have q2 := q1.trans q2
        go_wp2_with (first | (with_reducible refine stop_append ?_) | (with_reducible refine stop_copy ?_) | (with_reducible refine stop_make ?_) | (with_reducible refine stop_lookup ?_) | (with_reducible refine stop_update ?_) | (with_reducible refine stop_slice ?_) | (with_reducible refine stop_range ?_) | (with_reducible refine stop_next ?_) | (with_reducible refine stop_convert ⟨_, rfl⟩ ?_) | (with_reducible refine stop_convertB ⟨_, _, _, rfl⟩ ?_) | (with_reducible refine stop_eqSlice ⟨_, _, rfl⟩ ?_))
        refine (vcovers_any No No _ _ n c w16 (HN.out _ q2) (HC2.out _ q2) t2 s2).mono ?_
        rw [e3]
        rintro e w17 ⟨rfl, q3⟩
        clear e1 e2 e3
        go_wp2_with (first | (with_reducible refine stop_append ?_) | (with_reducible refine stop_copy ?_) | (with_reducible refine stop_make ?_) | (with_reducible refine stop_lookup ?_) | (with_reducible refine stop_update ?_) | (with_reducible refine stop_slice ?_) | (with_reducible refine stop_range ?_) | (with_reducible refine stop_next ?_) | (with_reducible refine stop_convert ⟨_, rfl⟩ ?_) | (with_reducible refine stop_convertB ⟨_, _, _, rfl⟩ ?_) | (with_reducible refine stop_eqSlice ⟨_, _, rfl⟩ ?_))
        go_ret
        exact ⟨rfl, (hcw.trans q2).trans q3⟩
end Go.Proofs.Ytlpnbbjmcmjkpaa
