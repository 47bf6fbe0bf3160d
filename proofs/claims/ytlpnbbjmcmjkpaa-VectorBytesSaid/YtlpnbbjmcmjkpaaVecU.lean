/- The statements VectorQuorums, VectorMakes, walked. -/
import Derived.Test.YtlpnbbjmcmjkpaaVecO
import Derived.Test.YtlpnbbjmcmjkpaaRefU
import Derived.Test.YtlpnbbjmcmjkpaaRefM
set_option linter.unusedVariables false
set_option linter.unusedSimpArgs false
namespace Go.Proofs.Ytlpnbbjmcmjkpaa
open Go.RowKit Cb

theorem both_len {f : Int → Int → Int} {a b : List Int} (h : small a) : ((bothF f a b).getD []).length ≤ 17592186044416 := by
  unfold small at h
  unfold bothF
  split
  · simp only [Option.getD_some, List.length_zipWith]; omega
  · simp
theorem gain_len {a b : List Int} (h : small a) : ((gainF a b).getD []).length ≤ 17592186044416 := by
  unfold small at h
  unfold gainF
  split
  · simp only [Option.getD_some, List.length_zipWith]; omega
  · simp
theorem set_len {a : List Int} {k n : Int} (h : small a) : ((setF a k n).getD []).length ≤ 17592186044416 := by
  unfold small at h
  unfold setF
  split
  · simp only [Option.getD_some, List.length_set]; omega
  · simp
theorem quor_len2 {l : List (List Int)} {n : Int} (h : ∀ x ∈ l, small x) : ((quorumF l n).getD []).length ≤ 17592186044416 := by
  unfold quorumF
  split
  · rename_i hq
    have := h _ (head_mem hq.1)
    unfold small at this
    simp only [Option.getD_some, quorL, List.length_map, List.length_range]; omega
  · simp
set_option maxRecDepth 100000 in
set_option maxHeartbeats 1000000 in
theorem vquorums_any (v : Value) (l : List (List Int)) (need : Int) (w : World) (hs : Sl No w v l) (hb : ∀ x ∈ l, x.length * 8 ≤ 140737488351232) (hll : l.length * 24 ≤ 140737488351232) :
    Calls Try.prog 3 #[v, .int .i64 need] w fun e w' => e = .returned (.bool true) ∧ Chg No w w' := by
  have Hs := Lib.hid (fun W (hW : Chg No w W) => hs.keepNo hW)
  obtain ⟨A, c, rfl⟩ := hs.slice
  clear hs
  by_cases h60 : 60 < l.length
  · go_enter Try.func3, Try.ntmps3
    go_wp2_with (first | (with_reducible refine stop_append ?_) | (with_reducible refine stop_copy ?_) | (with_reducible refine stop_make ?_) | (with_reducible refine stop_lookup ?_) | (with_reducible refine stop_update ?_) | (with_reducible refine stop_slice ?_) | (with_reducible refine stop_range ?_) | (with_reducible refine stop_next ?_) | (with_reducible refine stop_convert ⟨_, rfl⟩ ?_) | (with_reducible refine stop_convertB ⟨_, _, _, rfl⟩ ?_) | (with_reducible refine stop_eqSlice ⟨_, _, rfl⟩ ?_))
    refine (valive_any _).mono ?_
    rintro e w1 ⟨rfl, hc1⟩
    go_wp2_with (first | (with_reducible refine stop_append ?_) | (with_reducible refine stop_copy ?_) | (with_reducible refine stop_make ?_) | (with_reducible refine stop_lookup ?_) | (with_reducible refine stop_update ?_) | (with_reducible refine stop_slice ?_) | (with_reducible refine stop_range ?_) | (with_reducible refine stop_next ?_) | (with_reducible refine stop_convert ⟨_, rfl⟩ ?_) | (with_reducible refine stop_convertB ⟨_, _, _, rfl⟩ ?_) | (with_reducible refine stop_eqSlice ⟨_, _, rfl⟩ ?_))
    go_ret
    exact ⟨rfl, hc1⟩
  · have Hq := Lib.hid (fun W (hW : Chg No w W) => (quorum_any No (.slice A l.length c) l need W (Hs.out W hW) (by omega) (fun x hx => by have := hb x hx; omega)).mono (fun e w' h => pair_out h))
    have Hr := Lib.hid (fun W (hW : Chg No w W) => (rquorum_any No (.slice A l.length c) l need W (Hs.out W hW) (by omega) (fun x hx => by have := hb x hx; omega)).mono (fun e w' h => pair_out h))
    have hz := quor_len2 (l := l) (n := need) (fun x hx => by have := hb x hx; unfold small; omega)
    simp only [PairOut] at Hq Hr
    generalize (quorumF l need).getD [] = z at *
    generalize (quorumF l need).isSome = ok at *
    go_enter Try.func3, Try.ntmps3
    go_wp2_with (first | (with_reducible refine stop_append ?_) | (with_reducible refine stop_copy ?_) | (with_reducible refine stop_make ?_) | (with_reducible refine stop_lookup ?_) | (with_reducible refine stop_update ?_) | (with_reducible refine stop_slice ?_) | (with_reducible refine stop_range ?_) | (with_reducible refine stop_next ?_) | (with_reducible refine stop_convert ⟨_, rfl⟩ ?_) | (with_reducible refine stop_convertB ⟨_, _, _, rfl⟩ ?_) | (with_reducible refine stop_eqSlice ⟨_, _, rfl⟩ ?_))
    refine (Hq.out _ (Chg.refl _ _)).mono ?_
    rintro e w1 ⟨B1, d1, rfl, hs1, hc1⟩
    have Hs1 := Lib.hid hs1; clear hs1
    go_wp2_with (first | (with_reducible refine stop_append ?_) | (with_reducible refine stop_copy ?_) | (with_reducible refine stop_make ?_) | (with_reducible refine stop_lookup ?_) | (with_reducible refine stop_update ?_) | (with_reducible refine stop_slice ?_) | (with_reducible refine stop_range ?_) | (with_reducible refine stop_next ?_) | (with_reducible refine stop_convert ⟨_, rfl⟩ ?_) | (with_reducible refine stop_convertB ⟨_, _, _, rfl⟩ ?_) | (with_reducible refine stop_eqSlice ⟨_, _, rfl⟩ ?_))
    refine (Hr.out _ hc1).mono ?_
    rintro e w2 ⟨B2, d2, rfl, hs2, hc2⟩
    have Hs2 := Lib.hid hs2; clear hs2
    have hcw2 := hc1.trans hc2
    go_wp2_with (first | (with_reducible refine stop_append ?_) | (with_reducible refine stop_copy ?_) | (with_reducible refine stop_make ?_) | (with_reducible refine stop_lookup ?_) | (with_reducible refine stop_update ?_) | (with_reducible refine stop_slice ?_) | (with_reducible refine stop_range ?_) | (with_reducible refine stop_next ?_) | (with_reducible refine stop_convert ⟨_, rfl⟩ ?_) | (with_reducible refine stop_convertB ⟨_, _, _, rfl⟩ ?_) | (with_reducible refine stop_eqSlice ⟨_, _, rfl⟩ ?_))
    refine (valive_any _).mono ?_
    rintro e w3 ⟨rfl, hc3⟩
    have hcw3 := hcw2.trans hc3
    go_wp2_with (first | (with_reducible refine stop_append ?_) | (with_reducible refine stop_copy ?_) | (with_reducible refine stop_make ?_) | (with_reducible refine stop_lookup ?_) | (with_reducible refine stop_update ?_) | (with_reducible refine stop_slice ?_) | (with_reducible refine stop_range ?_) | (with_reducible refine stop_next ?_) | (with_reducible refine stop_convert ⟨_, rfl⟩ ?_) | (with_reducible refine stop_convertB ⟨_, _, _, rfl⟩ ?_) | (with_reducible refine stop_eqSlice ⟨_, _, rfl⟩ ?_))
    refine (requal_any No No _ _ z z w3 (Hs1.out.keepNo (hc2.trans hc3)) (Hs2.out.keepNo hc3) hz hz).mono ?_
    rw [decide_eq_true (rfl : z = z)]
    rintro e w4 ⟨rfl, hc4⟩
    go_wp2_with (first | (with_reducible refine stop_append ?_) | (with_reducible refine stop_copy ?_) | (with_reducible refine stop_make ?_) | (with_reducible refine stop_lookup ?_) | (with_reducible refine stop_update ?_) | (with_reducible refine stop_slice ?_) | (with_reducible refine stop_range ?_) | (with_reducible refine stop_next ?_) | (with_reducible refine stop_convert ⟨_, rfl⟩ ?_) | (with_reducible refine stop_convertB ⟨_, _, _, rfl⟩ ?_) | (with_reducible refine stop_eqSlice ⟨_, _, rfl⟩ ?_))
    go_ret
    exact ⟨by simp, hcw3.trans hc4⟩
set_option maxRecDepth 100000 in
set_option maxHeartbeats 1000000 in
theorem vmakes_any (v0 v1 : Value) (a b : List Int) (w : World) (h0 : Sl No w v0 a) (h1 : Sl No w v1 b) (s0 : small a) (s1 : small b) :
    Calls Try.prog 10 #[v0, v1] w fun e w' => e = .returned (.bool true) ∧ Chg No w w' := by
  have H0 := Lib.hid (fun W (hW : Chg No w W) => h0.keepNo hW)
  have H1 := Lib.hid (fun W (hW : Chg No w W) => h1.keepNo hW)
  obtain ⟨A0, c0, rfl⟩ := h0.slice
  obtain ⟨A1, c1, rfl⟩ := h1.slice
  clear h0 h1
  have Hq1 := Lib.hid (fun W (hW : Chg No w W) => (vmax_any No No _ _ a b W (H0.out W hW) (H1.out W hW) s0 s1).mono (fun e w' h => pair_out h))
  have Hr1 := Lib.hid (fun W (hW : Chg No w W) => (rmax_any No No _ _ a b W (H0.out W hW) (H1.out W hW) s0 s1).mono (fun e w' h => pair_out h))
  have Hq2 := Lib.hid (fun W (hW : Chg No w W) => (vmin_any No No _ _ a b W (H0.out W hW) (H1.out W hW) s0 s1).mono (fun e w' h => pair_out h))
  have Hr2 := Lib.hid (fun W (hW : Chg No w W) => (rmin_any No No _ _ a b W (H0.out W hW) (H1.out W hW) s0 s1).mono (fun e w' h => pair_out h))
  have Hq3 := Lib.hid (fun W (hW : Chg No w W) => (vgain_any No No _ _ a b W (H0.out W hW) (H1.out W hW) s0 s1).mono (fun e w' h => pair_out h))
  have Hr3 := Lib.hid (fun W (hW : Chg No w W) => (rgain_any No No _ _ a b W (H0.out W hW) (H1.out W hW) s0 s1).mono (fun e w' h => pair_out h))
  have hz1 := both_len (f := max) (b := b) s0
  have hz2 := both_len (f := min) (b := b) s0
  have hz3 := gain_len (b := b) s0
  have Hc := Lib.hid (fun W (hW : Chg No w W) => vcovers_any No No _ _ a b W (H0.out W hW) (H1.out W hW) s0 s1)
  have Hd := Lib.hid (fun W (hW : Chg No w W) => rcovers_any No No _ _ a b W (H0.out W hW) (H1.out W hW) s0 s1)
  have He := Lib.hid (fun W (hW : Chg No w W) => vsame_any No No _ _ a b W (H0.out W hW) (H1.out W hW) s0 s1)
  have Hf := Lib.hid (fun W (hW : Chg No w W) => rsame_any No No _ _ a b W (H0.out W hW) (H1.out W hW) s0 s1)
  have Hg := Lib.hid (fun W (hW : Chg No w W) => vtotal_any No _ a W (H0.out W hW) s0)
  have Hh := Lib.hid (fun W (hW : Chg No w W) => rtotal_any No _ a W (H0.out W hW) s0)
  have Hi := Lib.hid (fun W (hW : Chg No w W) => vright_any No _ a W (H0.out W hW) s0)
  have Hj := Lib.hid (fun W (hW : Chg No w W) => rright_any No _ a W (H0.out W hW) s0)
  simp only [PairOut] at Hq1 Hr1 Hq2 Hr2 Hq3 Hr3
  generalize (bothF max a b).getD [] = z1 at *
  generalize (bothF max a b).isSome = ok1 at *
  generalize (bothF min a b).getD [] = z2 at *
  generalize (bothF min a b).isSome = ok2 at *
  generalize (gainF a b).getD [] = z3 at *
  generalize (gainF a b).isSome = ok3 at *
  generalize coversB a b = cv at *
  generalize sameB a b = sm at *
  generalize total a = tt at *
  generalize vright a = rt at *
  clear H0 H1 s0 s1
  go_enter Try.func10, Try.ntmps10
  have hcw := Chg.refl No w
  go_wp2_with (first | (with_reducible refine stop_append ?_) | (with_reducible refine stop_copy ?_) | (with_reducible refine stop_make ?_) | (with_reducible refine stop_lookup ?_) | (with_reducible refine stop_update ?_) | (with_reducible refine stop_slice ?_) | (with_reducible refine stop_range ?_) | (with_reducible refine stop_next ?_) | (with_reducible refine stop_convert ⟨_, rfl⟩ ?_) | (with_reducible refine stop_convertB ⟨_, _, _, rfl⟩ ?_) | (with_reducible refine stop_eqSlice ⟨_, _, rfl⟩ ?_))
  refine (Hq1.out _ hcw).mono ?_
  rintro e w1 ⟨B1, d1, rfl, hs1, hc1⟩
  have Hs1 := Lib.hid hs1; clear hs1
  replace hc1 := hcw.trans hc1
  go_wp2_with (first | (with_reducible refine stop_append ?_) | (with_reducible refine stop_copy ?_) | (with_reducible refine stop_make ?_) | (with_reducible refine stop_lookup ?_) | (with_reducible refine stop_update ?_) | (with_reducible refine stop_slice ?_) | (with_reducible refine stop_range ?_) | (with_reducible refine stop_next ?_) | (with_reducible refine stop_convert ⟨_, rfl⟩ ?_) | (with_reducible refine stop_convertB ⟨_, _, _, rfl⟩ ?_) | (with_reducible refine stop_eqSlice ⟨_, _, rfl⟩ ?_))
  refine (Hr1.out _ hc1).mono ?_
  rintro e w2 ⟨B2, d2, rfl, hs2, hc2⟩
  have Hs2 := Lib.hid hs2; clear hs2
  have hc12 := hc1.trans hc2
  go_wp2_with (first | (with_reducible refine stop_append ?_) | (with_reducible refine stop_copy ?_) | (with_reducible refine stop_make ?_) | (with_reducible refine stop_lookup ?_) | (with_reducible refine stop_update ?_) | (with_reducible refine stop_slice ?_) | (with_reducible refine stop_range ?_) | (with_reducible refine stop_next ?_) | (with_reducible refine stop_convert ⟨_, rfl⟩ ?_) | (with_reducible refine stop_convertB ⟨_, _, _, rfl⟩ ?_) | (with_reducible refine stop_eqSlice ⟨_, _, rfl⟩ ?_))
  refine (requal_any No No _ _ z1 z1 w2 (Hs1.out.keepNo hc2) Hs2.out hz1 hz1).mono ?_
  rw [decide_eq_true (rfl : z1 = z1)]
  rintro e w3 ⟨rfl, hc3⟩
  replace hcw := hc12.trans hc3
  clear Hs1 Hs2 hc1 hc2 hc12 hc3
  go_wp2_with (first | (with_reducible refine stop_append ?_) | (with_reducible refine stop_copy ?_) | (with_reducible refine stop_make ?_) | (with_reducible refine stop_lookup ?_) | (with_reducible refine stop_update ?_) | (with_reducible refine stop_slice ?_) | (with_reducible refine stop_range ?_) | (with_reducible refine stop_next ?_) | (with_reducible refine stop_convert ⟨_, rfl⟩ ?_) | (with_reducible refine stop_convertB ⟨_, _, _, rfl⟩ ?_) | (with_reducible refine stop_eqSlice ⟨_, _, rfl⟩ ?_))
  refine (Hq2.out _ hcw).mono ?_
  rintro e w1 ⟨B1, d1, rfl, hs1, hc1⟩
  have Hs1 := Lib.hid hs1; clear hs1
  replace hc1 := hcw.trans hc1
  go_wp2_with (first | (with_reducible refine stop_append ?_) | (with_reducible refine stop_copy ?_) | (with_reducible refine stop_make ?_) | (with_reducible refine stop_lookup ?_) | (with_reducible refine stop_update ?_) | (with_reducible refine stop_slice ?_) | (with_reducible refine stop_range ?_) | (with_reducible refine stop_next ?_) | (with_reducible refine stop_convert ⟨_, rfl⟩ ?_) | (with_reducible refine stop_convertB ⟨_, _, _, rfl⟩ ?_) | (with_reducible refine stop_eqSlice ⟨_, _, rfl⟩ ?_))
  refine (Hr2.out _ hc1).mono ?_
  rintro e w2 ⟨B2, d2, rfl, hs2, hc2⟩
  have Hs2 := Lib.hid hs2; clear hs2
  have hc12 := hc1.trans hc2
  go_wp2_with (first | (with_reducible refine stop_append ?_) | (with_reducible refine stop_copy ?_) | (with_reducible refine stop_make ?_) | (with_reducible refine stop_lookup ?_) | (with_reducible refine stop_update ?_) | (with_reducible refine stop_slice ?_) | (with_reducible refine stop_range ?_) | (with_reducible refine stop_next ?_) | (with_reducible refine stop_convert ⟨_, rfl⟩ ?_) | (with_reducible refine stop_convertB ⟨_, _, _, rfl⟩ ?_) | (with_reducible refine stop_eqSlice ⟨_, _, rfl⟩ ?_))
  refine (requal_any No No _ _ z2 z2 w2 (Hs1.out.keepNo hc2) Hs2.out hz2 hz2).mono ?_
  rw [decide_eq_true (rfl : z2 = z2)]
  rintro e w3 ⟨rfl, hc3⟩
  replace hcw := hc12.trans hc3
  clear Hs1 Hs2 hc1 hc2 hc12 hc3
  go_wp2_with (first | (with_reducible refine stop_append ?_) | (with_reducible refine stop_copy ?_) | (with_reducible refine stop_make ?_) | (with_reducible refine stop_lookup ?_) | (with_reducible refine stop_update ?_) | (with_reducible refine stop_slice ?_) | (with_reducible refine stop_range ?_) | (with_reducible refine stop_next ?_) | (with_reducible refine stop_convert ⟨_, rfl⟩ ?_) | (with_reducible refine stop_convertB ⟨_, _, _, rfl⟩ ?_) | (with_reducible refine stop_eqSlice ⟨_, _, rfl⟩ ?_))
  refine (Hq3.out _ hcw).mono ?_
  rintro e w1 ⟨B1, d1, rfl, hs1, hc1⟩
  have Hs1 := Lib.hid hs1; clear hs1
  replace hc1 := hcw.trans hc1
  go_wp2_with (first | (with_reducible refine stop_append ?_) | (with_reducible refine stop_copy ?_) | (with_reducible refine stop_make ?_) | (with_reducible refine stop_lookup ?_) | (with_reducible refine stop_update ?_) | (with_reducible refine stop_slice ?_) | (with_reducible refine stop_range ?_) | (with_reducible refine stop_next ?_) | (with_reducible refine stop_convert ⟨_, rfl⟩ ?_) | (with_reducible refine stop_convertB ⟨_, _, _, rfl⟩ ?_) | (with_reducible refine stop_eqSlice ⟨_, _, rfl⟩ ?_))
  refine (Hr3.out _ hc1).mono ?_
  rintro e w2 ⟨B2, d2, rfl, hs2, hc2⟩
  have Hs2 := Lib.hid hs2; clear hs2
  have hc12 := hc1.trans hc2
  go_wp2_with (first | (with_reducible refine stop_append ?_) | (with_reducible refine stop_copy ?_) | (with_reducible refine stop_make ?_) | (with_reducible refine stop_lookup ?_) | (with_reducible refine stop_update ?_) | (with_reducible refine stop_slice ?_) | (with_reducible refine stop_range ?_) | (with_reducible refine stop_next ?_) | (with_reducible refine stop_convert ⟨_, rfl⟩ ?_) | (with_reducible refine stop_convertB ⟨_, _, _, rfl⟩ ?_) | (with_reducible refine stop_eqSlice ⟨_, _, rfl⟩ ?_))
  refine (requal_any No No _ _ z3 z3 w2 (Hs1.out.keepNo hc2) Hs2.out hz3 hz3).mono ?_
  rw [decide_eq_true (rfl : z3 = z3)]
  rintro e w3 ⟨rfl, hc3⟩
  replace hcw := hc12.trans hc3
  clear Hs1 Hs2 hc1 hc2 hc12 hc3
  go_wp2_with (first | (with_reducible refine stop_append ?_) | (with_reducible refine stop_copy ?_) | (with_reducible refine stop_make ?_) | (with_reducible refine stop_lookup ?_) | (with_reducible refine stop_update ?_) | (with_reducible refine stop_slice ?_) | (with_reducible refine stop_range ?_) | (with_reducible refine stop_next ?_) | (with_reducible refine stop_convert ⟨_, rfl⟩ ?_) | (with_reducible refine stop_convertB ⟨_, _, _, rfl⟩ ?_) | (with_reducible refine stop_eqSlice ⟨_, _, rfl⟩ ?_))
  refine (valive_any _).mono ?_
  rintro e w4 ⟨rfl, hc4⟩
  replace hcw := hcw.trans hc4
  clear hc4
  go_wp2_with (first | (with_reducible refine stop_append ?_) | (with_reducible refine stop_copy ?_) | (with_reducible refine stop_make ?_) | (with_reducible refine stop_lookup ?_) | (with_reducible refine stop_update ?_) | (with_reducible refine stop_slice ?_) | (with_reducible refine stop_range ?_) | (with_reducible refine stop_next ?_) | (with_reducible refine stop_convert ⟨_, rfl⟩ ?_) | (with_reducible refine stop_convertB ⟨_, _, _, rfl⟩ ?_) | (with_reducible refine stop_eqSlice ⟨_, _, rfl⟩ ?_))
  refine (Hc.out _ hcw).mono ?_
  rintro e w5 ⟨rfl, hc5⟩
  replace hcw := hcw.trans hc5
  clear hc5
  go_wp2_with (first | (with_reducible refine stop_append ?_) | (with_reducible refine stop_copy ?_) | (with_reducible refine stop_make ?_) | (with_reducible refine stop_lookup ?_) | (with_reducible refine stop_update ?_) | (with_reducible refine stop_slice ?_) | (with_reducible refine stop_range ?_) | (with_reducible refine stop_next ?_) | (with_reducible refine stop_convert ⟨_, rfl⟩ ?_) | (with_reducible refine stop_convertB ⟨_, _, _, rfl⟩ ?_) | (with_reducible refine stop_eqSlice ⟨_, _, rfl⟩ ?_))
  refine (Hd.out _ hcw).mono ?_
  rintro e w5 ⟨rfl, hc5⟩
  replace hcw := hcw.trans hc5
  clear hc5
  go_wp2_with (first | (with_reducible refine stop_append ?_) | (with_reducible refine stop_copy ?_) | (with_reducible refine stop_make ?_) | (with_reducible refine stop_lookup ?_) | (with_reducible refine stop_update ?_) | (with_reducible refine stop_slice ?_) | (with_reducible refine stop_range ?_) | (with_reducible refine stop_next ?_) | (with_reducible refine stop_convert ⟨_, rfl⟩ ?_) | (with_reducible refine stop_convertB ⟨_, _, _, rfl⟩ ?_) | (with_reducible refine stop_eqSlice ⟨_, _, rfl⟩ ?_))
  refine (He.out _ hcw).mono ?_
  rintro e w5 ⟨rfl, hc5⟩
  replace hcw := hcw.trans hc5
  clear hc5
  go_wp2_with (first | (with_reducible refine stop_append ?_) | (with_reducible refine stop_copy ?_) | (with_reducible refine stop_make ?_) | (with_reducible refine stop_lookup ?_) | (with_reducible refine stop_update ?_) | (with_reducible refine stop_slice ?_) | (with_reducible refine stop_range ?_) | (with_reducible refine stop_next ?_) | (with_reducible refine stop_convert ⟨_, rfl⟩ ?_) | (with_reducible refine stop_convertB ⟨_, _, _, rfl⟩ ?_) | (with_reducible refine stop_eqSlice ⟨_, _, rfl⟩ ?_))
  refine (Hf.out _ hcw).mono ?_
  rintro e w5 ⟨rfl, hc5⟩
  replace hcw := hcw.trans hc5
  clear hc5
  go_wp2_with (first | (with_reducible refine stop_append ?_) | (with_reducible refine stop_copy ?_) | (with_reducible refine stop_make ?_) | (with_reducible refine stop_lookup ?_) | (with_reducible refine stop_update ?_) | (with_reducible refine stop_slice ?_) | (with_reducible refine stop_range ?_) | (with_reducible refine stop_next ?_) | (with_reducible refine stop_convert ⟨_, rfl⟩ ?_) | (with_reducible refine stop_convertB ⟨_, _, _, rfl⟩ ?_) | (with_reducible refine stop_eqSlice ⟨_, _, rfl⟩ ?_))
  refine (Hg.out _ hcw).mono ?_
  rintro e w5 ⟨rfl, hc5⟩
  replace hcw := hcw.trans hc5
  clear hc5
  go_wp2_with (first | (with_reducible refine stop_append ?_) | (with_reducible refine stop_copy ?_) | (with_reducible refine stop_make ?_) | (with_reducible refine stop_lookup ?_) | (with_reducible refine stop_update ?_) | (with_reducible refine stop_slice ?_) | (with_reducible refine stop_range ?_) | (with_reducible refine stop_next ?_) | (with_reducible refine stop_convert ⟨_, rfl⟩ ?_) | (with_reducible refine stop_convertB ⟨_, _, _, rfl⟩ ?_) | (with_reducible refine stop_eqSlice ⟨_, _, rfl⟩ ?_))
  refine (Hh.out _ hcw).mono ?_
  rintro e w5 ⟨rfl, hc5⟩
  replace hcw := hcw.trans hc5
  clear hc5
  go_wp2_with (first | (with_reducible refine stop_append ?_) | (with_reducible refine stop_copy ?_) | (with_reducible refine stop_make ?_) | (with_reducible refine stop_lookup ?_) | (with_reducible refine stop_update ?_) | (with_reducible refine stop_slice ?_) | (with_reducible refine stop_range ?_) | (with_reducible refine stop_next ?_) | (with_reducible refine stop_convert ⟨_, rfl⟩ ?_) | (with_reducible refine stop_convertB ⟨_, _, _, rfl⟩ ?_) | (with_reducible refine stop_eqSlice ⟨_, _, rfl⟩ ?_))
  refine (Hi.out _ hcw).mono ?_
  rintro e w5 ⟨rfl, hc5⟩
  replace hcw := hcw.trans hc5
  clear hc5
  go_wp2_with (first | (with_reducible refine stop_append ?_) | (with_reducible refine stop_copy ?_) | (with_reducible refine stop_make ?_) | (with_reducible refine stop_lookup ?_) | (with_reducible refine stop_update ?_) | (with_reducible refine stop_slice ?_) | (with_reducible refine stop_range ?_) | (with_reducible refine stop_next ?_) | (with_reducible refine stop_convert ⟨_, rfl⟩ ?_) | (with_reducible refine stop_convertB ⟨_, _, _, rfl⟩ ?_) | (with_reducible refine stop_eqSlice ⟨_, _, rfl⟩ ?_))
  refine (Hj.out _ hcw).mono ?_
  rintro e w5 ⟨rfl, hc5⟩
  replace hcw := hcw.trans hc5
  clear hc5
  go_wp2_with (first | (with_reducible refine stop_append ?_) | (with_reducible refine stop_copy ?_) | (with_reducible refine stop_make ?_) | (with_reducible refine stop_lookup ?_) | (with_reducible refine stop_update ?_) | (with_reducible refine stop_slice ?_) | (with_reducible refine stop_range ?_) | (with_reducible refine stop_next ?_) | (with_reducible refine stop_convert ⟨_, rfl⟩ ?_) | (with_reducible refine stop_convertB ⟨_, _, _, rfl⟩ ?_) | (with_reducible refine stop_eqSlice ⟨_, _, rfl⟩ ?_))
  go_ret
  exact ⟨by simp, hcw⟩
end Go.Proofs.Ytlpnbbjmcmjkpaa
