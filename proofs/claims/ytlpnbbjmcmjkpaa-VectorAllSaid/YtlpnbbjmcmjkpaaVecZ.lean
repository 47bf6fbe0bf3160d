/- The statement VectorAll, walked. -/
import Derived.Test.YtlpnbbjmcmjkpaaVecO
set_option linter.unusedVariables false
set_option linter.unusedSimpArgs false
namespace Go.Proofs.Ytlpnbbjmcmjkpaa
open Go.RowKit Cb

set_option maxRecDepth 100000 in
set_option maxHeartbeats 1000000 in
theorem vall_any (v : Value) (l : List (List Int)) (need : Int) (w : World) (hs : Sl No w v l) (hb : ∀ x ∈ l, x.length * 8 ≤ 140737488351232) (hll : l.length * 24 ≤ 140737488351232) :
    Calls Try.prog 4 #[v, .int .i64 need] w fun e w' => e = .returned (.bool true) ∧ Chg No w w' := by
  have Hs := Lib.hid (fun W (hW : Chg No w W) => hs.keepNo hW)
  obtain ⟨A, c, rfl⟩ := hs.slice
  clear hs
  by_cases h60 : 60 < l.length
  · go_enter Try.func4, Try.ntmps4
    go_wp2_with (first | (with_reducible refine stop_append ?_) | (with_reducible refine stop_copy ?_) | (with_reducible refine stop_make ?_) | (with_reducible refine stop_lookup ?_) | (with_reducible refine stop_update ?_) | (with_reducible refine stop_slice ?_) | (with_reducible refine stop_range ?_) | (with_reducible refine stop_next ?_) | (with_reducible refine stop_convert ⟨_, rfl⟩ ?_) | (with_reducible refine stop_convertB ⟨_, _, _, rfl⟩ ?_) | (with_reducible refine stop_eqSlice ⟨_, _, rfl⟩ ?_))
    refine (valive_any _).mono ?_
    rintro e w1 ⟨rfl, hc1⟩
    go_wp2_with (first | (with_reducible refine stop_append ?_) | (with_reducible refine stop_copy ?_) | (with_reducible refine stop_make ?_) | (with_reducible refine stop_lookup ?_) | (with_reducible refine stop_update ?_) | (with_reducible refine stop_slice ?_) | (with_reducible refine stop_range ?_) | (with_reducible refine stop_next ?_) | (with_reducible refine stop_convert ⟨_, rfl⟩ ?_) | (with_reducible refine stop_convertB ⟨_, _, _, rfl⟩ ?_) | (with_reducible refine stop_eqSlice ⟨_, _, rfl⟩ ?_))
    go_ret
    exact ⟨rfl, hc1⟩
  · by_cases h0 : l.length < 1
    · go_enter Try.func4, Try.ntmps4
      go_wp2_with (first | (with_reducible refine stop_append ?_) | (with_reducible refine stop_copy ?_) | (with_reducible refine stop_make ?_) | (with_reducible refine stop_lookup ?_) | (with_reducible refine stop_update ?_) | (with_reducible refine stop_slice ?_) | (with_reducible refine stop_range ?_) | (with_reducible refine stop_next ?_) | (with_reducible refine stop_convert ⟨_, rfl⟩ ?_) | (with_reducible refine stop_convertB ⟨_, _, _, rfl⟩ ?_) | (with_reducible refine stop_eqSlice ⟨_, _, rfl⟩ ?_))
      refine (valive_any _).mono ?_
      rintro e w1 ⟨rfl, hc1⟩
      go_wp2_with (first | (with_reducible refine stop_append ?_) | (with_reducible refine stop_copy ?_) | (with_reducible refine stop_make ?_) | (with_reducible refine stop_lookup ?_) | (with_reducible refine stop_update ?_) | (with_reducible refine stop_slice ?_) | (with_reducible refine stop_range ?_) | (with_reducible refine stop_next ?_) | (with_reducible refine stop_convert ⟨_, rfl⟩ ?_) | (with_reducible refine stop_convertB ⟨_, _, _, rfl⟩ ?_) | (with_reducible refine stop_eqSlice ⟨_, _, rfl⟩ ?_))
      go_ret
      exact ⟨rfl, hc1⟩
    · have h0 : 0 < l.length := by omega
      have Hq := Lib.hid (fun n W (hW : Chg No w W) => (quorum_any No (.slice A l.length c) l n W (Hs.out W hW) (by omega) (fun x hx => by have := hb x hx; omega)).mono (fun e w' h => pair_out h))
      cases hbad : quorBad l with
      | true =>
        have Hq1 := Lib.hid (fun n W (hW : Chg No w W) => by have := Hq.out n W hW; rw [quor_no (by rw [hbad]; simp)] at this; exact this)
        clear hbad Hq
        go_enter Try.func4, Try.ntmps4
        go_wp2_with (first | (with_reducible refine stop_append ?_) | (with_reducible refine stop_copy ?_) | (with_reducible refine stop_make ?_) | (with_reducible refine stop_lookup ?_) | (with_reducible refine stop_update ?_) | (with_reducible refine stop_slice ?_) | (with_reducible refine stop_range ?_) | (with_reducible refine stop_next ?_) | (with_reducible refine stop_convert ⟨_, rfl⟩ ?_) | (with_reducible refine stop_convertB ⟨_, _, _, rfl⟩ ?_) | (with_reducible refine stop_eqSlice ⟨_, _, rfl⟩ ?_))
        refine (Hq1.out _ _ (Chg.refl _ _)).mono ?_
        rintro e w1 ⟨B1, d1, rfl, _, hc1⟩
        simp only [Option.isSome_none]
        go_wp2_with (first | (with_reducible refine stop_append ?_) | (with_reducible refine stop_copy ?_) | (with_reducible refine stop_make ?_) | (with_reducible refine stop_lookup ?_) | (with_reducible refine stop_update ?_) | (with_reducible refine stop_slice ?_) | (with_reducible refine stop_range ?_) | (with_reducible refine stop_next ?_) | (with_reducible refine stop_convert ⟨_, rfl⟩ ?_) | (with_reducible refine stop_convertB ⟨_, _, _, rfl⟩ ?_) | (with_reducible refine stop_eqSlice ⟨_, _, rfl⟩ ?_))
        refine (Hq1.out _ _ hc1).mono ?_
        rintro e w2 ⟨B2, d2, rfl, _, hc2⟩
        simp only [Option.isSome_none]
        go_wp2_with (first | (with_reducible refine stop_append ?_) | (with_reducible refine stop_copy ?_) | (with_reducible refine stop_make ?_) | (with_reducible refine stop_lookup ?_) | (with_reducible refine stop_update ?_) | (with_reducible refine stop_slice ?_) | (with_reducible refine stop_range ?_) | (with_reducible refine stop_next ?_) | (with_reducible refine stop_convert ⟨_, rfl⟩ ?_) | (with_reducible refine stop_convertB ⟨_, _, _, rfl⟩ ?_) | (with_reducible refine stop_eqSlice ⟨_, _, rfl⟩ ?_))
        refine (valive_any _).mono ?_
        rintro e w3 ⟨rfl, hc3⟩
        go_wp2_with (first | (with_reducible refine stop_append ?_) | (with_reducible refine stop_copy ?_) | (with_reducible refine stop_make ?_) | (with_reducible refine stop_lookup ?_) | (with_reducible refine stop_update ?_) | (with_reducible refine stop_slice ?_) | (with_reducible refine stop_range ?_) | (with_reducible refine stop_next ?_) | (with_reducible refine stop_convert ⟨_, rfl⟩ ?_) | (with_reducible refine stop_convertB ⟨_, _, _, rfl⟩ ?_) | (with_reducible refine stop_eqSlice ⟨_, _, rfl⟩ ?_))
        go_ret
        exact ⟨rfl, (hc1.trans hc2).trans hc3⟩
      | false =>
        have Hq1 := Lib.hid (Hq.out 1 w (Chg.refl _ _))
        have Hq2 := Lib.hid (Hq.out (l.length : Int))
        rw [quor_yes h0 hbad (by omega)] at Hq1 Hq2
        rw [show (1 : Int).toNat = 1 from rfl] at Hq1
        rw [Int.toNat_natCast] at Hq2
        simp only [Option.getD_some, Option.isSome_some, PairOut] at Hq1 Hq2
        have hone := fun i (hi : i < l.length) => quor_one h0 hbad (List.getElem_mem hi)
        have hall := fun i (hi : i < l.length) => quor_all h0 hbad (List.getElem_mem hi)
        have r1 := small_of (quor_right h0 hbad 1 (by omega))
        have r2 := small_of (quor_right h0 hbad l.length (by omega))
        have hsm : ∀ i (hi : i < l.length), small l[i] := fun i hi => by have := hb _ (List.getElem_mem hi); unfold small; omega
        have Hone := Lib.hid hone; have Hall := Lib.hid hall; have Hsm := Lib.hid hsm
        have hend : quorumF l need = none ∨ ((∃ a, quorumF l need = some a) ∧ quorumF l (wrap64 (need + 1)) = none) ∨ ∃ a b, quorumF l need = some a ∧ quorumF l (wrap64 (need + 1)) = some b ∧ coversB a b = true ∧ small a ∧ small b := by
          by_cases hn : 1 ≤ need ∧ need ≤ l.length
          · right
            rw [IntWalk.wrap64_in _ (by omega)]
            by_cases hn2 : need + 1 ≤ l.length
            · right
              have h3 : (need + 1).toNat = need.toNat + 1 := by omega
              exact ⟨_, _, quor_yes h0 hbad hn, quor_yes h0 hbad ⟨by omega, hn2⟩, by rw [h3]; exact quor_less h0 hbad _ (by omega) (by omega), small_of (quor_right h0 hbad _ (by omega)), small_of (quor_right h0 hbad _ (by omega))⟩
            · left
              exact ⟨⟨_, quor_yes h0 hbad hn⟩, quor_no (by omega)⟩
          · exact .inl (quor_no (by omega))
        have Hend := Lib.hid hend
        clear hone hall hsm hend hbad
        generalize quorL l 1 = one at *
        generalize quorL l l.length = all at *
        go_enter Try.func4, Try.ntmps4
        go_wp2_with (first | (with_reducible refine stop_append ?_) | (with_reducible refine stop_copy ?_) | (with_reducible refine stop_make ?_) | (with_reducible refine stop_lookup ?_) | (with_reducible refine stop_update ?_) | (with_reducible refine stop_slice ?_) | (with_reducible refine stop_range ?_) | (with_reducible refine stop_next ?_) | (with_reducible refine stop_convert ⟨_, rfl⟩ ?_) | (with_reducible refine stop_convertB ⟨_, _, _, rfl⟩ ?_) | (with_reducible refine stop_eqSlice ⟨_, _, rfl⟩ ?_))
        refine Hq1.out.mono ?_
        rintro e w1 ⟨B1, d1, rfl, hs1, hc1⟩
        go_wp2_with (first | (with_reducible refine stop_append ?_) | (with_reducible refine stop_copy ?_) | (with_reducible refine stop_make ?_) | (with_reducible refine stop_lookup ?_) | (with_reducible refine stop_update ?_) | (with_reducible refine stop_slice ?_) | (with_reducible refine stop_range ?_) | (with_reducible refine stop_next ?_) | (with_reducible refine stop_convert ⟨_, rfl⟩ ?_) | (with_reducible refine stop_convertB ⟨_, _, _, rfl⟩ ?_) | (with_reducible refine stop_eqSlice ⟨_, _, rfl⟩ ?_))
        refine (Hq2.out _ hc1).mono ?_
        rintro e w2 ⟨B2, d2, rfl, hs2, hc2⟩
        have H1 := Lib.hid (fun W (hW : Chg No w2 W) => hs1.keepNo (hc2.trans hW))
        have H2 := Lib.hid (fun W (hW : Chg No w2 W) => hs2.keepNo hW)
        have hcw := hc1.trans hc2
        clear hs1 hs2
        go_wp2_with (first | (with_reducible refine stop_append ?_) | (with_reducible refine stop_copy ?_) | (with_reducible refine stop_make ?_) | (with_reducible refine stop_lookup ?_) | (with_reducible refine stop_update ?_) | (with_reducible refine stop_slice ?_) | (with_reducible refine stop_range ?_) | (with_reducible refine stop_next ?_) | (with_reducible refine stop_convert ⟨_, rfl⟩ ?_) | (with_reducible refine stop_convertB ⟨_, _, _, rfl⟩ ?_) | (with_reducible refine stop_eqSlice ⟨_, _, rfl⟩ ?_))
        go_loopw [10, 50] (fun _ v50 wr => ∃ k : Nat, k ≤ l.length ∧ v50 = .int .i64 k ∧ Chg No w2 wr) (fun _ v50 _ => l.length - (intOf v50).toNat)
        case atStart => exact ⟨0, by omega, rfl, Chg.refl _ _⟩
        case round =>
          obtain ⟨k, hk, rfl, hcr⟩ := hrel
          by_cases hlt : k < l.length
          · obtain ⟨b, o, u, rfl, _, hbl, ha0, hu⟩ := rows_get (Hs.out wr (hcw.trans hcr)) k hlt
            have hk1 := Hone.out k hlt
            have hk2 := Hall.out k hlt
            have hk3 := Hsm.out k hlt
            generalize l[k] = x at *
            have Hu := Lib.hid (fun W (hW : Chg No wr W) => hu.keepNo hW)
            have Hk1 := Lib.hid hk1; have Hk2 := Lib.hid hk2
            obtain ⟨Au, cu, rfl⟩ := hu.slice
            clear hu hk1 hk2
            go_wp2_with (first | (with_reducible refine stop_append ?_) | (with_reducible refine stop_copy ?_) | (with_reducible refine stop_make ?_) | (with_reducible refine stop_lookup ?_) | (with_reducible refine stop_update ?_) | (with_reducible refine stop_slice ?_) | (with_reducible refine stop_range ?_) | (with_reducible refine stop_next ?_) | (with_reducible refine stop_convert ⟨_, rfl⟩ ?_) | (with_reducible refine stop_convertB ⟨_, _, _, rfl⟩ ?_) | (with_reducible refine stop_eqSlice ⟨_, _, rfl⟩ ?_))
            refine (vcovers_any No No _ _ one x wr (H1.out _ hcr) (Hu.out _ (Chg.refl _ _)) r1 hk3).mono ?_
            rw [Hk1.out]
            rintro e w3 ⟨rfl, hc3⟩
            go_wp2_with (first | (with_reducible refine stop_append ?_) | (with_reducible refine stop_copy ?_) | (with_reducible refine stop_make ?_) | (with_reducible refine stop_lookup ?_) | (with_reducible refine stop_update ?_) | (with_reducible refine stop_slice ?_) | (with_reducible refine stop_range ?_) | (with_reducible refine stop_next ?_) | (with_reducible refine stop_convert ⟨_, rfl⟩ ?_) | (with_reducible refine stop_convertB ⟨_, _, _, rfl⟩ ?_) | (with_reducible refine stop_eqSlice ⟨_, _, rfl⟩ ?_))
            refine (vcovers_any No No _ _ x all w3 (Hu.out _ hc3) (H2.out _ (hcr.trans hc3)) hk3 r2).mono ?_
            rw [Hk2.out]
            rintro e w4 ⟨rfl, hc4⟩
            have hc4 := (hcr.trans hc3).trans hc4
            go_wp2_with (first | (with_reducible refine stop_append ?_) | (with_reducible refine stop_copy ?_) | (with_reducible refine stop_make ?_) | (with_reducible refine stop_lookup ?_) | (with_reducible refine stop_update ?_) | (with_reducible refine stop_slice ?_) | (with_reducible refine stop_range ?_) | (with_reducible refine stop_next ?_) | (with_reducible refine stop_convert ⟨_, rfl⟩ ?_) | (with_reducible refine stop_convertB ⟨_, _, _, rfl⟩ ?_) | (with_reducible refine stop_eqSlice ⟨_, _, rfl⟩ ?_))
            go_roundw
            case rel => exact ⟨k + 1, by omega, by go_num, hc4⟩
            case measure => simp [intOf]; omega
          · obtain rfl : k = l.length := by omega
            rcases Hend.out with e1 | ⟨⟨a, e1⟩, e2⟩ | ⟨a, b, e1, e2, e3, t1, t2⟩
            · have Hqa := Lib.hid (Hq.out need)
              rw [e1] at Hqa
              clear e1
              have Hqb := Lib.hid (Hq.out (wrap64 (need + 1)))
              generalize quorumF l (wrap64 (need + 1)) = rb at Hqb
              go_wp2_with (first | (with_reducible refine stop_append ?_) | (with_reducible refine stop_copy ?_) | (with_reducible refine stop_make ?_) | (with_reducible refine stop_lookup ?_) | (with_reducible refine stop_update ?_) | (with_reducible refine stop_slice ?_) | (with_reducible refine stop_range ?_) | (with_reducible refine stop_next ?_) | (with_reducible refine stop_convert ⟨_, rfl⟩ ?_) | (with_reducible refine stop_convertB ⟨_, _, _, rfl⟩ ?_) | (with_reducible refine stop_eqSlice ⟨_, _, rfl⟩ ?_))
              refine (Hqa.out _ (hcw.trans hcr)).mono ?_
              rintro e w5 ⟨B5, d5, rfl, _, hc5⟩
              have hc5 := hcr.trans hc5
              simp only [Option.isSome_none]
              go_wp2_with (first | (with_reducible refine stop_append ?_) | (with_reducible refine stop_copy ?_) | (with_reducible refine stop_make ?_) | (with_reducible refine stop_lookup ?_) | (with_reducible refine stop_update ?_) | (with_reducible refine stop_slice ?_) | (with_reducible refine stop_range ?_) | (with_reducible refine stop_next ?_) | (with_reducible refine stop_convert ⟨_, rfl⟩ ?_) | (with_reducible refine stop_convertB ⟨_, _, _, rfl⟩ ?_) | (with_reducible refine stop_eqSlice ⟨_, _, rfl⟩ ?_))
              refine (Hqb.out _ (hcw.trans hc5)).mono ?_
              rintro e w6 ⟨B6, d6, rfl, _, hc6⟩
              have hc6 := hc5.trans hc6
              go_wp2_with (first | (with_reducible refine stop_append ?_) | (with_reducible refine stop_copy ?_) | (with_reducible refine stop_make ?_) | (with_reducible refine stop_lookup ?_) | (with_reducible refine stop_update ?_) | (with_reducible refine stop_slice ?_) | (with_reducible refine stop_range ?_) | (with_reducible refine stop_next ?_) | (with_reducible refine stop_convert ⟨_, rfl⟩ ?_) | (with_reducible refine stop_convertB ⟨_, _, _, rfl⟩ ?_) | (with_reducible refine stop_eqSlice ⟨_, _, rfl⟩ ?_))
              refine (valive_any _).mono ?_
              rintro e w7 ⟨rfl, hc7⟩
              go_wp2_with (first | (with_reducible refine stop_append ?_) | (with_reducible refine stop_copy ?_) | (with_reducible refine stop_make ?_) | (with_reducible refine stop_lookup ?_) | (with_reducible refine stop_update ?_) | (with_reducible refine stop_slice ?_) | (with_reducible refine stop_range ?_) | (with_reducible refine stop_next ?_) | (with_reducible refine stop_convert ⟨_, rfl⟩ ?_) | (with_reducible refine stop_convertB ⟨_, _, _, rfl⟩ ?_) | (with_reducible refine stop_eqSlice ⟨_, _, rfl⟩ ?_))
              go_ret
              exact ⟨rfl, (hcw.trans hc6).trans hc7⟩
            · have Hqa := Lib.hid (Hq.out need)
              rw [e1] at Hqa
              have Hqb := Lib.hid (Hq.out (wrap64 (need + 1)))
              rw [e2] at Hqb
              clear e1 e2
              go_wp2_with (first | (with_reducible refine stop_append ?_) | (with_reducible refine stop_copy ?_) | (with_reducible refine stop_make ?_) | (with_reducible refine stop_lookup ?_) | (with_reducible refine stop_update ?_) | (with_reducible refine stop_slice ?_) | (with_reducible refine stop_range ?_) | (with_reducible refine stop_next ?_) | (with_reducible refine stop_convert ⟨_, rfl⟩ ?_) | (with_reducible refine stop_convertB ⟨_, _, _, rfl⟩ ?_) | (with_reducible refine stop_eqSlice ⟨_, _, rfl⟩ ?_))
              refine (Hqa.out _ (hcw.trans hcr)).mono ?_
              rintro e w5 ⟨B5, d5, rfl, _, hc5⟩
              have hc5 := hcr.trans hc5
              simp only [Option.isSome_some, Option.getD_some]
              go_wp2_with (first | (with_reducible refine stop_append ?_) | (with_reducible refine stop_copy ?_) | (with_reducible refine stop_make ?_) | (with_reducible refine stop_lookup ?_) | (with_reducible refine stop_update ?_) | (with_reducible refine stop_slice ?_) | (with_reducible refine stop_range ?_) | (with_reducible refine stop_next ?_) | (with_reducible refine stop_convert ⟨_, rfl⟩ ?_) | (with_reducible refine stop_convertB ⟨_, _, _, rfl⟩ ?_) | (with_reducible refine stop_eqSlice ⟨_, _, rfl⟩ ?_))
              refine (Hqb.out _ (hcw.trans hc5)).mono ?_
              rintro e w6 ⟨B6, d6, rfl, _, hc6⟩
              have hc6 := hc5.trans hc6
              simp only [Option.isSome_none]
              go_wp2_with (first | (with_reducible refine stop_append ?_) | (with_reducible refine stop_copy ?_) | (with_reducible refine stop_make ?_) | (with_reducible refine stop_lookup ?_) | (with_reducible refine stop_update ?_) | (with_reducible refine stop_slice ?_) | (with_reducible refine stop_range ?_) | (with_reducible refine stop_next ?_) | (with_reducible refine stop_convert ⟨_, rfl⟩ ?_) | (with_reducible refine stop_convertB ⟨_, _, _, rfl⟩ ?_) | (with_reducible refine stop_eqSlice ⟨_, _, rfl⟩ ?_))
              refine (valive_any _).mono ?_
              rintro e w7 ⟨rfl, hc7⟩
              go_wp2_with (first | (with_reducible refine stop_append ?_) | (with_reducible refine stop_copy ?_) | (with_reducible refine stop_make ?_) | (with_reducible refine stop_lookup ?_) | (with_reducible refine stop_update ?_) | (with_reducible refine stop_slice ?_) | (with_reducible refine stop_range ?_) | (with_reducible refine stop_next ?_) | (with_reducible refine stop_convert ⟨_, rfl⟩ ?_) | (with_reducible refine stop_convertB ⟨_, _, _, rfl⟩ ?_) | (with_reducible refine stop_eqSlice ⟨_, _, rfl⟩ ?_))
              go_ret
              exact ⟨rfl, (hcw.trans hc6).trans hc7⟩
            · have Hqa := Lib.hid (Hq.out need)
              rw [e1] at Hqa
              have Hqb := Lib.hid (Hq.out (wrap64 (need + 1)))
              rw [e2] at Hqb
              have He3 := Lib.hid e3
              clear e1 e2 e3
              simp only [Option.getD_some, Option.isSome_some, PairOut] at Hqa Hqb
              go_wp2_with (first | (with_reducible refine stop_append ?_) | (with_reducible refine stop_copy ?_) | (with_reducible refine stop_make ?_) | (with_reducible refine stop_lookup ?_) | (with_reducible refine stop_update ?_) | (with_reducible refine stop_slice ?_) | (with_reducible refine stop_range ?_) | (with_reducible refine stop_next ?_) | (with_reducible refine stop_convert ⟨_, rfl⟩ ?_) | (with_reducible refine stop_convertB ⟨_, _, _, rfl⟩ ?_) | (with_reducible refine stop_eqSlice ⟨_, _, rfl⟩ ?_))
              refine (Hqa.out _ (hcw.trans hcr)).mono ?_
              rintro e w5 ⟨B5, d5, rfl, hs5, hc5⟩
              have hc25 := hcr.trans hc5
              go_wp2_with (first | (with_reducible refine stop_append ?_) | (with_reducible refine stop_copy ?_) | (with_reducible refine stop_make ?_) | (with_reducible refine stop_lookup ?_) | (with_reducible refine stop_update ?_) | (with_reducible refine stop_slice ?_) | (with_reducible refine stop_range ?_) | (with_reducible refine stop_next ?_) | (with_reducible refine stop_convert ⟨_, rfl⟩ ?_) | (with_reducible refine stop_convertB ⟨_, _, _, rfl⟩ ?_) | (with_reducible refine stop_eqSlice ⟨_, _, rfl⟩ ?_))
              refine (Hqb.out _ (hcw.trans hc25)).mono ?_
              rintro e w6 ⟨B6, d6, rfl, hs6, hc6⟩
              have hc26 := hc25.trans hc6
              have Hs5 := Lib.hid (hs5.keepNo hc6)
              have Hs6 := Lib.hid hs6
              clear hs5 hs6
              go_wp2_with (first | (with_reducible refine stop_append ?_) | (with_reducible refine stop_copy ?_) | (with_reducible refine stop_make ?_) | (with_reducible refine stop_lookup ?_) | (with_reducible refine stop_update ?_) | (with_reducible refine stop_slice ?_) | (with_reducible refine stop_range ?_) | (with_reducible refine stop_next ?_) | (with_reducible refine stop_convert ⟨_, rfl⟩ ?_) | (with_reducible refine stop_convertB ⟨_, _, _, rfl⟩ ?_) | (with_reducible refine stop_eqSlice ⟨_, _, rfl⟩ ?_))
              refine (valive_any _).mono ?_
              rintro e w7 ⟨rfl, hc7⟩
              go_wp2_with (first | (with_reducible refine stop_append ?_) | (with_reducible refine stop_copy ?_) | (with_reducible refine stop_make ?_) | (with_reducible refine stop_lookup ?_) | (with_reducible refine stop_update ?_) | (with_reducible refine stop_slice ?_) | (with_reducible refine stop_range ?_) | (with_reducible refine stop_next ?_) | (with_reducible refine stop_convert ⟨_, rfl⟩ ?_) | (with_reducible refine stop_convertB ⟨_, _, _, rfl⟩ ?_) | (with_reducible refine stop_eqSlice ⟨_, _, rfl⟩ ?_))
              refine (vcovers_any No No _ _ a b w7 (Hs5.out.keepNo hc7) (Hs6.out.keepNo hc7) t1 t2).mono ?_
              rw [He3.out]
              rintro e w8 ⟨rfl, hc8⟩
              go_wp2_with (first | (with_reducible refine stop_append ?_) | (with_reducible refine stop_copy ?_) | (with_reducible refine stop_make ?_) | (with_reducible refine stop_lookup ?_) | (with_reducible refine stop_update ?_) | (with_reducible refine stop_slice ?_) | (with_reducible refine stop_range ?_) | (with_reducible refine stop_next ?_) | (with_reducible refine stop_convert ⟨_, rfl⟩ ?_) | (with_reducible refine stop_convertB ⟨_, _, _, rfl⟩ ?_) | (with_reducible refine stop_eqSlice ⟨_, _, rfl⟩ ?_))
              go_ret
              exact ⟨rfl, ((hcw.trans hc26).trans hc7).trans hc8⟩
end Go.Proofs.Ytlpnbbjmcmjkpaa
