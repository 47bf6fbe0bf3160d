/- The statement ObjectBlind, walked. -/
import Derived.Test.YtnioljagmimojaaLawQ
set_option linter.unusedVariables false
set_option linter.unusedSimpArgs false
namespace Go.Proofs.Ytnioljagmimojaa
open Go.RowKit Cb

set_option maxRecDepth 100000 in
set_option maxHeartbeats 1000000 in
theorem blind_few (F : Nat → Prop) (v : Value) (xs : List ByteArray) (id : Int) (w : World) (h : Sl F w v xs) (hl : xs.length ≤ 140737488351232) (hb : ∀ x ∈ xs, x.size ≤ 140737488351232) (hn : fewB xs = false) :
    Calls Try.prog 10 #[v, .int .i64 id] w fun e w' => e = .returned (.bool true) ∧ Chg No w w' := by
  have hfew : ∀ W, Chg No w W → Calls Try.prog 22 #[v] W fun e w' => e = .returned (.bool false) ∧ Chg No W w' := fun W hW => by rw [← hn]; exact few_any F v xs W (h.keepNo hW) hl hb
  have H := Lib.hid hfew
  obtain ⟨A, c, rfl⟩ := h.slice
  clear hfew h
  go_enter Try.func10, Try.ntmps10
  go_wp2_with (first | (with_reducible refine stop_append ?_) | (with_reducible refine stop_copy ?_) | (with_reducible refine stop_make ?_) | (with_reducible refine stop_lookup ?_) | (with_reducible refine stop_update ?_) | (with_reducible refine stop_slice ?_) | (with_reducible refine stop_range ?_) | (with_reducible refine stop_next ?_) | (with_reducible refine stop_convert ⟨_, rfl⟩ ?_) | (with_reducible refine stop_convertB ⟨_, _, _, rfl⟩ ?_) | (with_reducible refine stop_eqSlice ⟨_, _, rfl⟩ ?_))
  refine (new_any _).mono ?_
  rintro e w1 ⟨p, rc, ri, rfl, h1, hc1, hge⟩
  clear h1 hge
  go_wp2_with (first | (with_reducible refine stop_append ?_) | (with_reducible refine stop_copy ?_) | (with_reducible refine stop_make ?_) | (with_reducible refine stop_lookup ?_) | (with_reducible refine stop_update ?_) | (with_reducible refine stop_slice ?_) | (with_reducible refine stop_range ?_) | (with_reducible refine stop_next ?_) | (with_reducible refine stop_convert ⟨_, rfl⟩ ?_) | (with_reducible refine stop_convertB ⟨_, _, _, rfl⟩ ?_) | (with_reducible refine stop_eqSlice ⟨_, _, rfl⟩ ?_))
  refine (H.out _ hc1).mono ?_
  rintro e w2 ⟨rfl, hc2⟩
  go_wp2_with (first | (with_reducible refine stop_append ?_) | (with_reducible refine stop_copy ?_) | (with_reducible refine stop_make ?_) | (with_reducible refine stop_lookup ?_) | (with_reducible refine stop_update ?_) | (with_reducible refine stop_slice ?_) | (with_reducible refine stop_range ?_) | (with_reducible refine stop_next ?_) | (with_reducible refine stop_convert ⟨_, rfl⟩ ?_) | (with_reducible refine stop_convertB ⟨_, _, _, rfl⟩ ?_) | (with_reducible refine stop_eqSlice ⟨_, _, rfl⟩ ?_))
  refine (alive_any _).mono ?_
  rintro e w3 ⟨rfl, hc3⟩
  have hcw := (hc1.trans hc2).trans hc3
  go_wp2_with (first | (with_reducible refine stop_append ?_) | (with_reducible refine stop_copy ?_) | (with_reducible refine stop_make ?_) | (with_reducible refine stop_lookup ?_) | (with_reducible refine stop_update ?_) | (with_reducible refine stop_slice ?_) | (with_reducible refine stop_range ?_) | (with_reducible refine stop_next ?_) | (with_reducible refine stop_convert ⟨_, rfl⟩ ?_) | (with_reducible refine stop_convertB ⟨_, _, _, rfl⟩ ?_) | (with_reducible refine stop_eqSlice ⟨_, _, rfl⟩ ?_))
  go_ret
  exact ⟨rfl, hcw⟩
set_option maxRecDepth 100000 in
set_option maxHeartbeats 2000000 in
theorem blind_main (F : Nat → Prop) (v : Value) (xs : List ByteArray) (id : Int) (w : World) (h : Sl F w v xs) (hfb : fewB xs = true) :
    Calls Try.prog 10 #[v, .int .i64 id] w fun e w' => e = .returned (.bool true) ∧ Chg No w w' := by
  obtain ⟨hx40, hxs⟩ := fewB_yes hfb
  have hfew : ∀ W, Chg No w W → Calls Try.prog 22 #[v] W fun e w' => e = .returned (.bool true) ∧ Chg No W w' := fun W hW => by
    rw [← hfb]; exact few_any F v xs W (h.keepNo hW) (by omega) (fun x hx => by have := sizes_mem hx; omega)
  have Hfew := Lib.hid hfew
  obtain ⟨A, c, rfl⟩ := h.slice
  have H := Lib.hid h
  clear hfew h hfb
  go_enter Try.func10, Try.ntmps10
  go_wp2_with (first | (with_reducible refine stop_append ?_) | (with_reducible refine stop_copy ?_) | (with_reducible refine stop_make ?_) | (with_reducible refine stop_lookup ?_) | (with_reducible refine stop_update ?_) | (with_reducible refine stop_slice ?_) | (with_reducible refine stop_range ?_) | (with_reducible refine stop_next ?_) | (with_reducible refine stop_convert ⟨_, rfl⟩ ?_) | (with_reducible refine stop_convertB ⟨_, _, _, rfl⟩ ?_) | (with_reducible refine stop_eqSlice ⟨_, _, rfl⟩ ?_))
  refine (new_any _).mono ?_
  rintro e w1 ⟨p, rc, ri, rfl, h1, hc1, hge⟩
  have H1 := Lib.hid h1
  clear h1
  go_wp2_with (first | (with_reducible refine stop_append ?_) | (with_reducible refine stop_copy ?_) | (with_reducible refine stop_make ?_) | (with_reducible refine stop_lookup ?_) | (with_reducible refine stop_update ?_) | (with_reducible refine stop_slice ?_) | (with_reducible refine stop_range ?_) | (with_reducible refine stop_next ?_) | (with_reducible refine stop_convert ⟨_, rfl⟩ ?_) | (with_reducible refine stop_convertB ⟨_, _, _, rfl⟩ ?_) | (with_reducible refine stop_eqSlice ⟨_, _, rfl⟩ ?_))
  refine (Hfew.out _ hc1).mono ?_
  rintro e w2 ⟨rfl, hc2⟩
  have hc02 := hc1.trans hc2
  have H2 := Lib.hid (H1.out.keepNo hc2)
  clear hc1 hc2 H1
  go_wp2_with (first | (with_reducible refine stop_append ?_) | (with_reducible refine stop_copy ?_) | (with_reducible refine stop_make ?_) | (with_reducible refine stop_lookup ?_) | (with_reducible refine stop_update ?_) | (with_reducible refine stop_slice ?_) | (with_reducible refine stop_range ?_) | (with_reducible refine stop_next ?_) | (with_reducible refine stop_convert ⟨_, rfl⟩ ?_) | (with_reducible refine stop_convertB ⟨_, _, _, rfl⟩ ?_) | (with_reducible refine stop_eqSlice ⟨_, _, rfl⟩ ?_))
  go_loopw [32] (fun v32 wr => ∃ (k : Nat), k ≤ xs.length ∧ v32 = .int .i64 k ∧ Sto wr p rc ri (addAll s0 (xs.take k)) ∧ Chg No w wr) (fun v32 _ => xs.length - (intOf v32).toNat)
  case atStart => exact ⟨0, by omega, rfl, H2.out, hc02⟩
  case round =>
    obtain ⟨k, hk, rfl, hs, hc⟩ := hrel
    clear H2 hc02
    have Hs := Lib.hid hs; clear hs
    by_cases hlt : k < xs.length
    · obtain ⟨b, o, d, rfl, _, hbl, rfl, ha⟩ := (H.out.keepNo hc).get k hlt
      have ha0 := ha 0 _ rfl
      simp only [show Rep.n ByteArray = 1 from rfl, Nat.mul_one, Nat.add_zero] at ha0
      have hbd := (addAll_bd xs k hk).le (C := 1000000000) (by omega)
      have hsz := sizes_mem (List.getElem_mem hlt)
      have Hsn := Lib.hid (addAll_snoc s0 xs k hlt)
      have Hbd := Lib.hid hbd
      clear ha hbd
      generalize xs[k] = x at ha0 Hsn hsz
      generalize addAll s0 (xs.take k) = s at Hs Hsn Hbd
      go_wp2_with (first | (with_reducible refine stop_append ?_) | (with_reducible refine stop_copy ?_) | (with_reducible refine stop_make ?_) | (with_reducible refine stop_lookup ?_) | (with_reducible refine stop_update ?_) | (with_reducible refine stop_slice ?_) | (with_reducible refine stop_range ?_) | (with_reducible refine stop_next ?_) | (with_reducible refine stop_convert ⟨_, rfl⟩ ?_) | (with_reducible refine stop_convertB ⟨_, _, _, rfl⟩ ?_) | (with_reducible refine stop_eqSlice ⟨_, _, rfl⟩ ?_))
      refine (add_any p rc ri s x _ Hs.out (by omega) Hbd.out).mono ?_
      rintro e w3 ⟨rfl, hs3, hc3⟩
      have hc03 := hc.old hc3 hge
      rw [← Hsn.out] at hs3
      have Hs3 := Lib.hid hs3
      clear hs3 hc3
      go_wp2_with (first | (with_reducible refine stop_append ?_) | (with_reducible refine stop_copy ?_) | (with_reducible refine stop_make ?_) | (with_reducible refine stop_lookup ?_) | (with_reducible refine stop_update ?_) | (with_reducible refine stop_slice ?_) | (with_reducible refine stop_range ?_) | (with_reducible refine stop_next ?_) | (with_reducible refine stop_convert ⟨_, rfl⟩ ?_) | (with_reducible refine stop_convertB ⟨_, _, _, rfl⟩ ?_) | (with_reducible refine stop_eqSlice ⟨_, _, rfl⟩ ?_))
      go_roundw
      case rel => exact ⟨k + 1, by omega, by go_num, Hs3.out, hc03⟩
      case measure => simp [intOf]; omega
    · obtain rfl : k = xs.length := by omega
      have hbd := (addAll_bd xs xs.length (Nat.le_refl _)).le (C := 1000000000) (by omega)
      have hks := (KS.all xs xs.length (Nat.le_refl _)).le (M := 1000) (by omega)
      have hs := Hs.out
      rw [List.take_length] at hs hbd hks
      clear Hs hlt
      generalize addAll s0 xs = s at hs hbd hks
      have Hs := Lib.hid hs; have Hks := Lib.hid hks
      clear hs hks
      have hn0 := hbd.2.1
      have hn1 := hbd.2.2
      have Hbd := Lib.hid hbd
      clear hbd
      obtain ⟨wA, rfl⟩ : ∃ wA : World, wA = wr := ⟨_, rfl⟩
      go_wp2_with (first | (with_reducible refine stop_append ?_) | (with_reducible refine stop_copy ?_) | (with_reducible refine stop_make ?_) | (with_reducible refine stop_lookup ?_) | (with_reducible refine stop_update ?_) | (with_reducible refine stop_slice ?_) | (with_reducible refine stop_range ?_) | (with_reducible refine stop_next ?_) | (with_reducible refine stop_convert ⟨_, rfl⟩ ?_) | (with_reducible refine stop_convertB ⟨_, _, _, rfl⟩ ?_) | (with_reducible refine stop_eqSlice ⟨_, _, rfl⟩ ?_))
      refine (fields_any p rc ri s wA Hs.out Hks.out (by omega)).mono ?_
      rintro e w4 ⟨v1, rfl, hc4, hv1⟩
      have Hs4 := Lib.hid (Hs.out.keepNo hc4)
      have hc04 := hc.trans hc4
      have hv1 := hv1.weak (G := Sf p rc ri) (fun b _ hb => Hs.out.lt b hb)
      have hfl : (fieldsS s).length ≤ 1000000 := by have := fieldsS_len s; have := Hks.out.len; omega
      have Hfl := Lib.hid hfl
      clear hc4 hc Hs hfl
      have hT : askT s id [] [] = (id, [], []) := rfl
      have hcases : (askE s (askT s id [] []) = 0 ∧ askR s (askT s id [] []) = (id, [], []) ∧ rightB id [] [] = true ∧ (mget s.ids id).isSome = false) ∨ (((askE s (askT s id [] []) == 0) = false ∧ (askE s (askT s id [] []) != 0) = true) ∧ askR s (askT s id [] []) = (0, [], [])) := by
        by_cases h : askE s (askT s id [] []) = 0
        · have := askE_zero h
          exact .inl ⟨h, by unfold askR; rw [if_pos h, hT], this.1, this.2⟩
        · exact .inr ⟨⟨by simpa using h, by simpa using h⟩, by unfold askR; rw [if_neg h]⟩
      have ak := ask_any No No p rc ri s id _ _ [] [] w4 Hs4.out (Sl.nil _ _ none 0) (Sl.nil _ _ none 0) (by simp) (by simp)
      generalize askE s (askT s id [] []) = E at hcases ak
      generalize askR s (askT s id [] []) = R at hcases ak
      clear hT
      rcases hcases with ⟨rfl, rfl, hrt, hcm⟩ | ⟨⟨hE1, hE2⟩, rfl⟩
      · obtain ⟨D, hD⟩ : ∃ D, D = encB (id, [], []) := ⟨_, rfl⟩
        have hDs : D.size ≤ 1000000 := by rw [hD]; exact encB_size (t := (id, [], [])) hrt
        have dc : ∀ (B1 B2 : Option Addr) (c1 c2 : Nat) (W : World), Calls Try.prog 12 #[.agg #[.int .i64 id, .slice B1 0 c1, .slice B2 0 c2]] W fun e w' => e = .returned (.tuple #[.string D, .int .i64 0]) ∧ Chg No W w' := fun B1 B2 c1 c2 W => by
          rw [hD]; exact data_yes No id _ _ [] [] W (Sl.nil _ _ _ _) (Sl.nil _ _ _ _) hrt
        obtain ⟨S2, hS2⟩ : ∃ S, S = (⟨s.cs, mset s.ids id true, s.n + 1⟩ : Store) := ⟨_, rfl⟩
        have ga : addD s D = (S2, true) := by
          rw [hD, addD_enc (t := (id, [], [])) hrt, hS2]; exact asked_done (fs := []) (ws := []) hcm
        have hgd : (mget S2.ids id).getD false = true ∧ (mget S2.ids id).isSome = true := by rw [hS2]; simp [mget_mset]
        have hfs : fieldsS S2 = fieldsS s := by rw [hS2]; rfl
        have hnn : S2.n = s.n + 1 := by rw [hS2]
        have hk2 : KS 1000 S2 := by rw [hS2]; exact Hks.out.ids _ _
        have GA := Lib.hid ga; have Dc := Lib.hid dc; have Hfs := Lib.hid hfs; have Hnn := Lib.hid hnn; have Hk2 := Lib.hid hk2; have Hgd := Lib.hid hgd; have Ak := Lib.hid ak
        clear ga dc hfs hnn hk2 hgd hD hS2 ak hrt hcm
        go_wp2_with (first | (with_reducible refine stop_append ?_) | (with_reducible refine stop_copy ?_) | (with_reducible refine stop_make ?_) | (with_reducible refine stop_lookup ?_) | (with_reducible refine stop_update ?_) | (with_reducible refine stop_slice ?_) | (with_reducible refine stop_range ?_) | (with_reducible refine stop_next ?_) | (with_reducible refine stop_convert ⟨_, rfl⟩ ?_) | (with_reducible refine stop_convertB ⟨_, _, _, rfl⟩ ?_) | (with_reducible refine stop_eqSlice ⟨_, _, rfl⟩ ?_))
        refine Ak.out.mono ?_
        rintro e w5 ⟨u1, u2, rfl, hc5, k1, k2⟩
        obtain ⟨B1, c1, rfl⟩ := k1.slice
        obtain ⟨B2, c2, rfl⟩ := k2.slice
        simp only [List.length_nil]
        clear k1 k2
        have o9 := alloc_obj w5 (.cells #[.int .i64 id, .slice B1 0 c1, .slice B2 0 c2] 33)
        have c56 := (Chg.refl No w5).alloc (.cells #[.int .i64 id, .slice B1 0 c1, .slice B2 0 c2] 33)
        have z0 := cell_obj (i := 0) o9 rfl
        have z1 := cell_obj (i := 1) o9 rfl
        have z2 := cell_obj (i := 2) o9 rfl
        go_wp2_with (first | (with_reducible refine stop_append ?_) | (with_reducible refine stop_copy ?_) | (with_reducible refine stop_make ?_) | (with_reducible refine stop_lookup ?_) | (with_reducible refine stop_update ?_) | (with_reducible refine stop_slice ?_) | (with_reducible refine stop_range ?_) | (with_reducible refine stop_next ?_) | (with_reducible refine stop_convert ⟨_, rfl⟩ ?_) | (with_reducible refine stop_convertB ⟨_, _, _, rfl⟩ ?_) | (with_reducible refine stop_eqSlice ⟨_, _, rfl⟩ ?_))
        generalize w5.alloc (.cells #[.int .i64 id, .slice B1 0 c1, .slice B2 0 c2] 33) = w6 at *
        have hc46 := hc5.trans c56
        clear z0 z1 z2 o9 c56 hc5
        refine (Dc.out _ _ _ _ w6).mono ?_
        rintro e w7 ⟨rfl, hc7⟩
        have hc47 := hc46.trans hc7
        have Hs7 := Lib.hid (Hs4.out.keepNo hc47)
        go_wp2_with (first | (with_reducible refine stop_append ?_) | (with_reducible refine stop_copy ?_) | (with_reducible refine stop_make ?_) | (with_reducible refine stop_lookup ?_) | (with_reducible refine stop_update ?_) | (with_reducible refine stop_slice ?_) | (with_reducible refine stop_range ?_) | (with_reducible refine stop_next ?_) | (with_reducible refine stop_convert ⟨_, rfl⟩ ?_) | (with_reducible refine stop_convertB ⟨_, _, _, rfl⟩ ?_) | (with_reducible refine stop_eqSlice ⟨_, _, rfl⟩ ?_))
        have dn := done_any p rc ri s w7 Hs7.out
        refine dn.mono ?_
        rintro e w8 ⟨rfl, rfl⟩
        go_wp2_with (first | (with_reducible refine stop_append ?_) | (with_reducible refine stop_copy ?_) | (with_reducible refine stop_make ?_) | (with_reducible refine stop_lookup ?_) | (with_reducible refine stop_update ?_) | (with_reducible refine stop_slice ?_) | (with_reducible refine stop_range ?_) | (with_reducible refine stop_next ?_) | (with_reducible refine stop_convert ⟨_, rfl⟩ ?_) | (with_reducible refine stop_convertB ⟨_, _, _, rfl⟩ ?_) | (with_reducible refine stop_eqSlice ⟨_, _, rfl⟩ ?_))
        refine (add_any p rc ri s D w7 Hs7.out hDs Hbd.out).mono ?_
        rintro e w9 ⟨rfl, hs9, hc9⟩
        rw [GA.out] at hs9
        simp only [GA.out]
        have Hs9 := Lib.hid hs9
        have hc49 : Chg (Sf p rc ri) w4 w9 := hc47.trans' hc9 (fun _ _ f => f.elim) (fun _ _ f => f)
        clear hs9 hc9
        go_wp2_with (first | (with_reducible refine stop_append ?_) | (with_reducible refine stop_copy ?_) | (with_reducible refine stop_make ?_) | (with_reducible refine stop_lookup ?_) | (with_reducible refine stop_update ?_) | (with_reducible refine stop_slice ?_) | (with_reducible refine stop_range ?_) | (with_reducible refine stop_next ?_) | (with_reducible refine stop_convert ⟨_, rfl⟩ ?_) | (with_reducible refine stop_convertB ⟨_, _, _, rfl⟩ ?_) | (with_reducible refine stop_eqSlice ⟨_, _, rfl⟩ ?_))
        refine (outcome_any p rc ri S2 id w9 Hs9.out).mono ?_
        rintro e w9' ⟨rfl, rfl⟩
        rw [Hgd.out.1, Hgd.out.2]
        go_wp2_with (first | (with_reducible refine stop_append ?_) | (with_reducible refine stop_copy ?_) | (with_reducible refine stop_make ?_) | (with_reducible refine stop_lookup ?_) | (with_reducible refine stop_update ?_) | (with_reducible refine stop_slice ?_) | (with_reducible refine stop_range ?_) | (with_reducible refine stop_next ?_) | (with_reducible refine stop_convert ⟨_, rfl⟩ ?_) | (with_reducible refine stop_convertB ⟨_, _, _, rfl⟩ ?_) | (with_reducible refine stop_eqSlice ⟨_, _, rfl⟩ ?_))
        refine (alive_any _).mono ?_
        rintro e w10 ⟨rfl, hc10⟩
        have Hs10 := Lib.hid (Hs9.out.keepNo hc10)
        go_wp2_with (first | (with_reducible refine stop_append ?_) | (with_reducible refine stop_copy ?_) | (with_reducible refine stop_make ?_) | (with_reducible refine stop_lookup ?_) | (with_reducible refine stop_update ?_) | (with_reducible refine stop_slice ?_) | (with_reducible refine stop_range ?_) | (with_reducible refine stop_next ?_) | (with_reducible refine stop_convert ⟨_, rfl⟩ ?_) | (with_reducible refine stop_convertB ⟨_, _, _, rfl⟩ ?_) | (with_reducible refine stop_eqSlice ⟨_, _, rfl⟩ ?_))
        have dn := done_any p rc ri S2 w10 Hs10.out
        rw [Hnn.out] at dn
        refine dn.mono ?_
        rintro e w11 ⟨rfl, rfl⟩
        go_wp2_with (first | (with_reducible refine stop_append ?_) | (with_reducible refine stop_copy ?_) | (with_reducible refine stop_make ?_) | (with_reducible refine stop_lookup ?_) | (with_reducible refine stop_update ?_) | (with_reducible refine stop_slice ?_) | (with_reducible refine stop_range ?_) | (with_reducible refine stop_next ?_) | (with_reducible refine stop_convert ⟨_, rfl⟩ ?_) | (with_reducible refine stop_convertB ⟨_, _, _, rfl⟩ ?_) | (with_reducible refine stop_eqSlice ⟨_, _, rfl⟩ ?_))
        refine (fields_any p rc ri S2 w10 Hs10.out Hk2.out (by omega)).mono ?_
        rw [Hfs.out]
        rintro e w12 ⟨v2, rfl, hc12, hv2⟩
        have hc412 : Chg (Sf p rc ri) w4 w12 := (hc49.trans hc10.of_no).trans hc12.of_no
        go_wp2_with (first | (with_reducible refine stop_append ?_) | (with_reducible refine stop_copy ?_) | (with_reducible refine stop_make ?_) | (with_reducible refine stop_lookup ?_) | (with_reducible refine stop_update ?_) | (with_reducible refine stop_slice ?_) | (with_reducible refine stop_range ?_) | (with_reducible refine stop_next ?_) | (with_reducible refine stop_convert ⟨_, rfl⟩ ?_) | (with_reducible refine stop_convertB ⟨_, _, _, rfl⟩ ?_) | (with_reducible refine stop_eqSlice ⟨_, _, rfl⟩ ?_))
        refine (equal_any _ _ v1 v2 _ _ w12 (hv1.keep hc412) hv2 Hfl.out Hfl.out).mono ?_
        rintro e w13 ⟨rfl, hc13⟩
        rw [decide_eq_true (rfl : fieldsS s = fieldsS s)]
        have hcf := (hc04.old hc412 hge).trans hc13
        go_wp2_with (first | (with_reducible refine stop_append ?_) | (with_reducible refine stop_copy ?_) | (with_reducible refine stop_make ?_) | (with_reducible refine stop_lookup ?_) | (with_reducible refine stop_update ?_) | (with_reducible refine stop_slice ?_) | (with_reducible refine stop_range ?_) | (with_reducible refine stop_next ?_) | (with_reducible refine stop_convert ⟨_, rfl⟩ ?_) | (with_reducible refine stop_convertB ⟨_, _, _, rfl⟩ ?_) | (with_reducible refine stop_eqSlice ⟨_, _, rfl⟩ ?_))
        go_ret
        exact ⟨rfl, hcf⟩
      · have Ak := Lib.hid ak
        have rr : ∀ (B1 B2 : Option Addr) (c1 c2 : Nat) (W : World), Calls Try.prog 19 #[.agg #[.int .i64 0, .slice B1 0 c1, .slice B2 0 c2]] W fun e w' => e = .returned (.bool true) ∧ Chg No W w' := fun B1 B2 c1 c2 W =>
          right_tx No 0 _ _ [] [] W (Sl.nil _ _ _ _) (Sl.nil _ _ _ _) (by simp) (by simp)
        have Rr := Lib.hid rr
        clear ak rr
        go_wp2_with (first | (with_reducible refine stop_append ?_) | (with_reducible refine stop_copy ?_) | (with_reducible refine stop_make ?_) | (with_reducible refine stop_lookup ?_) | (with_reducible refine stop_update ?_) | (with_reducible refine stop_slice ?_) | (with_reducible refine stop_range ?_) | (with_reducible refine stop_next ?_) | (with_reducible refine stop_convert ⟨_, rfl⟩ ?_) | (with_reducible refine stop_convertB ⟨_, _, _, rfl⟩ ?_) | (with_reducible refine stop_eqSlice ⟨_, _, rfl⟩ ?_))
        refine Ak.out.mono ?_
        rintro e w5 ⟨u1, u2, rfl, hc5, k1, k2⟩
        obtain ⟨B1, c1, rfl⟩ := k1.slice
        obtain ⟨B2, c2, rfl⟩ := k2.slice
        simp only [List.length_nil]
        clear k1 k2
        have o9 := alloc_obj w5 (.cells #[.int .i64 0, .slice B1 0 c1, .slice B2 0 c2] 33)
        have c56 := (Chg.refl No w5).alloc (.cells #[.int .i64 0, .slice B1 0 c1, .slice B2 0 c2] 33)
        go_wp2_with (first | (with_reducible refine stop_append ?_) | (with_reducible refine stop_copy ?_) | (with_reducible refine stop_make ?_) | (with_reducible refine stop_lookup ?_) | (with_reducible refine stop_update ?_) | (with_reducible refine stop_slice ?_) | (with_reducible refine stop_range ?_) | (with_reducible refine stop_next ?_) | (with_reducible refine stop_convert ⟨_, rfl⟩ ?_) | (with_reducible refine stop_convertB ⟨_, _, _, rfl⟩ ?_) | (with_reducible refine stop_eqSlice ⟨_, _, rfl⟩ ?_))
        generalize w5.alloc (.cells #[.int .i64 0, .slice B1 0 c1, .slice B2 0 c2] 33) = w6 at *
        refine (alive_any _).mono ?_
        rintro e w7 ⟨rfl, hc7⟩
        have o97 := hc7.obj o9 (not_no _)
        have z0 := cell_obj (i := 0) o97 rfl
        have z1 := cell_obj (i := 1) o97 rfl
        have z2 := cell_obj (i := 2) o97 rfl
        go_wp2_with (first | (with_reducible refine stop_append ?_) | (with_reducible refine stop_copy ?_) | (with_reducible refine stop_make ?_) | (with_reducible refine stop_lookup ?_) | (with_reducible refine stop_update ?_) | (with_reducible refine stop_slice ?_) | (with_reducible refine stop_range ?_) | (with_reducible refine stop_next ?_) | (with_reducible refine stop_convert ⟨_, rfl⟩ ?_) | (with_reducible refine stop_convertB ⟨_, _, _, rfl⟩ ?_) | (with_reducible refine stop_eqSlice ⟨_, _, rfl⟩ ?_))
        refine (Rr.out _ _ _ _ w7).mono ?_
        rintro e w8 ⟨rfl, hc8⟩
        have hcf := (((hc04.trans hc5).trans c56).trans hc7).trans hc8
        go_wp2_with (first | (with_reducible refine stop_append ?_) | (with_reducible refine stop_copy ?_) | (with_reducible refine stop_make ?_) | (with_reducible refine stop_lookup ?_) | (with_reducible refine stop_update ?_) | (with_reducible refine stop_slice ?_) | (with_reducible refine stop_range ?_) | (with_reducible refine stop_next ?_) | (with_reducible refine stop_convert ⟨_, rfl⟩ ?_) | (with_reducible refine stop_convertB ⟨_, _, _, rfl⟩ ?_) | (with_reducible refine stop_eqSlice ⟨_, _, rfl⟩ ?_))
        go_ret
        exact ⟨rfl, hcf⟩
end Go.Proofs.Ytnioljagmimojaa
