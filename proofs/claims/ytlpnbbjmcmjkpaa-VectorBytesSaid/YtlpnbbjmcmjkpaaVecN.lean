/- The statement VectorBytes, walked. -/
import Derived.Test.YtlpnbbjmcmjkpaaVecU
import Derived.Test.YtlpnbbjmcmjkpaaRefA
set_option linter.unusedVariables false
set_option linter.unusedSimpArgs false
namespace Go.Proofs.Ytlpnbbjmcmjkpaa
open Go.RowKit Cb

def RowOut {α : Type} [Rep α] (x : List α × Int) (w : World) (e : Ending) (w' : World) : Prop :=
  ∃ A c, e = .returned (.tuple #[.slice A x.1.length c, .int .i64 x.2]) ∧ Sl No w' (.slice A x.1.length c) x.1 ∧ Chg No w w'
theorem row_out {α : Type} [Rep α] {x : List α × Int} {w w' : World} {e : Ending} (h : ∃ v', e = .returned (.tuple #[v', .int .i64 x.2]) ∧ Sl (Lt w.heap.size) w' v' x.1 ∧ Chg No w w') : RowOut x w e w' := by
  obtain ⟨v', rfl, hs, hc⟩ := h
  obtain ⟨A, c, rfl⟩ := hs.slice
  exact ⟨A, c, rfl, hs.no, hc⟩
theorem encF_len (a : List Int) : (encF a).1.length ≤ 90 := by
  unfold encF
  split
  · rename_i h; exact encV_len h
  · simp
theorem decP_len (b : List UInt8) : (decP b).1.length ≤ 8 := by
  rcases decP_cases b with ⟨v, h⟩ | h
  · rw [h]; exact (vright_iff.1 (decP_inv h).1).2.1
  · rw [h]; simp
theorem dec_enc (a : List Int) : ((encF a).2 ≠ 0 ∧ vright a = false) ∨ ((encF a).2 = 0 ∧ decP (encF a).1 = (a, 0)) := by
  cases h : vright a
  · exact .inl ⟨by simp [encF, h], rfl⟩
  · exact .inr ⟨by simp [encF, h], by simp only [encF, h, if_true]; exact decP_enc h⟩
set_option maxRecDepth 100000 in
set_option maxHeartbeats 1000000 in
theorem vbytes_any (v u : Value) (a : List Int) (b : List UInt8) (w : World) (h0 : Sl No w v a) (h1 : Sl No w u b) (s0 : small a) (s1 : b.length ≤ 140737488351232) :
    Calls Try.prog 11 #[v, u] w fun e w' => e = .returned (.bool true) ∧ Chg No w w' := by
  have H0 := Lib.hid (fun W (hW : Chg No w W) => h0.keepNo hW)
  have H1 := Lib.hid (fun W (hW : Chg No w W) => h1.keepNo hW)
  obtain ⟨A0, c0, rfl⟩ := h0.slice
  obtain ⟨A1, c1, rfl⟩ := h1.slice
  clear h0 h1
  have Hq1 := Lib.hid (fun W (hW : Chg No w W) => (vencode_any No _ a W (H0.out W hW) s0).mono (fun e w' h => row_out h))
  have Hr1 := Lib.hid (fun W (hW : Chg No w W) => (rencode_any No _ a W (H0.out W hW) s0).mono (fun e w' h => row_out h))
  have Hq2 := Lib.hid (fun W (hW : Chg No w W) => (vdecode_any No _ b W (H1.out W hW) s1).mono (fun e w' h => row_out h))
  have Hr2 := Lib.hid (fun W (hW : Chg No w W) => (rdecode_any No _ b W (H1.out W hW)).mono (fun e w' h => row_out h))
  have hz1 := encF_len a
  have hz2 := decP_len b
  have Hde := Lib.hid (dec_enc a)
  generalize encF a = ex at *
  generalize decP b = dx at *
  obtain ⟨eb, ee⟩ := ex
  obtain ⟨db, de⟩ := dx
  simp only [RowOut] at *
  unfold small at s0
  obtain ⟨st, hst⟩ : ∃ s : ByteArray, s = ⟨eb.toArray⟩ := ⟨_, rfl⟩
  have Hst := Lib.hid hst
  clear hst
  go_enter Try.func11, Try.ntmps11
  go_wp2_with (first | (with_reducible refine stop_append ?_) | (with_reducible refine stop_copy ?_) | (with_reducible refine stop_make ?_) | (with_reducible refine stop_lookup ?_) | (with_reducible refine stop_update ?_) | (with_reducible refine stop_slice ?_) | (with_reducible refine stop_range ?_) | (with_reducible refine stop_next ?_) | (with_reducible refine stop_convert ⟨_, rfl⟩ ?_) | (with_reducible refine stop_convertB ⟨_, _, _, rfl⟩ ?_) | (with_reducible refine stop_eqSlice ⟨_, _, rfl⟩ ?_))
  refine (Hq1.out _ (Chg.refl _ _)).mono ?_
  rintro e w1 ⟨B1, d1, rfl, hs1, hc1⟩
  have Hs1 := Lib.hid hs1; clear hs1
  go_wp2_with (first | (with_reducible refine stop_append ?_) | (with_reducible refine stop_copy ?_) | (with_reducible refine stop_make ?_) | (with_reducible refine stop_lookup ?_) | (with_reducible refine stop_update ?_) | (with_reducible refine stop_slice ?_) | (with_reducible refine stop_range ?_) | (with_reducible refine stop_next ?_) | (with_reducible refine stop_convert ⟨_, rfl⟩ ?_) | (with_reducible refine stop_convertB ⟨_, _, _, rfl⟩ ?_) | (with_reducible refine stop_eqSlice ⟨_, _, rfl⟩ ?_))
  refine (Hr1.out _ hc1).mono ?_
  rintro e w2 ⟨B2, d2, rfl, hs2, hc2⟩
  have Hs2 := Lib.hid hs2; clear hs2
  have hcw2 := hc1.trans hc2
  go_wp2_with (first | (with_reducible refine stop_append ?_) | (with_reducible refine stop_copy ?_) | (with_reducible refine stop_make ?_) | (with_reducible refine stop_lookup ?_) | (with_reducible refine stop_update ?_) | (with_reducible refine stop_slice ?_) | (with_reducible refine stop_range ?_) | (with_reducible refine stop_next ?_) | (with_reducible refine stop_convert ⟨_, rfl⟩ ?_) | (with_reducible refine stop_convertB ⟨_, _, _, rfl⟩ ?_) | (with_reducible refine stop_eqSlice ⟨_, _, rfl⟩ ?_))
  refine (Hq2.out _ hcw2).mono ?_
  rintro e w3 ⟨B3, d3, rfl, hs3, hc3⟩
  have Hs3 := Lib.hid hs3; clear hs3
  have hcw3 := hcw2.trans hc3
  go_wp2_with (first | (with_reducible refine stop_append ?_) | (with_reducible refine stop_copy ?_) | (with_reducible refine stop_make ?_) | (with_reducible refine stop_lookup ?_) | (with_reducible refine stop_update ?_) | (with_reducible refine stop_slice ?_) | (with_reducible refine stop_range ?_) | (with_reducible refine stop_next ?_) | (with_reducible refine stop_convert ⟨_, rfl⟩ ?_) | (with_reducible refine stop_convertB ⟨_, _, _, rfl⟩ ?_) | (with_reducible refine stop_eqSlice ⟨_, _, rfl⟩ ?_))
  refine (Hr2.out _ hcw3).mono ?_
  rintro e w4 ⟨B4, d4, rfl, hs4, hc4⟩
  have Hs4 := Lib.hid hs4; clear hs4
  have hcw4 := hcw3.trans hc4
  have H14 := Lib.hid (Hs1.out.keepNo ((hc2.trans hc3).trans hc4))
  have H24 := Lib.hid (Hs2.out.keepNo (hc3.trans hc4))
  go_wp2_with (first | (with_reducible refine stop_append ?_) | (with_reducible refine stop_copy ?_) | (with_reducible refine stop_make ?_) | (with_reducible refine stop_lookup ?_) | (with_reducible refine stop_update ?_) | (with_reducible refine stop_slice ?_) | (with_reducible refine stop_range ?_) | (with_reducible refine stop_next ?_) | (with_reducible refine stop_convert ⟨_, rfl⟩ ?_) | (with_reducible refine stop_convertB ⟨_, _, _, rfl⟩ ?_) | (with_reducible refine stop_eqSlice ⟨_, _, rfl⟩ ?_))
  refine step_conv_bs Try.underlying36 Try.underlying5 Try.underlying9 rfl H14.out ?_
  rw [← Hst.out]
  go_wp2_with (first | (with_reducible refine stop_append ?_) | (with_reducible refine stop_copy ?_) | (with_reducible refine stop_make ?_) | (with_reducible refine stop_lookup ?_) | (with_reducible refine stop_update ?_) | (with_reducible refine stop_slice ?_) | (with_reducible refine stop_range ?_) | (with_reducible refine stop_next ?_) | (with_reducible refine stop_convert ⟨_, rfl⟩ ?_) | (with_reducible refine stop_convertB ⟨_, _, _, rfl⟩ ?_) | (with_reducible refine stop_eqSlice ⟨_, _, rfl⟩ ?_))
  refine step_conv_bs Try.underlying36 Try.underlying5 Try.underlying9 rfl H24.out ?_
  rw [← Hst.out]
  go_wp2_with (first | (with_reducible refine stop_append ?_) | (with_reducible refine stop_copy ?_) | (with_reducible refine stop_make ?_) | (with_reducible refine stop_lookup ?_) | (with_reducible refine stop_update ?_) | (with_reducible refine stop_slice ?_) | (with_reducible refine stop_range ?_) | (with_reducible refine stop_next ?_) | (with_reducible refine stop_convert ⟨_, rfl⟩ ?_) | (with_reducible refine stop_convertB ⟨_, _, _, rfl⟩ ?_) | (with_reducible refine stop_eqSlice ⟨_, _, rfl⟩ ?_))
  refine (requal_any No No _ _ db db w4 (Hs3.out.keepNo hc4) Hs4.out (by omega) (by omega)).mono ?_
  rw [decide_eq_true (rfl : db = db)]
  rintro e w5 ⟨rfl, hc5⟩
  have hcw5 := hcw4.trans hc5
  have Hd := Lib.hid ((vdecode_any No _ eb w5 (H14.out.keepNo hc5) (by omega)).mono (fun e w' h => row_out h))
  rcases Hde.out with ⟨e1, _⟩ | ⟨e1, e2⟩
  · have e3 : (ee != 0) = true := by simpa using e1
    have e4 : (ee == 0) = false := by simpa using e1
    clear e1
    generalize decP eb = dz at Hd
    obtain ⟨zb, ze⟩ := dz
    simp only [RowOut] at Hd
    go_wp2_with (first | (with_reducible refine stop_append ?_) | (with_reducible refine stop_copy ?_) | (with_reducible refine stop_make ?_) | (with_reducible refine stop_lookup ?_) | (with_reducible refine stop_update ?_) | (with_reducible refine stop_slice ?_) | (with_reducible refine stop_range ?_) | (with_reducible refine stop_next ?_) | (with_reducible refine stop_convert ⟨_, rfl⟩ ?_) | (with_reducible refine stop_convertB ⟨_, _, _, rfl⟩ ?_) | (with_reducible refine stop_eqSlice ⟨_, _, rfl⟩ ?_))
    refine Hd.out.mono ?_
    rintro e w6 ⟨B6, d6, rfl, _, hc6⟩
    go_wp2_with (first | (with_reducible refine stop_append ?_) | (with_reducible refine stop_copy ?_) | (with_reducible refine stop_make ?_) | (with_reducible refine stop_lookup ?_) | (with_reducible refine stop_update ?_) | (with_reducible refine stop_slice ?_) | (with_reducible refine stop_range ?_) | (with_reducible refine stop_next ?_) | (with_reducible refine stop_convert ⟨_, rfl⟩ ?_) | (with_reducible refine stop_convertB ⟨_, _, _, rfl⟩ ?_) | (with_reducible refine stop_eqSlice ⟨_, _, rfl⟩ ?_))
    refine (valive_any _).mono ?_
    rintro e w7 ⟨rfl, hc7⟩
    go_wp2_with (first | (with_reducible refine stop_append ?_) | (with_reducible refine stop_copy ?_) | (with_reducible refine stop_make ?_) | (with_reducible refine stop_lookup ?_) | (with_reducible refine stop_update ?_) | (with_reducible refine stop_slice ?_) | (with_reducible refine stop_range ?_) | (with_reducible refine stop_next ?_) | (with_reducible refine stop_convert ⟨_, rfl⟩ ?_) | (with_reducible refine stop_convertB ⟨_, _, _, rfl⟩ ?_) | (with_reducible refine stop_eqSlice ⟨_, _, rfl⟩ ?_))
    go_ret
    exact ⟨rfl, (hcw5.trans hc6).trans hc7⟩
  · subst e1
    rw [e2] at Hd
    clear e2
    simp only [RowOut] at Hd
    go_wp2_with (first | (with_reducible refine stop_append ?_) | (with_reducible refine stop_copy ?_) | (with_reducible refine stop_make ?_) | (with_reducible refine stop_lookup ?_) | (with_reducible refine stop_update ?_) | (with_reducible refine stop_slice ?_) | (with_reducible refine stop_range ?_) | (with_reducible refine stop_next ?_) | (with_reducible refine stop_convert ⟨_, rfl⟩ ?_) | (with_reducible refine stop_convertB ⟨_, _, _, rfl⟩ ?_) | (with_reducible refine stop_eqSlice ⟨_, _, rfl⟩ ?_))
    refine Hd.out.mono ?_
    rintro e w6 ⟨B6, d6, rfl, hs6, hc6⟩
    have Hs6 := Lib.hid hs6; clear hs6
    have hcw6 := hcw5.trans hc6
    simp only
    go_wp2_with (first | (with_reducible refine stop_append ?_) | (with_reducible refine stop_copy ?_) | (with_reducible refine stop_make ?_) | (with_reducible refine stop_lookup ?_) | (with_reducible refine stop_update ?_) | (with_reducible refine stop_slice ?_) | (with_reducible refine stop_range ?_) | (with_reducible refine stop_next ?_) | (with_reducible refine stop_convert ⟨_, rfl⟩ ?_) | (with_reducible refine stop_convertB ⟨_, _, _, rfl⟩ ?_) | (with_reducible refine stop_eqSlice ⟨_, _, rfl⟩ ?_))
    refine (valive_any _).mono ?_
    rintro e w7 ⟨rfl, hc7⟩
    have hcw7 := hcw6.trans hc7
    go_wp2_with (first | (with_reducible refine stop_append ?_) | (with_reducible refine stop_copy ?_) | (with_reducible refine stop_make ?_) | (with_reducible refine stop_lookup ?_) | (with_reducible refine stop_update ?_) | (with_reducible refine stop_slice ?_) | (with_reducible refine stop_range ?_) | (with_reducible refine stop_next ?_) | (with_reducible refine stop_convert ⟨_, rfl⟩ ?_) | (with_reducible refine stop_convertB ⟨_, _, _, rfl⟩ ?_) | (with_reducible refine stop_eqSlice ⟨_, _, rfl⟩ ?_))
    refine (requal_any No No _ _ a a w7 (Hs6.out.keepNo hc7) (H0.out _ hcw7) (by omega) (by omega)).mono ?_
    rw [decide_eq_true (rfl : a = a)]
    rintro e w8 ⟨rfl, hc8⟩
    go_wp2_with (first | (with_reducible refine stop_append ?_) | (with_reducible refine stop_copy ?_) | (with_reducible refine stop_make ?_) | (with_reducible refine stop_lookup ?_) | (with_reducible refine stop_update ?_) | (with_reducible refine stop_slice ?_) | (with_reducible refine stop_range ?_) | (with_reducible refine stop_next ?_) | (with_reducible refine stop_convert ⟨_, rfl⟩ ?_) | (with_reducible refine stop_convertB ⟨_, _, _, rfl⟩ ?_) | (with_reducible refine stop_eqSlice ⟨_, _, rfl⟩ ?_))
    go_ret
    exact ⟨rfl, hcw7.trans hc8⟩
end Go.Proofs.Ytlpnbbjmcmjkpaa
