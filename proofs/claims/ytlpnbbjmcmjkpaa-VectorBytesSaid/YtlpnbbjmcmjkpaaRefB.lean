/- Walks of the document's vector: Encode. -/
import Derived.Test.YtlpnbbjmcmjkpaaRefZ
import Derived.Test.YtlpnbbjmcmjkpaaVecS
import Derived.Test.YtlpnbbjmcmjkpaaVecD
set_option linter.unusedVariables false
set_option linter.unusedSimpArgs false
namespace Go.Proofs.Ytlpnbbjmcmjkpaa
open Go.RowKit Cb

theorem numS_enc {n : Int} (h : 0 ≤ n) (h' : n ≤ 1099511627776) : numS n = encNat n.toNat := by
  unfold numS; rw [if_pos ⟨h, by omega⟩]
theorem ba_size (l : List UInt8) : (⟨l.toArray⟩ : ByteArray).size = l.length := by simp [ByteArray.size]
set_option maxRecDepth 100000 in
set_option maxHeartbeats 1000000 in
theorem rencode_any (F : Nat → Prop) (v : Value) (xs : List Int) (w : World) (hs : Sl F w v xs) (hl : xs.length * 8 ≤ 140737488355328) :
    Calls Try.prog 34 #[v] w fun e w' => ∃ v', e = .returned (.tuple #[v', .int .i64 (encF xs).2]) ∧ Sl (Lt w.heap.size) w' v' (encF xs).1 ∧ Chg No w w' := by
  have Hr := Lib.hid (rright_any F v xs w hs hl)
  have Hs := Lib.hid (fun W (hW : Chg No w W) => hs.keepNo hW)
  obtain ⟨A, c, rfl⟩ := hs.slice
  clear hs
  cases hr : vright xs with
  | false =>
    rw [hr] at Hr
    have He := Lib.hid (show encF xs = ([], 30) by simp [encF, hr])
    clear hr
    go_enter Try.func34, Try.ntmps34
    go_wp2_with (first | (with_reducible refine stop_append ?_) | (with_reducible refine stop_copy ?_) | (with_reducible refine stop_make ?_) | (with_reducible refine stop_lookup ?_) | (with_reducible refine stop_update ?_) | (with_reducible refine stop_slice ?_) | (with_reducible refine stop_range ?_) | (with_reducible refine stop_next ?_) | (with_reducible refine stop_convert ⟨_, rfl⟩ ?_) | (with_reducible refine stop_convertB ⟨_, _, _, rfl⟩ ?_) | (with_reducible refine stop_eqSlice ⟨_, _, rfl⟩ ?_))
    refine Hr.out.mono ?_
    rintro e w1 ⟨rfl, hc1⟩
    go_wp2_with (first | (with_reducible refine stop_append ?_) | (with_reducible refine stop_copy ?_) | (with_reducible refine stop_make ?_) | (with_reducible refine stop_lookup ?_) | (with_reducible refine stop_update ?_) | (with_reducible refine stop_slice ?_) | (with_reducible refine stop_range ?_) | (with_reducible refine stop_next ?_) | (with_reducible refine stop_convert ⟨_, rfl⟩ ?_) | (with_reducible refine stop_convertB ⟨_, _, _, rfl⟩ ?_) | (with_reducible refine stop_eqSlice ⟨_, _, rfl⟩ ?_))
    go_ret2
    exact ⟨_, by rw [He.out]; rfl, by rw [He.out]; exact Sl.nil _ _ _ _, hc1⟩
  | true =>
    rw [hr] at Hr
    obtain ⟨h1, h8, hx⟩ := vright_iff.1 hr
    have He := Lib.hid (show encF xs = (encV xs, 0) by simp [encF, hr])
    have Hx := Lib.hid hx
    obtain ⟨S, hS⟩ : ∃ S : Nat → ByteArray, ∀ k, S k = ⟨(encs [(xs.length : Int)] ++ encs (xs.take k)).toArray⟩ := ⟨_, fun _ => rfl⟩
    have Hsz := Lib.hid (show ∀ k, k ≤ xs.length → (S k).size ≤ 90 from fun k hk => by
      have e1 := encs_len [(xs.length : Int)] (by simp; omega)
      have e2 := encs_len (xs.take k) (fun n hn => by have := hx n (List.mem_of_mem_take hn); omega)
      rw [hS, ba_size]
      simp only [List.length_append, List.length_singleton, List.length_take] at *
      omega)
    have Hstep := Lib.hid (show ∀ k (hk : k < xs.length) (s : ByteArray), s = ⟨(numS xs[k]).toArray⟩ → S k ++ s = S (k + 1) from fun k hk s h => by
      have := hx _ (List.getElem_mem hk)
      rw [h, hS, hS, ba_append, numS_enc this.1 (by omega), List.take_succ_eq_append_getElem hk, encs_append, encs_single xs[k], List.append_assoc])
    have Hs0 := Lib.hid (show str (numS xs.length) = .string (S 0) by
      rw [hS, numS_enc (by omega) (by omega), List.take_zero, encs_nil, List.append_nil, encs_single]; rfl)
    have Hend := Lib.hid (show (S xs.length).data.toList = encV xs by
      rw [hS, encV_eq, List.take_length, encs_single]; rfl)
    have Hnl := Lib.hid (show ∀ k (hk : k < xs.length), (⟨(numS xs[k]).toArray⟩ : ByteArray).size ≤ 9 from fun k hk => by
      have := hx _ (List.getElem_mem hk)
      rw [ba_size, numS_enc this.1 (by omega)]
      exact encNat_len9 _ (by omega))
    clear hr hx hS
    go_enter Try.func34, Try.ntmps34
    go_wp2_with (first | (with_reducible refine stop_append ?_) | (with_reducible refine stop_copy ?_) | (with_reducible refine stop_make ?_) | (with_reducible refine stop_lookup ?_) | (with_reducible refine stop_update ?_) | (with_reducible refine stop_slice ?_) | (with_reducible refine stop_range ?_) | (with_reducible refine stop_next ?_) | (with_reducible refine stop_convert ⟨_, rfl⟩ ?_) | (with_reducible refine stop_convertB ⟨_, _, _, rfl⟩ ?_) | (with_reducible refine stop_eqSlice ⟨_, _, rfl⟩ ?_))
    refine Hr.out.mono ?_
    rintro e w1 ⟨rfl, hc1⟩
    go_wp2_with (first | (with_reducible refine stop_append ?_) | (with_reducible refine stop_copy ?_) | (with_reducible refine stop_make ?_) | (with_reducible refine stop_lookup ?_) | (with_reducible refine stop_update ?_) | (with_reducible refine stop_slice ?_) | (with_reducible refine stop_range ?_) | (with_reducible refine stop_next ?_) | (with_reducible refine stop_convert ⟨_, rfl⟩ ?_) | (with_reducible refine stop_convertB ⟨_, _, _, rfl⟩ ?_) | (with_reducible refine stop_eqSlice ⟨_, _, rfl⟩ ?_))
    refine (refnum_any _ _).mono ?_
    rw [Hs0.out]
    rintro e w2 ⟨rfl, hc2⟩
    replace hc2 := hc1.trans hc2
    go_wp2_with (first | (with_reducible refine stop_append ?_) | (with_reducible refine stop_copy ?_) | (with_reducible refine stop_make ?_) | (with_reducible refine stop_lookup ?_) | (with_reducible refine stop_update ?_) | (with_reducible refine stop_slice ?_) | (with_reducible refine stop_range ?_) | (with_reducible refine stop_next ?_) | (with_reducible refine stop_convert ⟨_, rfl⟩ ?_) | (with_reducible refine stop_convertB ⟨_, _, _, rfl⟩ ?_) | (with_reducible refine stop_eqSlice ⟨_, _, rfl⟩ ?_))
    go_loopw [4, 5] (fun v4 v5 wr => ∃ k : Nat, k ≤ xs.length ∧ v5 = .int .i64 k ∧ v4 = .string (S k) ∧ Chg No w wr) (fun _ v5 _ => xs.length - (intOf v5).toNat)
    case atStart => exact ⟨0, by omega, rfl, rfl, hc2⟩
    case round =>
      obtain ⟨k, hk, rfl, rfl, hc⟩ := hrel
      have hsk := Hsz.out k hk
      by_cases hlt : k < xs.length
      · obtain ⟨b, o, d, e1, _, hbl, hx0⟩ := num_at (Hs.out wr hc) k hlt
        obtain ⟨rfl, -, -⟩ := Value.slice.inj e1
        rw [show xs.getD k 0 = xs[k] by simp [List.getD_eq_getElem?_getD, hlt]] at hx0
        have hst := Hstep.out k hlt
        have hnl := Hnl.out k hlt
        generalize xs[k] = x at *
        have Hst := Lib.hid hst
        clear hst
        go_wp2_with (first | (with_reducible refine stop_append ?_) | (with_reducible refine stop_copy ?_) | (with_reducible refine stop_make ?_) | (with_reducible refine stop_lookup ?_) | (with_reducible refine stop_update ?_) | (with_reducible refine stop_slice ?_) | (with_reducible refine stop_range ?_) | (with_reducible refine stop_next ?_) | (with_reducible refine stop_convert ⟨_, rfl⟩ ?_) | (with_reducible refine stop_convertB ⟨_, _, _, rfl⟩ ?_) | (with_reducible refine stop_eqSlice ⟨_, _, rfl⟩ ?_))
        refine (refnum_any _ _).mono ?_
        rintro e w3 ⟨rfl, hc3⟩
        simp only [str]
        obtain ⟨s8, hs8⟩ : ∃ s : ByteArray, s = ⟨(numS x).toArray⟩ := ⟨_, rfl⟩
        rw [← hs8] at hnl ⊢
        have Hadd := Lib.hid (Hst.out s8 hs8)
        clear hs8 Hst
        have hns : ¬ (9223372036854775807 < (S k).size + s8.size) := by omega
        go_wp2_with (first | (with_reducible refine stop_append ?_) | (with_reducible refine stop_copy ?_) | (with_reducible refine stop_make ?_) | (with_reducible refine stop_lookup ?_) | (with_reducible refine stop_update ?_) | (with_reducible refine stop_slice ?_) | (with_reducible refine stop_range ?_) | (with_reducible refine stop_next ?_) | (with_reducible refine stop_convert ⟨_, rfl⟩ ?_) | (with_reducible refine stop_convertB ⟨_, _, _, rfl⟩ ?_) | (with_reducible refine stop_eqSlice ⟨_, _, rfl⟩ ?_))
        go_roundw
        case rel => exact ⟨k + 1, by omega, by go_num, by rw [Hadd.out], hc.trans hc3⟩
        case measure => simp [intOf]; omega
      · obtain rfl : k = xs.length := by omega
        have hen := Hend
        generalize S xs.length = s at *
        go_wp2_with (first | (with_reducible refine stop_append ?_) | (with_reducible refine stop_copy ?_) | (with_reducible refine stop_make ?_) | (with_reducible refine stop_lookup ?_) | (with_reducible refine stop_update ?_) | (with_reducible refine stop_slice ?_) | (with_reducible refine stop_range ?_) | (with_reducible refine stop_next ?_) | (with_reducible refine stop_convert ⟨_, rfl⟩ ?_) | (with_reducible refine stop_convertB ⟨_, _, _, rfl⟩ ?_) | (with_reducible refine stop_eqSlice ⟨_, _, rfl⟩ ?_))
        refine step_conv_sb (Lt w.heap.size) Try.underlying9 Try.underlying36 Try.underlying5 rfl (by have := hc.size; simp only [Lt]; omega) ?_
        intro v9 w9 hs9 hc9
        rw [hen.out] at hs9
        have Hs9 := Lib.hid hs9
        clear hs9
        go_wp2_with (first | (with_reducible refine stop_append ?_) | (with_reducible refine stop_copy ?_) | (with_reducible refine stop_make ?_) | (with_reducible refine stop_lookup ?_) | (with_reducible refine stop_update ?_) | (with_reducible refine stop_slice ?_) | (with_reducible refine stop_range ?_) | (with_reducible refine stop_next ?_) | (with_reducible refine stop_convert ⟨_, rfl⟩ ?_) | (with_reducible refine stop_convertB ⟨_, _, _, rfl⟩ ?_) | (with_reducible refine stop_eqSlice ⟨_, _, rfl⟩ ?_))
        go_ret2
        exact ⟨_, by rw [He.out]; rfl, by rw [He.out]; exact Hs9.out, hc.trans hc9⟩
end Go.Proofs.Ytlpnbbjmcmjkpaa
