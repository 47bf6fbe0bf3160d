/- Walks of package vector: Decode; in plain words. -/
import Derived.Test.YtlpnbbjmcmjkpaaVecE
import Derived.Test.YtlpnbbjmcmjkpaaPackL
set_option linter.unusedVariables false
set_option linter.unusedSimpArgs false
namespace Go.Proofs.Ytlpnbbjmcmjkpaa
open Go.RowKit Cb

def decP (bs : List UInt8) : List Int × Int :=
  let a := rdP 8 (bs, 0)
  let r := readK (rdP 1099511627776) a.2 a.1.toNat
  if endR r.2.1 r.2.2 = 0 ∧ vright r.1 = true then (r.1, 0) else ([], 30)
theorem encV_eq (xs : List Int) : encV xs = encNat xs.length ++ encs xs := by simp [encV, encs]
theorem endR_zero {bs : List UInt8} {e : Int} : endR bs e = 0 ↔ e = 0 ∧ bs = [] := by
  unfold endR
  split
  · rename_i h; constructor
    · intro h'; omega
    · rintro ⟨_, rfl⟩; exact absurd rfl h.2
  · rename_i h; constructor
    · intro h'; exact ⟨h', by
        by_cases hb : bs = []
        · exact hb
        · exact absurd ⟨h', hb⟩ h⟩
    · rintro ⟨h', _⟩; exact h'
theorem decP_enc {v : List Int} (h : vright v = true) : decP (encV v) = (v, 0) := by
  obtain ⟨h1, h8, hx⟩ := vright_iff.1 h
  obtain ⟨a1, a2, a3⟩ := (rdP_ok 8 (by omega)).enc (encV v, 0) (v.length : Int) (encs v) rfl (by rw [encV_eq]; simp) (by omega) (by omega)
  obtain ⟨b1, b2, b3⟩ := (rdP_ok 1099511627776 (by omega)).row_enc (rdP 8 (encV v, 0)).2 v [] a2 (by rw [a3]; simp) hx v.length (Nat.le_refl _)
  unfold decP
  simp only
  rw [a1, Int.toNat_natCast]
  rw [List.take_length] at b1
  rw [b1, if_pos ⟨endR_zero.2 ⟨b2, by simpa [encs] using b3⟩, h⟩]
theorem decP_inv {bs : List UInt8} {v : List Int} (h : decP bs = (v, 0)) : vright v = true ∧ bs = encV v := by
  unfold decP at h
  simp only at h
  split at h
  · rename_i hc
    simp only [Prod.mk.injEq, and_true] at h
    obtain ⟨c1, c2⟩ := hc
    obtain ⟨e1, e2⟩ := endR_zero.1 c1
    obtain ⟨i1, i2, _⟩ := (rdP_ok 1099511627776 (by omega)).row_inv (rdP 8 (bs, 0)).2 _ e1
    obtain ⟨_, j2, j3, _⟩ := (rdP_ok 8 (by omega)).inv (bs, 0) i1
    rw [h] at i2 c2
    have hl := readK_len (rdP 1099511627776) (rdP 8 (bs, 0)).2 (rdP 8 (bs, 0)).1.toNat
    rw [h] at hl
    refine ⟨c2, ?_⟩
    rw [encV_eq, hl]
    simp only at j2 i2
    rw [i2, e2, List.append_nil] at j2
    exact j2
  · simp at h
theorem decP_cases (bs : List UInt8) : (∃ v, decP bs = (v, 0)) ∨ decP bs = ([], 30) := by
  unfold decP
  simp only
  split
  · exact .inl ⟨_, rfl⟩
  · exact .inr rfl
set_option maxRecDepth 100000 in
set_option maxHeartbeats 1000000 in
theorem vdecode_any (F : Nat → Prop) (v : Value) (bs : List UInt8) (w : World) (hs : Sl F w v bs) (hl : bs.length ≤ 140737488351232) :
    Calls Try.prog 35 #[v] w fun e w' => ∃ v', e = .returned (.tuple #[v', .int .i64 (decP bs).2]) ∧ Sl (Lt w.heap.size) w' v' (decP bs).1 ∧ Chg No w w' := by
  have Hn := Lib.hid (newreader_any F v bs w hs hl)
  obtain ⟨A, c, rfl⟩ := hs.slice
  clear hs
  obtain ⟨n, hn⟩ : ∃ n : Nat, (rdP 8 (bs, 0)).1 = n := ⟨(rdP 8 (bs, 0)).1.toNat, by have := numR_nonneg 8 bs 0; simp only [rdP]; omega⟩
  have hn8 : n ≤ 8 := by
    have : (numR 8 bs 0).1 ≤ 8 := by
      obtain ⟨v, b, e, hx⟩ : ∃ v b e, numR 8 bs 0 = (v, b, e) := ⟨_, _, _, rfl⟩
      rw [hx]
      by_cases he : e = 0
      · subst he
        exact (numR_inv hx).2.2.2.1
      · have := numR_err8 hx he
        simp only; omega
    simp only [rdP] at hn
    omega
  have Hdec := Lib.hid (show decP bs = if endR (readK (rdP 1099511627776) (rdP 8 (bs, 0)).2 n).2.1 (readK (rdP 1099511627776) (rdP 8 (bs, 0)).2 n).2.2 = 0 ∧ vright (readK (rdP 1099511627776) (rdP 8 (bs, 0)).2 n).1 = true then ((readK (rdP 1099511627776) (rdP 8 (bs, 0)).2 n).1, 0) else ([], 30) by
    unfold decP; simp only [hn, Int.toNat_natCast])
  have Hnum := Lib.hid (fun p W (h : Rdr W p bs 0) => rnum_all p bs 0 8 W h (by omega) (by omega))
  have hrd : rdP 8 (bs, 0) = (((numR 8 bs 0).1, ((numR 8 bs 0).2.1, (numR 8 bs 0).2.2)) : Int × (List UInt8 × Int)) := rfl
  have hn' : (numR 8 bs 0).1 = n := hn
  rw [hn'] at Hnum
  obtain ⟨s0, hs0⟩ : ∃ s0 : List UInt8 × Int, s0 = (rdP 8 (bs, 0)).2 := ⟨_, rfl⟩
  have hs1 : s0 = ((numR 8 bs 0).2.1, (numR 8 bs 0).2.2) := hs0
  rw [← hs0] at Hdec
  have Hst := Lib.hid (show ∀ w p, Rdr w p (numR 8 bs 0).2.1 (numR 8 bs 0).2.2 → Rdr w p (readK (rdP 1099511627776) s0 0).2.1 (readK (rdP 1099511627776) s0 0).2.2 from fun w p h => by rw [hs1]; exact h)
  have Hlen := Lib.hid (readK_len (rdP 1099511627776) s0)
  clear hn hrd hn' hs0 hs1
  go_enter Try.func35, Try.ntmps35
  go_wp2_with (first | (with_reducible refine stop_append ?_) | (with_reducible refine stop_copy ?_) | (with_reducible refine stop_make ?_) | (with_reducible refine stop_lookup ?_) | (with_reducible refine stop_update ?_) | (with_reducible refine stop_slice ?_) | (with_reducible refine stop_range ?_) | (with_reducible refine stop_next ?_) | (with_reducible refine stop_convert ⟨_, rfl⟩ ?_) | (with_reducible refine stop_convertB ⟨_, _, _, rfl⟩ ?_) | (with_reducible refine stop_eqSlice ⟨_, _, rfl⟩ ?_))
  refine Hn.out.mono ?_
  rintro e w1 ⟨p, rfl, hr1, hc1, hp⟩
  have Hr1 := Lib.hid (Hnum.out p w1 hr1)
  have hpl : p < w1.heap.size := by obtain ⟨_, _, _, ho⟩ := hr1; exact lt_of_heap ho
  clear hr1
  go_wp2_with (first | (with_reducible refine stop_append ?_) | (with_reducible refine stop_copy ?_) | (with_reducible refine stop_make ?_) | (with_reducible refine stop_lookup ?_) | (with_reducible refine stop_update ?_) | (with_reducible refine stop_slice ?_) | (with_reducible refine stop_range ?_) | (with_reducible refine stop_next ?_) | (with_reducible refine stop_convert ⟨_, rfl⟩ ?_) | (with_reducible refine stop_convertB ⟨_, _, _, rfl⟩ ?_) | (with_reducible refine stop_eqSlice ⟨_, _, rfl⟩ ?_))
  refine Hr1.out.mono ?_
  rintro e w2 ⟨rfl, hr2, hc2⟩
  have hr2' := Hst.out w2 p hr2
  have hpl2 : p < w2.heap.size := by have := hc2.size; omega
  have hcw2 : Chg No w w2 := hc1.old hc2 (fun i h => by simp only [At] at h; omega)
  have Hr2 := Lib.hid hr2'
  clear hr2 hr2'
  go_wp2_with (first | (with_reducible refine stop_append ?_) | (with_reducible refine stop_copy ?_) | (with_reducible refine stop_make ?_) | (with_reducible refine stop_lookup ?_) | (with_reducible refine stop_update ?_) | (with_reducible refine stop_slice ?_) | (with_reducible refine stop_range ?_) | (with_reducible refine stop_next ?_) | (with_reducible refine stop_convert ⟨_, rfl⟩ ?_) | (with_reducible refine stop_convertB ⟨_, _, _, rfl⟩ ?_) | (with_reducible refine stop_eqSlice ⟨_, _, rfl⟩ ?_))
  go_loopw [5, 10] (fun v5 v10 wr => ∃ k : Nat, k ≤ n ∧ v10 = .int .i64 k ∧ Chg No w wr ∧ w2.heap.size ≤ wr.heap.size ∧ Rdr wr p (readK (rdP 1099511627776) s0 k).2.1 (readK (rdP 1099511627776) s0 k).2.2 ∧ Own No wr w2.heap.size 3 v5 (readK (rdP 1099511627776) s0 k).1) (fun _ v10 _ => n - (intOf v10).toNat)
  case atStart => exact ⟨0, by omega, rfl, hcw2, Nat.le_refl _, Hr2.out, Own.nil _ _ _ _⟩
  case round =>
    clear Hr2
    obtain ⟨k, hk, rfl, hc, hsz, hrd, hown⟩ := hrel
    have Hrd := Lib.hid hrd
    have Hown := Lib.hid hown
    obtain ⟨A5, c5, e5⟩ := hown.slice
    rw [Hlen.out] at e5
    subst e5
    clear hrd hown
    by_cases hlt : k < n
    · have Hcall := Lib.hid (rnum_all p _ _ 1099511627776 wr Hrd.out (by omega) (by omega))
      have Hsn := Lib.hid (show (readK (rdP 1099511627776) s0 (k + 1)) = ((readK (rdP 1099511627776) s0 k).1 ++ [(numR 1099511627776 (readK (rdP 1099511627776) s0 k).2.1 (readK (rdP 1099511627776) s0 k).2.2).1], ((numR 1099511627776 (readK (rdP 1099511627776) s0 k).2.1 (readK (rdP 1099511627776) s0 k).2.2).2.1, (numR 1099511627776 (readK (rdP 1099511627776) s0 k).2.1 (readK (rdP 1099511627776) s0 k).2.2).2.2)) from rfl)
      have hlen := Hlen.out k
      generalize numR 1099511627776 (readK (rdP 1099511627776) s0 k).2.1 (readK (rdP 1099511627776) s0 k).2.2 = z at *
      obtain ⟨x, b', e'⟩ := z
      simp only at Hcall Hsn
      generalize readK (rdP 1099511627776) s0 k = r at *
      have Hlk := Lib.hid hlen
      clear hlen
      go_wp2_with (first | (with_reducible refine stop_append ?_) | (with_reducible refine stop_copy ?_) | (with_reducible refine stop_make ?_) | (with_reducible refine stop_lookup ?_) | (with_reducible refine stop_update ?_) | (with_reducible refine stop_slice ?_) | (with_reducible refine stop_range ?_) | (with_reducible refine stop_next ?_) | (with_reducible refine stop_convert ⟨_, rfl⟩ ?_) | (with_reducible refine stop_convertB ⟨_, _, _, rfl⟩ ?_) | (with_reducible refine stop_eqSlice ⟨_, _, rfl⟩ ?_))
      refine Hcall.out.mono ?_
      rintro e w3 ⟨rfl, hr3, hc3⟩
      have hown3 := Hown.out.keepFlat hc3 (fun i hi h => by have := (Hown.out.lt i hi).1; simp only [At] at h; omega)
      have hcw3 : Chg No w w3 := hc.old hc3 (fun i h => by simp only [At] at h; omega)
      have Hr3 := Lib.hid hr3
      clear hr3
      go_wp2_with (first | (with_reducible refine stop_append ?_) | (with_reducible refine stop_copy ?_) | (with_reducible refine stop_make ?_) | (with_reducible refine stop_lookup ?_) | (with_reducible refine stop_update ?_) | (with_reducible refine stop_slice ?_) | (with_reducible refine stop_range ?_) | (with_reducible refine stop_next ?_) | (with_reducible refine stop_convert ⟨_, rfl⟩ ?_) | (with_reducible refine stop_convertB ⟨_, _, _, rfl⟩ ?_) | (with_reducible refine stop_eqSlice ⟨_, _, rfl⟩ ?_))
      have hcA := (Chg.refl No w3).alloc (.cells #[.int .i64 x] 3)
      refine step_append_flat (α := Int) (ys := [x]) Try.underlying24 vinfo_int rfl (hown3.alloc (.cells #[.int .i64 x] 3)) rfl rfl (Sl.lit1 (F := No) (y := x) rfl rfl (not_no _)) (by rw [Hlk.out]; simp; omega) (by rw [Hlk.out]; simp; omega) (by have := hc3.size; simp; omega) ?_
      intro v6 w6 hown6 hg6
      have hob : ∀ i, OB (.slice A5 k c5) i → w2.heap.size ≤ i := fun i hi => (Hown.out.lt i hi).1
      have hr6 := (Hr3.out.keep (F := No) hcA (fun _ _ f => f.elim) (not_no _)).keep hg6.chg (fun i _ h => by have := hob i h; omega) (fun h => by have := hob _ h; omega)
      have hc6 : Chg No w w6 := (hcw3.trans hcA).grew hg6 (fun i hi => .inr (by have := hob i hi; have := hcw2.size; omega))
      have hsz6 : w2.heap.size ≤ w6.heap.size := by have := hc3.size; have := hcA.size; have := hg6.by_.size; omega
      have Hr6 := Lib.hid hr6
      have Hown6 := Lib.hid hown6
      clear hown6 hg6 hr6 hown3
      go_wp2_with (first | (with_reducible refine stop_append ?_) | (with_reducible refine stop_copy ?_) | (with_reducible refine stop_make ?_) | (with_reducible refine stop_lookup ?_) | (with_reducible refine stop_update ?_) | (with_reducible refine stop_slice ?_) | (with_reducible refine stop_range ?_) | (with_reducible refine stop_next ?_) | (with_reducible refine stop_convert ⟨_, rfl⟩ ?_) | (with_reducible refine stop_convertB ⟨_, _, _, rfl⟩ ?_) | (with_reducible refine stop_eqSlice ⟨_, _, rfl⟩ ?_))
      go_roundw
      case rel => exact ⟨k + 1, by omega, by go_num, hc6, hsz6, by rw [Hsn.out]; exact Hr6.out, by rw [Hsn.out]; exact Hown6.out⟩
      case measure => simp [intOf]; omega
    · obtain rfl : k = n := by omega
      have hlen := Hlen.out k
      have Hlk := Lib.hid hlen
      clear hlen Hlen
      generalize readK (rdP 1099511627776) s0 k = r at *
      obtain ⟨vs, b', e'⟩ := r
      simp only at *
      have Hend := Lib.hid (end_any p b' e' wr Hrd.out)
      have Hsl := Lib.hid (Hown.out.slFlat (G := Lt w.heap.size) (fun i hi h => by have := (Hown.out.lt i hi).1; have := hcw2.size; simp only [Lt] at h; omega))
      by_cases he : endR b' e' = 0
      · rw [he] at Hend Hdec
        have Hr := Lib.hid (vright_any _ _ vs wr Hsl.out (by rw [Hlk.out]; omega))
        cases hv : vright vs with
        | true =>
          rw [hv] at Hr Hdec
          rw [if_pos ⟨rfl, rfl⟩] at Hdec
          clear he hv
          go_wp2_with (first | (with_reducible refine stop_append ?_) | (with_reducible refine stop_copy ?_) | (with_reducible refine stop_make ?_) | (with_reducible refine stop_lookup ?_) | (with_reducible refine stop_update ?_) | (with_reducible refine stop_slice ?_) | (with_reducible refine stop_range ?_) | (with_reducible refine stop_next ?_) | (with_reducible refine stop_convert ⟨_, rfl⟩ ?_) | (with_reducible refine stop_convertB ⟨_, _, _, rfl⟩ ?_) | (with_reducible refine stop_eqSlice ⟨_, _, rfl⟩ ?_))
          refine Hend.out.mono ?_
          rintro e w3 ⟨rfl, rfl⟩
          go_wp2_with (first | (with_reducible refine stop_append ?_) | (with_reducible refine stop_copy ?_) | (with_reducible refine stop_make ?_) | (with_reducible refine stop_lookup ?_) | (with_reducible refine stop_update ?_) | (with_reducible refine stop_slice ?_) | (with_reducible refine stop_range ?_) | (with_reducible refine stop_next ?_) | (with_reducible refine stop_convert ⟨_, rfl⟩ ?_) | (with_reducible refine stop_convertB ⟨_, _, _, rfl⟩ ?_) | (with_reducible refine stop_eqSlice ⟨_, _, rfl⟩ ?_))
          refine Hr.out.mono ?_
          rintro e w4 ⟨rfl, hc4⟩
          go_wp2_with (first | (with_reducible refine stop_append ?_) | (with_reducible refine stop_copy ?_) | (with_reducible refine stop_make ?_) | (with_reducible refine stop_lookup ?_) | (with_reducible refine stop_update ?_) | (with_reducible refine stop_slice ?_) | (with_reducible refine stop_range ?_) | (with_reducible refine stop_next ?_) | (with_reducible refine stop_convert ⟨_, rfl⟩ ?_) | (with_reducible refine stop_convertB ⟨_, _, _, rfl⟩ ?_) | (with_reducible refine stop_eqSlice ⟨_, _, rfl⟩ ?_))
          go_ret2
          rw [Hdec.out]
          exact ⟨_, rfl, Hsl.out.keepNo hc4, hc.trans hc4⟩
        | false =>
          rw [hv] at Hr Hdec
          rw [if_neg (by simp)] at Hdec
          clear he hv
          go_wp2_with (first | (with_reducible refine stop_append ?_) | (with_reducible refine stop_copy ?_) | (with_reducible refine stop_make ?_) | (with_reducible refine stop_lookup ?_) | (with_reducible refine stop_update ?_) | (with_reducible refine stop_slice ?_) | (with_reducible refine stop_range ?_) | (with_reducible refine stop_next ?_) | (with_reducible refine stop_convert ⟨_, rfl⟩ ?_) | (with_reducible refine stop_convertB ⟨_, _, _, rfl⟩ ?_) | (with_reducible refine stop_eqSlice ⟨_, _, rfl⟩ ?_))
          refine Hend.out.mono ?_
          rintro e w3 ⟨rfl, rfl⟩
          go_wp2_with (first | (with_reducible refine stop_append ?_) | (with_reducible refine stop_copy ?_) | (with_reducible refine stop_make ?_) | (with_reducible refine stop_lookup ?_) | (with_reducible refine stop_update ?_) | (with_reducible refine stop_slice ?_) | (with_reducible refine stop_range ?_) | (with_reducible refine stop_next ?_) | (with_reducible refine stop_convert ⟨_, rfl⟩ ?_) | (with_reducible refine stop_convertB ⟨_, _, _, rfl⟩ ?_) | (with_reducible refine stop_eqSlice ⟨_, _, rfl⟩ ?_))
          refine Hr.out.mono ?_
          rintro e w4 ⟨rfl, hc4⟩
          go_wp2_with (first | (with_reducible refine stop_append ?_) | (with_reducible refine stop_copy ?_) | (with_reducible refine stop_make ?_) | (with_reducible refine stop_lookup ?_) | (with_reducible refine stop_update ?_) | (with_reducible refine stop_slice ?_) | (with_reducible refine stop_range ?_) | (with_reducible refine stop_next ?_) | (with_reducible refine stop_convert ⟨_, rfl⟩ ?_) | (with_reducible refine stop_convertB ⟨_, _, _, rfl⟩ ?_) | (with_reducible refine stop_eqSlice ⟨_, _, rfl⟩ ?_))
          go_ret2
          rw [Hdec.out]
          exact ⟨_, rfl, Sl.nil _ _ _ _, hc.trans hc4⟩
      · rw [if_neg (fun h => he h.1)] at Hdec
        generalize endR b' e' = z at *
        have he2 : (z != 0) = true := by simpa using he
        have he3 : (z == 0) = false := by simpa using he
        clear he
        go_wp2_with (first | (with_reducible refine stop_append ?_) | (with_reducible refine stop_copy ?_) | (with_reducible refine stop_make ?_) | (with_reducible refine stop_lookup ?_) | (with_reducible refine stop_update ?_) | (with_reducible refine stop_slice ?_) | (with_reducible refine stop_range ?_) | (with_reducible refine stop_next ?_) | (with_reducible refine stop_convert ⟨_, rfl⟩ ?_) | (with_reducible refine stop_convertB ⟨_, _, _, rfl⟩ ?_) | (with_reducible refine stop_eqSlice ⟨_, _, rfl⟩ ?_))
        refine Hend.out.mono ?_
        rintro e w3 ⟨rfl, rfl⟩
        go_wp2_with (first | (with_reducible refine stop_append ?_) | (with_reducible refine stop_copy ?_) | (with_reducible refine stop_make ?_) | (with_reducible refine stop_lookup ?_) | (with_reducible refine stop_update ?_) | (with_reducible refine stop_slice ?_) | (with_reducible refine stop_range ?_) | (with_reducible refine stop_next ?_) | (with_reducible refine stop_convert ⟨_, rfl⟩ ?_) | (with_reducible refine stop_convertB ⟨_, _, _, rfl⟩ ?_) | (with_reducible refine stop_eqSlice ⟨_, _, rfl⟩ ?_))
        go_ret2
        rw [Hdec.out]
        exact ⟨_, rfl, Sl.nil _ _ _ _, hc⟩
end Go.Proofs.Ytlpnbbjmcmjkpaa
