/- The statement ObjectSerial, walked. -/
import Derived.Test.YtnioljagmimojaaLawU
import Derived.Test.YtnioljagmimojaaLawM
set_option linter.unusedVariables false
set_option linter.unusedSimpArgs false
namespace Go.Proofs.Ytnioljagmimojaa
open Go.RowKit Cb

set_option maxRecDepth 100000 in
set_option maxHeartbeats 1000000 in
theorem serial_few (F : Nat → Prop) (v : Value) (xs : List ByteArray) (w : World) (h : Sl F w v xs) (hl : xs.length ≤ 140737488351232) (hb : ∀ x ∈ xs, x.size ≤ 140737488351232) (hn : fewB xs = false) :
    Calls Try.prog 8 #[v] w fun e w' => e = .returned (.bool true) ∧ Chg No w w' := by
  have hfew : ∀ W, Chg No w W → Calls Try.prog 22 #[v] W fun e w' => e = .returned (.bool false) ∧ Chg No W w' := fun W hW => by rw [← hn]; exact few_any F v xs W (h.keepNo hW) hl hb
  have H := Lib.hid hfew
  obtain ⟨A, c, rfl⟩ := h.slice
  clear hfew h
  go_enter Try.func8, Try.ntmps8
  go_wp2_with (first | (with_reducible refine stop_append ?_) | (with_reducible refine stop_copy ?_) | (with_reducible refine stop_make ?_) | (with_reducible refine stop_lookup ?_) | (with_reducible refine stop_update ?_) | (with_reducible refine stop_slice ?_) | (with_reducible refine stop_range ?_) | (with_reducible refine stop_next ?_) | (with_reducible refine stop_convert ⟨_, rfl⟩ ?_) | (with_reducible refine stop_convertB ⟨_, _, _, rfl⟩ ?_) | (with_reducible refine stop_eqSlice ⟨_, _, rfl⟩ ?_))
  refine (new_any _).mono ?_
  rintro e w1 ⟨p, rc, ri, rfl, h1, hc1, hge⟩
  clear h1 hge
  go_wp2_with (first | (with_reducible refine stop_append ?_) | (with_reducible refine stop_copy ?_) | (with_reducible refine stop_make ?_) | (with_reducible refine stop_lookup ?_) | (with_reducible refine stop_update ?_) | (with_reducible refine stop_slice ?_) | (with_reducible refine stop_range ?_) | (with_reducible refine stop_next ?_) | (with_reducible refine stop_convert ⟨_, rfl⟩ ?_) | (with_reducible refine stop_convertB ⟨_, _, _, rfl⟩ ?_) | (with_reducible refine stop_eqSlice ⟨_, _, rfl⟩ ?_))
  refine (new_any _).mono ?_
  rintro e w2 ⟨q, qc, qi, rfl, h2, hc2, hge⟩
  clear h2 hge
  have hc02 := hc1.trans hc2
  go_wp2_with (first | (with_reducible refine stop_append ?_) | (with_reducible refine stop_copy ?_) | (with_reducible refine stop_make ?_) | (with_reducible refine stop_lookup ?_) | (with_reducible refine stop_update ?_) | (with_reducible refine stop_slice ?_) | (with_reducible refine stop_range ?_) | (with_reducible refine stop_next ?_) | (with_reducible refine stop_convert ⟨_, rfl⟩ ?_) | (with_reducible refine stop_convertB ⟨_, _, _, rfl⟩ ?_) | (with_reducible refine stop_eqSlice ⟨_, _, rfl⟩ ?_))
  refine (H.out _ hc02).mono ?_
  rintro e w3 ⟨rfl, hc3⟩
  go_wp2_with (first | (with_reducible refine stop_append ?_) | (with_reducible refine stop_copy ?_) | (with_reducible refine stop_make ?_) | (with_reducible refine stop_lookup ?_) | (with_reducible refine stop_update ?_) | (with_reducible refine stop_slice ?_) | (with_reducible refine stop_range ?_) | (with_reducible refine stop_next ?_) | (with_reducible refine stop_convert ⟨_, rfl⟩ ?_) | (with_reducible refine stop_convertB ⟨_, _, _, rfl⟩ ?_) | (with_reducible refine stop_eqSlice ⟨_, _, rfl⟩ ?_))
  refine (alive_any _).mono ?_
  rintro e w4 ⟨rfl, hc4⟩
  have hcw := (hc02.trans hc3).trans hc4
  go_wp2_with (first | (with_reducible refine stop_append ?_) | (with_reducible refine stop_copy ?_) | (with_reducible refine stop_make ?_) | (with_reducible refine stop_lookup ?_) | (with_reducible refine stop_update ?_) | (with_reducible refine stop_slice ?_) | (with_reducible refine stop_range ?_) | (with_reducible refine stop_next ?_) | (with_reducible refine stop_convert ⟨_, rfl⟩ ?_) | (with_reducible refine stop_convertB ⟨_, _, _, rfl⟩ ?_) | (with_reducible refine stop_eqSlice ⟨_, _, rfl⟩ ?_))
  go_ret
  exact ⟨rfl, hcw⟩
set_option maxRecDepth 100000 in
set_option maxHeartbeats 4000000 in
theorem serial_main (F : Nat → Prop) (v : Value) (xs : List ByteArray) (w : World) (h : Sl F w v xs) (hfb : fewB xs = true) :
    Calls Try.prog 8 #[v] w fun e w' => e = .returned (.bool true) ∧ Chg No w w' := by
  obtain ⟨hx40, hxs⟩ := fewB_yes hfb
  have hfew : ∀ W, Chg No w W → Calls Try.prog 22 #[v] W fun e w' => e = .returned (.bool true) ∧ Chg No W w' := fun W hW => by
    rw [← hfb]; exact few_any F v xs W (h.keepNo hW) (by omega) (fun x hx => by have := sizes_mem hx; omega)
  have Hfew := Lib.hid hfew
  obtain ⟨A, c, rfl⟩ := h.slice
  have H := Lib.hid h
  clear hfew h hfb
  go_enter Try.func8, Try.ntmps8
  go_wp2_with (first | (with_reducible refine stop_append ?_) | (with_reducible refine stop_copy ?_) | (with_reducible refine stop_make ?_) | (with_reducible refine stop_lookup ?_) | (with_reducible refine stop_update ?_) | (with_reducible refine stop_slice ?_) | (with_reducible refine stop_range ?_) | (with_reducible refine stop_next ?_) | (with_reducible refine stop_convert ⟨_, rfl⟩ ?_) | (with_reducible refine stop_convertB ⟨_, _, _, rfl⟩ ?_) | (with_reducible refine stop_eqSlice ⟨_, _, rfl⟩ ?_))
  refine (new_any _).mono ?_
  rintro e w1 ⟨p, rc, ri, rfl, h1, hc1, hge1⟩
  have hlt1 := h1.lt
  have H1 := Lib.hid h1
  clear h1
  go_wp2_with (first | (with_reducible refine stop_append ?_) | (with_reducible refine stop_copy ?_) | (with_reducible refine stop_make ?_) | (with_reducible refine stop_lookup ?_) | (with_reducible refine stop_update ?_) | (with_reducible refine stop_slice ?_) | (with_reducible refine stop_range ?_) | (with_reducible refine stop_next ?_) | (with_reducible refine stop_convert ⟨_, rfl⟩ ?_) | (with_reducible refine stop_convertB ⟨_, _, _, rfl⟩ ?_) | (with_reducible refine stop_eqSlice ⟨_, _, rfl⟩ ?_))
  refine (new_any _).mono ?_
  rintro e w2 ⟨q, qc, qi, rfl, h2, hc2, hge2⟩
  have hc02 := hc1.trans hc2
  have hgeq : ∀ i, Sf q qc qi i → w.heap.size ≤ i := fun i hi => by have := hge2 i hi; have := hc1.size; omega
  have hdis : ∀ i, Sf p rc ri i → ¬ Sf q qc qi i := fun i hp hq => by have := hge2 i hq; have := hlt1 i hp; omega
  have hdis2 : ∀ i, Sf q qc qi i → ¬ Sf p rc ri i := fun i hq hp => hdis i hp hq
  have Hq := Lib.hid h2
  have Hp := Lib.hid (H1.out.keepNo hc2)
  clear h2 H1 hc1 hc2 hlt1 hge2
  go_wp2_with (first | (with_reducible refine stop_append ?_) | (with_reducible refine stop_copy ?_) | (with_reducible refine stop_make ?_) | (with_reducible refine stop_lookup ?_) | (with_reducible refine stop_update ?_) | (with_reducible refine stop_slice ?_) | (with_reducible refine stop_range ?_) | (with_reducible refine stop_next ?_) | (with_reducible refine stop_convert ⟨_, rfl⟩ ?_) | (with_reducible refine stop_convertB ⟨_, _, _, rfl⟩ ?_) | (with_reducible refine stop_eqSlice ⟨_, _, rfl⟩ ?_))
  refine (Hfew.out _ hc02).mono ?_
  rintro e w3 ⟨rfl, hc3⟩
  have hc03 := hc02.trans hc3
  have Hq3 := Lib.hid (Hq.out.keepNo hc3)
  have Hp3 := Lib.hid (Hp.out.keepNo hc3)
  clear hc02 hc3 Hq Hp
  go_wp2_with (first | (with_reducible refine stop_append ?_) | (with_reducible refine stop_copy ?_) | (with_reducible refine stop_make ?_) | (with_reducible refine stop_lookup ?_) | (with_reducible refine stop_update ?_) | (with_reducible refine stop_slice ?_) | (with_reducible refine stop_range ?_) | (with_reducible refine stop_next ?_) | (with_reducible refine stop_convert ⟨_, rfl⟩ ?_) | (with_reducible refine stop_convertB ⟨_, _, _, rfl⟩ ?_) | (with_reducible refine stop_eqSlice ⟨_, _, rfl⟩ ?_))
  go_loopw [46] (fun v46 wr => ∃ (k : Nat), k ≤ xs.length ∧ v46 = .int .i64 k ∧ Sto wr p rc ri (addAll s0 (xs.take k)) ∧ Sto wr q qc qi s0 ∧ Chg No w wr) (fun v46 _ => xs.length - (intOf v46).toNat)
  case atStart => exact ⟨0, by omega, rfl, Hp3.out, Hq3.out, hc03⟩
  case round =>
    obtain ⟨k, hk, rfl, hs, hq, hc⟩ := hrel
    clear Hp3 Hq3 hc03
    have Hs := Lib.hid hs; have Hq := Lib.hid hq; clear hs hq
    by_cases hlt : k < xs.length
    · obtain ⟨b, o, d, rfl, _, hbl, rfl, ha⟩ := (H.out.keepNo hc).get k hlt
      have ha0 := ha 0 _ rfl
      simp only [show Rep.n ByteArray = 1 from rfl, Nat.mul_one, Nat.add_zero] at ha0
      have hbd := (addAll_bd xs k hk).le (C := 1000000000) (by omega)
      have hsz := sizes_mem (List.getElem_mem hlt)
      have Hsn := Lib.hid (addAll_snoc s0 xs k hlt)
      have Hbd := Lib.hid hbd
      clear ha hbd
      generalize xs[k] = x at ha0 Hsn hsz
      generalize addAll s0 (xs.take k) = s at Hs Hsn Hbd
      go_wp2_with (first | (with_reducible refine stop_append ?_) | (with_reducible refine stop_copy ?_) | (with_reducible refine stop_make ?_) | (with_reducible refine stop_lookup ?_) | (with_reducible refine stop_update ?_) | (with_reducible refine stop_slice ?_) | (with_reducible refine stop_range ?_) | (with_reducible refine stop_next ?_) | (with_reducible refine stop_convert ⟨_, rfl⟩ ?_) | (with_reducible refine stop_convertB ⟨_, _, _, rfl⟩ ?_) | (with_reducible refine stop_eqSlice ⟨_, _, rfl⟩ ?_))
      refine (add_any p rc ri s x _ Hs.out (by omega) Hbd.out).mono ?_
      rintro e w4 ⟨rfl, hs4, hc4⟩
      have hc04 := hc.old hc4 hge1
      rw [← Hsn.out] at hs4
      have Hs4 := Lib.hid hs4
      have Hq4 := Lib.hid (Hq.out.keep hc4 (fun i hi => hdis2 i hi))
      clear hs4 hc4
      go_wp2_with (first | (with_reducible refine stop_append ?_) | (with_reducible refine stop_copy ?_) | (with_reducible refine stop_make ?_) | (with_reducible refine stop_lookup ?_) | (with_reducible refine stop_update ?_) | (with_reducible refine stop_slice ?_) | (with_reducible refine stop_range ?_) | (with_reducible refine stop_next ?_) | (with_reducible refine stop_convert ⟨_, rfl⟩ ?_) | (with_reducible refine stop_convertB ⟨_, _, _, rfl⟩ ?_) | (with_reducible refine stop_eqSlice ⟨_, _, rfl⟩ ?_))
      go_roundw
      case rel => exact ⟨k + 1, by omega, by go_num, Hs4.out, Hq4.out, hc04⟩
      case measure => simp [intOf]; omega
    · obtain rfl : k = xs.length := by omega
      have hks := (KS.all xs xs.length (Nat.le_refl _)).le (M := 1000) (by omega)
      have hs := Hs.out
      rw [List.take_length] at hs hks
      have Hp := Lib.hid hs; have Hks := Lib.hid hks
      clear Hs hs hks hlt
      obtain ⟨wB, rfl⟩ : ∃ wB : World, wB = wr := ⟨_, rfl⟩
      have hFp := Hp.out.lt
      have hFq := Hq.out.lt
      have hwB := hc.size
      go_wp2_with (first | (with_reducible refine stop_append ?_) | (with_reducible refine stop_copy ?_) | (with_reducible refine stop_make ?_) | (with_reducible refine stop_lookup ?_) | (with_reducible refine stop_update ?_) | (with_reducible refine stop_slice ?_) | (with_reducible refine stop_range ?_) | (with_reducible refine stop_next ?_) | (with_reducible refine stop_convert ⟨_, rfl⟩ ?_) | (with_reducible refine stop_convertB ⟨_, _, _, rfl⟩ ?_) | (with_reducible refine stop_eqSlice ⟨_, _, rfl⟩ ?_))
      go_loopw [7, 56] (fun v7 v56 wr => ∃ (k : Nat) (met : List Int) (v : Value) (t : Store), k ≤ xs.length ∧ v56 = .int .i64 k ∧ v7 = v ∧ SI xs k t met ∧ Sto wr p rc ri (addAll s0 xs) ∧ Sto wr q qc qi t ∧ Own No wr wB.heap.size 3 v met ∧ Chg No w wr ∧ wB.heap.size ≤ wr.heap.size) (fun _ v56 _ => xs.length - (intOf v56).toNat)
      case atStart => exact ⟨0, [], _, s0, by omega, rfl, rfl, SI.start xs, Hp.out, Hq.out, Own.nil _ _ _ _, hc, Nat.le_refl _⟩
      case round =>
        obtain ⟨k, met, vm, t, hk, rfl, rfl, hI, hp, hq, hown, hcm, hszB⟩ := hrel
        clear Hp Hq hc
        have HI := Lib.hid hI; have Hp := Lib.hid hp; have Hq := Lib.hid hq; have Hown := Lib.hid hown
        clear hI hp hq hown
        by_cases hlt : k < xs.length
        · obtain ⟨b, o, d, rfl, _, hbl, rfl, ha⟩ := (H.out.keepNo hcm).get k hlt
          have ha0 := ha 0 _ rfl
          simp only [show Rep.n ByteArray = 1 from rfl, Nat.mul_one, Nat.add_zero] at ha0
          have hsz := sizes_mem (List.getElem_mem hlt)
          clear ha
          obtain ⟨x, hx⟩ : ∃ x, x = xs[k] := ⟨_, rfl⟩
          rw [← hx] at ha0 hsz
          have Hx := Lib.hid hx
          clear hx
          go_wp2_with (first | (with_reducible refine stop_append ?_) | (with_reducible refine stop_copy ?_) | (with_reducible refine stop_make ?_) | (with_reducible refine stop_lookup ?_) | (with_reducible refine stop_update ?_) | (with_reducible refine stop_slice ?_) | (with_reducible refine stop_range ?_) | (with_reducible refine stop_next ?_) | (with_reducible refine stop_convert ⟨_, rfl⟩ ?_) | (with_reducible refine stop_convertB ⟨_, _, _, rfl⟩ ?_) | (with_reducible refine stop_eqSlice ⟨_, _, rfl⟩ ?_))
          refine (parse_any x wr (by omega)).mono ?_
          rintro e w4 (⟨id, rs, ws, vr, vw, hP, rfl, hc4, hs1, hs2⟩ | ⟨hP, rfl, hc4⟩)
          · obtain ⟨Ar, cr, rfl⟩ := hs1.slice
            obtain ⟨Aw, cw, rfl⟩ := hs2.slice
            have hP' : parseR xs[k].data.toList = some (id, rs, ws) := by rw [← Hx.out]; exact hP
            obtain ⟨bo, hbo⟩ := outcome_some hlt hP'
            have HP := Lib.hid hP'; have Hbo := Lib.hid hbo
            clear hP hP' hbo hs1 hs2
            have o10 := alloc_obj w4 (.cells #[.int .i64 id, .slice Ar rs.length cr, .slice Aw ws.length cw] 33)
            have c45 := (Chg.refl No w4).alloc (.cells #[.int .i64 id, .slice Ar rs.length cr, .slice Aw ws.length cw] 33)
            have z0 := cell_obj (i := 0) o10 rfl
            go_wp2_with (first | (with_reducible refine stop_append ?_) | (with_reducible refine stop_copy ?_) | (with_reducible refine stop_make ?_) | (with_reducible refine stop_lookup ?_) | (with_reducible refine stop_update ?_) | (with_reducible refine stop_slice ?_) | (with_reducible refine stop_range ?_) | (with_reducible refine stop_next ?_) | (with_reducible refine stop_convert ⟨_, rfl⟩ ?_) | (with_reducible refine stop_convertB ⟨_, _, _, rfl⟩ ?_) | (with_reducible refine stop_eqSlice ⟨_, _, rfl⟩ ?_))
            have hcr5 := hc4.trans c45
            have hq10 : wr.heap.size ≤ w4.heap.size := hc4.size
            have hobr : ∀ i, OB u7 i → i < wr.heap.size := fun i hi => (Hown.out.lt i hi).2
            generalize w4.alloc (.cells #[.int .i64 id, .slice Ar rs.length cr, .slice Aw ws.length cw] 33) = w5 at *
            generalize w4.heap.size = q10 at *
            have hc05 := hcm.trans hcr5
            have Hp5 := Lib.hid (Hp.out.keepNo hcr5)
            have Hq5 := Lib.hid (Hq.out.keepNo hcr5)
            have Hown5 := Lib.hid (Hown.out.keepFlat hcr5 (fun _ _ f => f))
            have hsz5 : wB.heap.size ≤ w5.heap.size := by have := hcr5.size; omega
            clear Hp Hq Hown hc4 c45 hcr5
            refine (outcome_any p rc ri _ id w5 Hp5.out).mono ?_
            rintro e w5' ⟨rfl, rfl⟩
            rw [Hbo.out]
            simp only [Option.getD_some, Option.isSome_some]
            cases bo
            · have hI' := HI.out.no hlt HP.out (.inl Hbo.out)
              have HI' := Lib.hid hI'
              clear hI'
              go_wp2_with (first | (with_reducible refine stop_append ?_) | (with_reducible refine stop_copy ?_) | (with_reducible refine stop_make ?_) | (with_reducible refine stop_lookup ?_) | (with_reducible refine stop_update ?_) | (with_reducible refine stop_slice ?_) | (with_reducible refine stop_range ?_) | (with_reducible refine stop_next ?_) | (with_reducible refine stop_convert ⟨_, rfl⟩ ?_) | (with_reducible refine stop_convertB ⟨_, _, _, rfl⟩ ?_) | (with_reducible refine stop_eqSlice ⟨_, _, rfl⟩ ?_))
              go_roundw
              case rel => exact ⟨k + 1, met, _, t, by omega, by go_num, rfl, HI'.out, Hp5.out, Hq5.out, Hown5.out, hc05, hsz5⟩
              case measure => simp [intOf]; omega
            · have hhas := has_any No _ met id w5 (Hown5.out.slFlat (fun _ _ => not_no _)) (by have := HI.out.len; omega)
              by_cases hm : id ∈ met
              · rw [decide_eq_true hm] at hhas
                have Hh := Lib.hid hhas
                have hI' := HI.out.no hlt HP.out (.inr hm)
                have HI' := Lib.hid hI'
                clear hI' hhas hm
                go_wp2_with (first | (with_reducible refine stop_append ?_) | (with_reducible refine stop_copy ?_) | (with_reducible refine stop_make ?_) | (with_reducible refine stop_lookup ?_) | (with_reducible refine stop_update ?_) | (with_reducible refine stop_slice ?_) | (with_reducible refine stop_range ?_) | (with_reducible refine stop_next ?_) | (with_reducible refine stop_convert ⟨_, rfl⟩ ?_) | (with_reducible refine stop_convertB ⟨_, _, _, rfl⟩ ?_) | (with_reducible refine stop_eqSlice ⟨_, _, rfl⟩ ?_))
                refine Hh.out.mono ?_
                rintro e w6 ⟨rfl, hc6⟩
                have hc06 := hc05.trans hc6
                have hsz6 := hc6.size
                go_wp2_with (first | (with_reducible refine stop_append ?_) | (with_reducible refine stop_copy ?_) | (with_reducible refine stop_make ?_) | (with_reducible refine stop_lookup ?_) | (with_reducible refine stop_update ?_) | (with_reducible refine stop_slice ?_) | (with_reducible refine stop_range ?_) | (with_reducible refine stop_next ?_) | (with_reducible refine stop_convert ⟨_, rfl⟩ ?_) | (with_reducible refine stop_convertB ⟨_, _, _, rfl⟩ ?_) | (with_reducible refine stop_eqSlice ⟨_, _, rfl⟩ ?_))
                go_roundw
                case rel => exact ⟨k + 1, met, _, t, by omega, by go_num, rfl, HI'.out, Hp5.out.keepNo hc6, Hq5.out.keepNo hc6, Hown5.out.keepFlat hc6 (fun _ _ f => f), hc06, by omega⟩
                case measure => simp [intOf]; omega
              · rw [decide_eq_false hm] at hhas
                have Hh := Lib.hid hhas
                have hml := HI.out.len
                have hbd := (HI.out.bd hk).le (C := 1000000000) (by omega)
                have hI' := HI.out.yes hlt HP.out Hbo.out hm
                rw [← Hx.out] at hI'
                have HI' := Lib.hid hI'; have Hbd := Lib.hid hbd
                clear hI' hhas hm hbd
                go_wp2_with (first | (with_reducible refine stop_append ?_) | (with_reducible refine stop_copy ?_) | (with_reducible refine stop_make ?_) | (with_reducible refine stop_lookup ?_) | (with_reducible refine stop_update ?_) | (with_reducible refine stop_slice ?_) | (with_reducible refine stop_range ?_) | (with_reducible refine stop_next ?_) | (with_reducible refine stop_convert ⟨_, rfl⟩ ?_) | (with_reducible refine stop_convertB ⟨_, _, _, rfl⟩ ?_) | (with_reducible refine stop_eqSlice ⟨_, _, rfl⟩ ?_))
                refine Hh.out.mono ?_
                rintro e w6 ⟨rfl, hc6⟩
                have z06 := hc6.cell z0 (not_no _)
                have hown6 := Hown5.out.keepFlat hc6 (fun _ _ f => f)
                have Hp6 := Lib.hid (Hp5.out.keepNo hc6)
                have Hq6 := Lib.hid (Hq5.out.keepNo hc6)
                have hc06 := hc05.trans hc6
                have hsz6 := hc6.size
                clear Hp5 Hq5 hc05
                go_wp2_with (first | (with_reducible refine stop_append ?_) | (with_reducible refine stop_copy ?_) | (with_reducible refine stop_make ?_) | (with_reducible refine stop_lookup ?_) | (with_reducible refine stop_update ?_) | (with_reducible refine stop_slice ?_) | (with_reducible refine stop_range ?_) | (with_reducible refine stop_next ?_) | (with_reducible refine stop_convert ⟨_, rfl⟩ ?_) | (with_reducible refine stop_convertB ⟨_, _, _, rfl⟩ ?_) | (with_reducible refine stop_eqSlice ⟨_, _, rfl⟩ ?_))
                have hown7 := hown6.alloc (.cells #[.int .i64 id] 3)
                refine step_append_flat (α := Int) (ys := [id]) Try.underlying50 info_int rfl hown7 rfl rfl (Sl.lit1 (F := No) (y := id) rfl rfl (not_no _)) (by simp; omega) (by simp; omega) (by simp; omega) ?_
                intro v7 w7 hown8 hg7
                have hA7 := (Chg.refl No w6).alloc (.cells #[.int .i64 id] 3)
                have hob : ∀ i, OB u7 i → wB.heap.size ≤ i ∧ i < w6.heap.size := fun i hi => hown6.lt i hi
                have hc67 : Chg (OB u7) w6 w7 := hA7.of_no.trans hg7.chg
                have Hown8 := Lib.hid hown8
                have Hp7 := Lib.hid (Hp6.out.keep hc67 (fun i hi hb => by have := (hob i hb).1; have := hFp i hi; omega))
                have Hq7 := Lib.hid (Hq6.out.keep hc67 (fun i hi hb => by have := (hob i hb).1; have := hFq i hi; omega))
                have hc07 := hc06.old hc67 (fun i hi => by have := (hob i hi).1; omega)
                have hq10' : ¬ OB u7 q10 := fun hb => by have := hobr q10 hb; omega
                have z07 := hc67.cell z06 hq10'
                have hsz7 := hc67.size
                clear hown8 hown7 hown6 hg7 hA7
                go_wp2_with (first | (with_reducible refine stop_append ?_) | (with_reducible refine stop_copy ?_) | (with_reducible refine stop_make ?_) | (with_reducible refine stop_lookup ?_) | (with_reducible refine stop_update ?_) | (with_reducible refine stop_slice ?_) | (with_reducible refine stop_range ?_) | (with_reducible refine stop_next ?_) | (with_reducible refine stop_convert ⟨_, rfl⟩ ?_) | (with_reducible refine stop_convertB ⟨_, _, _, rfl⟩ ?_) | (with_reducible refine stop_eqSlice ⟨_, _, rfl⟩ ?_))
                refine (add_any q qc qi t x w7 Hq7.out (by omega) Hbd.out).mono ?_
                rintro e w8 ⟨rfl, hs8, hc8⟩
                have Hq8 := Lib.hid hs8
                have Hp8 := Lib.hid (Hp7.out.keep hc8 (fun i hi => hdis i hi))
                have hc08 := hc07.old hc8 hgeq
                have z08 := hc8.cell z07 (fun hb => by have := hFq _ hb; simp only at this; omega)
                have hsz8 := hc8.size
                have Hown9 := Lib.hid (Hown8.out.keepFlat hc8 (fun i hi hb => by have := (Hown8.out.lt i hi).1; have := hFq i hb; omega))
                clear hs8 hc8
                go_wp2_with (first | (with_reducible refine stop_append ?_) | (with_reducible refine stop_copy ?_) | (with_reducible refine stop_make ?_) | (with_reducible refine stop_lookup ?_) | (with_reducible refine stop_update ?_) | (with_reducible refine stop_slice ?_) | (with_reducible refine stop_range ?_) | (with_reducible refine stop_next ?_) | (with_reducible refine stop_convert ⟨_, rfl⟩ ?_) | (with_reducible refine stop_convertB ⟨_, _, _, rfl⟩ ?_) | (with_reducible refine stop_eqSlice ⟨_, _, rfl⟩ ?_))
                refine (outcome_any q qc qi _ id w8 Hq8.out).mono ?_
                rintro e w8' ⟨rfl, rfl⟩
                rw [HI'.out.2]
                simp only [Option.getD_some, Option.isSome_some]
                go_wp2_with (first | (with_reducible refine stop_append ?_) | (with_reducible refine stop_copy ?_) | (with_reducible refine stop_make ?_) | (with_reducible refine stop_lookup ?_) | (with_reducible refine stop_update ?_) | (with_reducible refine stop_slice ?_) | (with_reducible refine stop_range ?_) | (with_reducible refine stop_next ?_) | (with_reducible refine stop_convert ⟨_, rfl⟩ ?_) | (with_reducible refine stop_convertB ⟨_, _, _, rfl⟩ ?_) | (with_reducible refine stop_eqSlice ⟨_, _, rfl⟩ ?_))
                go_roundw
                case rel => exact ⟨k + 1, met ++ [id], _, _, by omega, by go_num, rfl, HI'.out.1, Hp8.out, Hq8.out, Hown9.out, hc08, by omega⟩
                case measure => simp [intOf]; omega
          · have hP' : parseR xs[k].data.toList = none := by rw [← Hx.out]; exact hP
            have hI' := HI.out.unread hlt hP'
            have HI' := Lib.hid hI'
            clear hP hP' hI'
            have o10 := alloc_obj w4 (.cells #[.int .i64 0, .slice none 0 0, .slice none 0 0] 33)
            have c45 := (Chg.refl No w4).alloc (.cells #[.int .i64 0, .slice none 0 0, .slice none 0 0] 33)
            have z0 := cell_obj (i := 0) o10 rfl
            go_wp2_with (first | (with_reducible refine stop_append ?_) | (with_reducible refine stop_copy ?_) | (with_reducible refine stop_make ?_) | (with_reducible refine stop_lookup ?_) | (with_reducible refine stop_update ?_) | (with_reducible refine stop_slice ?_) | (with_reducible refine stop_range ?_) | (with_reducible refine stop_next ?_) | (with_reducible refine stop_convert ⟨_, rfl⟩ ?_) | (with_reducible refine stop_convertB ⟨_, _, _, rfl⟩ ?_) | (with_reducible refine stop_eqSlice ⟨_, _, rfl⟩ ?_))
            generalize w4.alloc (.cells #[.int .i64 0, .slice none 0 0, .slice none 0 0] 33) = w5 at *
            have hcr5 := hc4.trans c45
            have hc05 := hcm.trans hcr5
            have Hp5 := Lib.hid (Hp.out.keepNo hcr5)
            have hsz5 := hcr5.size
            refine (outcome_any p rc ri _ 0 w5 Hp5.out).mono ?_
            rintro e w5' ⟨rfl, rfl⟩
            generalize (mget (addAll s0 xs).ids 0).getD false = g1
            generalize (mget (addAll s0 xs).ids 0).isSome = g2
            go_wp2_with (first | (with_reducible refine stop_append ?_) | (with_reducible refine stop_copy ?_) | (with_reducible refine stop_make ?_) | (with_reducible refine stop_lookup ?_) | (with_reducible refine stop_update ?_) | (with_reducible refine stop_slice ?_) | (with_reducible refine stop_range ?_) | (with_reducible refine stop_next ?_) | (with_reducible refine stop_convert ⟨_, rfl⟩ ?_) | (with_reducible refine stop_convertB ⟨_, _, _, rfl⟩ ?_) | (with_reducible refine stop_eqSlice ⟨_, _, rfl⟩ ?_))
            go_roundw
            case rel => exact ⟨k + 1, met, _, t, by omega, by go_num, rfl, HI'.out, Hp5.out, Hq.out.keepNo hcr5, Hown.out.keepFlat hcr5 (fun _ _ f => f), hc05, by omega⟩
            case measure => simp [intOf]; omega
        · obtain rfl : k = xs.length := by omega
          have hcs := HI.out.cs
          have hnn := HI.out.n
          rw [List.take_length] at hcs hnn
          have hfs : fieldsS t = fieldsS (addAll s0 xs) := by unfold fieldsS; rw [hcs]
          have hval : ∀ f, valS t f = valS (addAll s0 xs) f := fun f => by unfold valS; rw [hcs]
          have hver : ∀ f, verS t f = verS (addAll s0 xs) f := fun f => by unfold verS; rw [hcs]
          have hkt : KS 1000 t := by have := Hks.out; exact ⟨by rw [hcs]; exact this.nodup, by rw [hcs]; exact this.rng, by rw [hcs]; exact this.len⟩
          generalize addAll s0 xs = s at *
          have hfl : (fieldsS s).length ≤ 1000000 := by have := fieldsS_len s; have := Hks.out.len; omega
          have dp := fun W h => done_any p rc ri s W h
          have dq := fun W h => done_any q qc qi t W h
          rw [hnn] at dq
          have Hfs := Lib.hid hfs; have Hval := Lib.hid hval; have Hver := Lib.hid hver; have Hkt := Lib.hid hkt; have Hfl := Lib.hid hfl; have Dp := Lib.hid dp; have Dq := Lib.hid dq
          clear hcs hnn hfs hval hver hkt hfl dp dq HI Hown hk hlt
          generalize s.n = nn at *
          go_wp2_with (first | (with_reducible refine stop_append ?_) | (with_reducible refine stop_copy ?_) | (with_reducible refine stop_make ?_) | (with_reducible refine stop_lookup ?_) | (with_reducible refine stop_update ?_) | (with_reducible refine stop_slice ?_) | (with_reducible refine stop_range ?_) | (with_reducible refine stop_next ?_) | (with_reducible refine stop_convert ⟨_, rfl⟩ ?_) | (with_reducible refine stop_convertB ⟨_, _, _, rfl⟩ ?_) | (with_reducible refine stop_eqSlice ⟨_, _, rfl⟩ ?_))
          refine (fields_any p rc ri s wr Hp.out Hks.out (by omega)).mono ?_
          rintro e w4 ⟨u1, rfl, hc4, hu1⟩
          have Hq4 := Lib.hid (Hq.out.keepNo hc4)
          go_wp2_with (first | (with_reducible refine stop_append ?_) | (with_reducible refine stop_copy ?_) | (with_reducible refine stop_make ?_) | (with_reducible refine stop_lookup ?_) | (with_reducible refine stop_update ?_) | (with_reducible refine stop_slice ?_) | (with_reducible refine stop_range ?_) | (with_reducible refine stop_next ?_) | (with_reducible refine stop_convert ⟨_, rfl⟩ ?_) | (with_reducible refine stop_convertB ⟨_, _, _, rfl⟩ ?_) | (with_reducible refine stop_eqSlice ⟨_, _, rfl⟩ ?_))
          refine (fields_any q qc qi t w4 Hq4.out Hkt.out (by omega)).mono ?_
          rw [Hfs.out]
          rintro e w5 ⟨u2, rfl, hc5, hu2⟩
          go_wp2_with (first | (with_reducible refine stop_append ?_) | (with_reducible refine stop_copy ?_) | (with_reducible refine stop_make ?_) | (with_reducible refine stop_lookup ?_) | (with_reducible refine stop_update ?_) | (with_reducible refine stop_slice ?_) | (with_reducible refine stop_range ?_) | (with_reducible refine stop_next ?_) | (with_reducible refine stop_convert ⟨_, rfl⟩ ?_) | (with_reducible refine stop_convertB ⟨_, _, _, rfl⟩ ?_) | (with_reducible refine stop_eqSlice ⟨_, _, rfl⟩ ?_))
          refine (equal_any _ _ u1 u2 _ _ w5 (hu1.keepNo hc5) hu2 Hfl.out Hfl.out).mono ?_
          rintro e w6 ⟨rfl, hc6⟩
          rw [decide_eq_true (rfl : fieldsS s = fieldsS s)]
          have hc46 := (hc4.trans hc5).trans hc6
          have Hp6 := Lib.hid (Hp.out.keepNo hc46)
          have Hq6 := Lib.hid (Hq.out.keepNo hc46)
          have hc06 := hcm.trans hc46
          clear Hp Hq Hq4 hu1 hu2 hc4 hc5 hc6 hc46 hcm
          go_wp2_with (first | (with_reducible refine stop_append ?_) | (with_reducible refine stop_copy ?_) | (with_reducible refine stop_make ?_) | (with_reducible refine stop_lookup ?_) | (with_reducible refine stop_update ?_) | (with_reducible refine stop_slice ?_) | (with_reducible refine stop_range ?_) | (with_reducible refine stop_next ?_) | (with_reducible refine stop_convert ⟨_, rfl⟩ ?_) | (with_reducible refine stop_convertB ⟨_, _, _, rfl⟩ ?_) | (with_reducible refine stop_eqSlice ⟨_, _, rfl⟩ ?_))
          refine (Dp.out w6 Hp6.out).mono ?_
          rintro e w7 ⟨rfl, rfl⟩
          go_wp2_with (first | (with_reducible refine stop_append ?_) | (with_reducible refine stop_copy ?_) | (with_reducible refine stop_make ?_) | (with_reducible refine stop_lookup ?_) | (with_reducible refine stop_update ?_) | (with_reducible refine stop_slice ?_) | (with_reducible refine stop_range ?_) | (with_reducible refine stop_next ?_) | (with_reducible refine stop_convert ⟨_, rfl⟩ ?_) | (with_reducible refine stop_convertB ⟨_, _, _, rfl⟩ ?_) | (with_reducible refine stop_eqSlice ⟨_, _, rfl⟩ ?_))
          refine (Dq.out w6 Hq6.out).mono ?_
          rintro e w8 ⟨rfl, rfl⟩
          go_wp2_with (first | (with_reducible refine stop_append ?_) | (with_reducible refine stop_copy ?_) | (with_reducible refine stop_make ?_) | (with_reducible refine stop_lookup ?_) | (with_reducible refine stop_update ?_) | (with_reducible refine stop_slice ?_) | (with_reducible refine stop_range ?_) | (with_reducible refine stop_next ?_) | (with_reducible refine stop_convert ⟨_, rfl⟩ ?_) | (with_reducible refine stop_convertB ⟨_, _, _, rfl⟩ ?_) | (with_reducible refine stop_eqSlice ⟨_, _, rfl⟩ ?_))
          refine (fields_any p rc ri s w6 Hp6.out Hks.out (by omega)).mono ?_
          rintro e w7 ⟨u3, rfl, hc7, hu3⟩
          obtain ⟨A3, c3, rfl⟩ := hu3.slice
          have Hp7 := Lib.hid (Hp6.out.keepNo hc7)
          have Hq7 := Lib.hid (Hq6.out.keepNo hc7)
          have hc07 := hc06.trans hc7
          have Hu3 := Lib.hid hu3
          have hfl := Hfl.out
          clear Hp6 Hq6 hc06 hc7 hu3
          obtain ⟨L, hL⟩ : ∃ L, L = fieldsS s := ⟨_, rfl⟩
          rw [← hL] at Hu3 hfl ⊢
          clear hL Hfl Hfs
          go_wp2_with (first | (with_reducible refine stop_append ?_) | (with_reducible refine stop_copy ?_) | (with_reducible refine stop_make ?_) | (with_reducible refine stop_lookup ?_) | (with_reducible refine stop_update ?_) | (with_reducible refine stop_slice ?_) | (with_reducible refine stop_range ?_) | (with_reducible refine stop_next ?_) | (with_reducible refine stop_convert ⟨_, rfl⟩ ?_) | (with_reducible refine stop_convertB ⟨_, _, _, rfl⟩ ?_) | (with_reducible refine stop_eqSlice ⟨_, _, rfl⟩ ?_))
          go_loopw [126] (fun v126 wr => ∃ k : Nat, k ≤ L.length ∧ v126 = .int .i64 k ∧ Chg No w7 wr) (fun v126 _ => L.length - (intOf v126).toNat)
          case atStart => exact ⟨0, by omega, rfl, Chg.refl _ _⟩
          case round =>
            obtain ⟨k, hk, rfl, hcz⟩ := hrel
            by_cases hlt : k < L.length
            · obtain ⟨b, o, d, rfl, _, hbl, rfl, ha⟩ := (Hu3.out.keepNo hcz).get k hlt
              have ha0 := ha 0 _ rfl
              simp only [show Rep.n Int = 1 from rfl, Nat.mul_one, Nat.add_zero] at ha0
              clear ha
              generalize L[k] = f at ha0
              have gp : ∀ W, Sto W p rc ri s → Calls Try.prog 25 #[.pointer (some ⟨p, 0, none⟩), .int .i64 f] W fun e w' => e = .returned (.tuple #[.string (valS s f), .int .i64 (verS s f)]) ∧ Chg No W w' := fun W hW => get_any p rc ri s f W hW
              have gq : ∀ W, Sto W q qc qi t → Calls Try.prog 25 #[.pointer (some ⟨q, 0, none⟩), .int .i64 f] W fun e w' => e = .returned (.tuple #[.string (valS s f), .int .i64 (verS s f)]) ∧ Chg No W w' := fun W hW => by
                have := get_any q qc qi t f W hW
                rw [Hval.out, Hver.out] at this
                exact this
              generalize valS s f = vx at gp gq
              generalize verS s f = vn at gp gq
              have Gp := Lib.hid gp; have Gq := Lib.hid gq
              clear gp gq
              have Hpz := Lib.hid (Hp7.out.keepNo hcz)
              have Hqz := Lib.hid (Hq7.out.keepNo hcz)
              go_wp2_with (first | (with_reducible refine stop_append ?_) | (with_reducible refine stop_copy ?_) | (with_reducible refine stop_make ?_) | (with_reducible refine stop_lookup ?_) | (with_reducible refine stop_update ?_) | (with_reducible refine stop_slice ?_) | (with_reducible refine stop_range ?_) | (with_reducible refine stop_next ?_) | (with_reducible refine stop_convert ⟨_, rfl⟩ ?_) | (with_reducible refine stop_convertB ⟨_, _, _, rfl⟩ ?_) | (with_reducible refine stop_eqSlice ⟨_, _, rfl⟩ ?_))
              refine (Gp.out wr Hpz.out).mono ?_
              rintro e w8 ⟨rfl, hc8⟩
              have Hqy := Lib.hid (Hqz.out.keepNo hc8)
              go_wp2_with (first | (with_reducible refine stop_append ?_) | (with_reducible refine stop_copy ?_) | (with_reducible refine stop_make ?_) | (with_reducible refine stop_lookup ?_) | (with_reducible refine stop_update ?_) | (with_reducible refine stop_slice ?_) | (with_reducible refine stop_range ?_) | (with_reducible refine stop_next ?_) | (with_reducible refine stop_convert ⟨_, rfl⟩ ?_) | (with_reducible refine stop_convertB ⟨_, _, _, rfl⟩ ?_) | (with_reducible refine stop_eqSlice ⟨_, _, rfl⟩ ?_))
              refine (Gq.out w8 Hqy.out).mono ?_
              rintro e w9 ⟨rfl, hc9⟩
              have hcv := (hcz.trans hc8).trans hc9
              go_wp2_with (first | (with_reducible refine stop_append ?_) | (with_reducible refine stop_copy ?_) | (with_reducible refine stop_make ?_) | (with_reducible refine stop_lookup ?_) | (with_reducible refine stop_update ?_) | (with_reducible refine stop_slice ?_) | (with_reducible refine stop_range ?_) | (with_reducible refine stop_next ?_) | (with_reducible refine stop_convert ⟨_, rfl⟩ ?_) | (with_reducible refine stop_convertB ⟨_, _, _, rfl⟩ ?_) | (with_reducible refine stop_eqSlice ⟨_, _, rfl⟩ ?_))
              go_roundw
              case rel => exact ⟨k + 1, by omega, by go_num, hcv⟩
              case measure => simp [intOf]; omega
            · obtain rfl : k = L.length := by omega
              have hcf := hc07.trans hcz
              go_wp2_with (first | (with_reducible refine stop_append ?_) | (with_reducible refine stop_copy ?_) | (with_reducible refine stop_make ?_) | (with_reducible refine stop_lookup ?_) | (with_reducible refine stop_update ?_) | (with_reducible refine stop_slice ?_) | (with_reducible refine stop_range ?_) | (with_reducible refine stop_next ?_) | (with_reducible refine stop_convert ⟨_, rfl⟩ ?_) | (with_reducible refine stop_convertB ⟨_, _, _, rfl⟩ ?_) | (with_reducible refine stop_eqSlice ⟨_, _, rfl⟩ ?_))
              refine (alive_any _).mono ?_
              rintro e w8 ⟨rfl, hc8⟩
              have hcg := hcf.trans hc8
              go_wp2_with (first | (with_reducible refine stop_append ?_) | (with_reducible refine stop_copy ?_) | (with_reducible refine stop_make ?_) | (with_reducible refine stop_lookup ?_) | (with_reducible refine stop_update ?_) | (with_reducible refine stop_slice ?_) | (with_reducible refine stop_range ?_) | (with_reducible refine stop_next ?_) | (with_reducible refine stop_convert ⟨_, rfl⟩ ?_) | (with_reducible refine stop_convertB ⟨_, _, _, rfl⟩ ?_) | (with_reducible refine stop_eqSlice ⟨_, _, rfl⟩ ?_))
              go_ret
              exact ⟨rfl, hcg⟩
end Go.Proofs.Ytnioljagmimojaa
