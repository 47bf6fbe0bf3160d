/- The statements ObjectTwice and ObjectBlind, walked. -/
import Derived.Test.YtnioljagmimojaaObjK
import Derived.Test.YtnioljagmimojaaLawL
import Derived.Test.YtnioljagmimojaaRefE
set_option linter.unusedVariables false
set_option linter.unusedSimpArgs false
namespace Go.Proofs.Ytnioljagmimojaa
open Go.RowKit Cb

theorem came_addS {s : Store} {t : Tx} {id : Int} (h : (mget s.ids id).isSome = true) : (mget (addS s t).1.ids id).isSome = true := by
  unfold addS
  split
  · exact h
  · split
    · show (mget (mset s.ids t.1 false) id).isSome = true
      rw [mget_mset]; split
      · rfl
      · exact h
    · show (mget (mset s.ids t.1 true) id).isSome = true
      rw [mget_mset]; split
      · rfl
      · exact h
theorem came_self (s : Store) (t : Tx) : (mget (addS s t).1.ids t.1).isSome = true := by
  unfold addS
  split
  · assumption
  · split
    · show (mget (mset s.ids t.1 false) t.1).isSome = true
      rw [mget_mset, if_pos rfl]; rfl
    · show (mget (mset s.ids t.1 true) t.1).isSome = true
      rw [mget_mset, if_pos rfl]; rfl
theorem came_addD {s : Store} {d : ByteArray} {id : Int} (h : (mget s.ids id).isSome = true) : (mget (addD s d).1.ids id).isSome = true := by
  unfold addD
  split
  · exact h
  · exact came_addS h
theorem came_all {xs : List ByteArray} : ∀ {s : Store} {id : Int}, (mget s.ids id).isSome = true → (mget (addAll s xs).ids id).isSome = true := by
  induction xs with
  | nil => intro s id h; exact h
  | cons x r ih => intro s id h; exact ih (came_addD h)
theorem came_in {xs : List ByteArray} : ∀ {s : Store} {d : ByteArray} {t : Tx}, d ∈ xs → parseR d.data.toList = some t → (mget (addAll s xs).ids t.1).isSome = true := by
  induction xs with
  | nil => intro s d t h; simp at h
  | cons x r ih =>
    intro s d t h hp
    rcases List.mem_cons.1 h with rfl | h
    · refine came_all (xs := r) (s := (addD s d).1) ?_
      unfold addD; rw [hp]; exact came_self s t
    · exact ih (s := (addD s x).1) h hp
theorem addD_again {xs : List ByteArray} {d : ByteArray} (s : Store) (h : d ∈ xs) : addD (addAll s xs) d = (addAll s xs, false) := by
  unfold addD
  cases hp : parseR d.data.toList with
  | none => rfl
  | some t =>
    show addS (addAll s xs) t = _
    unfold addS; rw [if_pos (came_in h hp)]
set_option maxRecDepth 100000 in
set_option maxHeartbeats 1000000 in
theorem twice_few (F : Nat → Prop) (v : Value) (xs : List ByteArray) (w : World) (h : Sl F w v xs) (hl : xs.length ≤ 140737488351232) (hb : ∀ x ∈ xs, x.size ≤ 140737488351232) (hn : fewB xs = false) :
    Calls Try.prog 9 #[v] w fun e w' => e = .returned (.bool true) ∧ Chg No w w' := by
  have hfew : ∀ W, Chg No w W → Calls Try.prog 22 #[v] W fun e w' => e = .returned (.bool false) ∧ Chg No W w' := fun W hW => by rw [← hn]; exact few_any F v xs W (h.keepNo hW) hl hb
  have H := Lib.hid hfew
  obtain ⟨A, c, rfl⟩ := h.slice
  clear hfew h
  go_enter Try.func9, Try.ntmps9
  go_wp2_with (first | (with_reducible refine stop_append ?_) | (with_reducible refine stop_copy ?_) | (with_reducible refine stop_make ?_) | (with_reducible refine stop_lookup ?_) | (with_reducible refine stop_update ?_) | (with_reducible refine stop_slice ?_) | (with_reducible refine stop_range ?_) | (with_reducible refine stop_next ?_) | (with_reducible refine stop_convert ⟨_, rfl⟩ ?_) | (with_reducible refine stop_convertB ⟨_, _, _, rfl⟩ ?_) | (with_reducible refine stop_eqSlice ⟨_, _, rfl⟩ ?_))
  refine (new_any _).mono ?_
  rintro e w1 ⟨p, rc, ri, rfl, h1, hc1, hge⟩
  clear h1 hge
  go_wp2_with (first | (with_reducible refine stop_append ?_) | (with_reducible refine stop_copy ?_) | (with_reducible refine stop_make ?_) | (with_reducible refine stop_lookup ?_) | (with_reducible refine stop_update ?_) | (with_reducible refine stop_slice ?_) | (with_reducible refine stop_range ?_) | (with_reducible refine stop_next ?_) | (with_reducible refine stop_convert ⟨_, rfl⟩ ?_) | (with_reducible refine stop_convertB ⟨_, _, _, rfl⟩ ?_) | (with_reducible refine stop_eqSlice ⟨_, _, rfl⟩ ?_))
  refine (H.out _ hc1).mono ?_
  rintro e w2 ⟨rfl, hc2⟩
  go_wp2_with (first | (with_reducible refine stop_append ?_) | (with_reducible refine stop_copy ?_) | (with_reducible refine stop_make ?_) | (with_reducible refine stop_lookup ?_) | (with_reducible refine stop_update ?_) | (with_reducible refine stop_slice ?_) | (with_reducible refine stop_range ?_) | (with_reducible refine stop_next ?_) | (with_reducible refine stop_convert ⟨_, rfl⟩ ?_) | (with_reducible refine stop_convertB ⟨_, _, _, rfl⟩ ?_) | (with_reducible refine stop_eqSlice ⟨_, _, rfl⟩ ?_))
  refine (alive_any _).mono ?_
  rintro e w3 ⟨rfl, hc3⟩
  have hcw := (hc1.trans hc2).trans hc3
  go_wp2_with (first | (with_reducible refine stop_append ?_) | (with_reducible refine stop_copy ?_) | (with_reducible refine stop_make ?_) | (with_reducible refine stop_lookup ?_) | (with_reducible refine stop_update ?_) | (with_reducible refine stop_slice ?_) | (with_reducible refine stop_range ?_) | (with_reducible refine stop_next ?_) | (with_reducible refine stop_convert ⟨_, rfl⟩ ?_) | (with_reducible refine stop_convertB ⟨_, _, _, rfl⟩ ?_) | (with_reducible refine stop_eqSlice ⟨_, _, rfl⟩ ?_))
  go_ret
  exact ⟨rfl, hcw⟩
set_option maxRecDepth 100000 in
set_option maxHeartbeats 2000000 in
theorem twice_main (F : Nat → Prop) (v : Value) (xs : List ByteArray) (w : World) (h : Sl F w v xs) (hfb : fewB xs = true) :
    Calls Try.prog 9 #[v] w fun e w' => e = .returned (.bool true) ∧ Chg No w w' := by
  obtain ⟨hx40, hxs⟩ := fewB_yes hfb
  have hfew : ∀ W, Chg No w W → Calls Try.prog 22 #[v] W fun e w' => e = .returned (.bool true) ∧ Chg No W w' := fun W hW => by
    rw [← hfb]; exact few_any F v xs W (h.keepNo hW) (by omega) (fun x hx => by have := sizes_mem hx; omega)
  have Hfew := Lib.hid hfew
  obtain ⟨A, c, rfl⟩ := h.slice
  have H := Lib.hid h
  clear hfew h hfb
  go_enter Try.func9, Try.ntmps9
  go_wp2_with (first | (with_reducible refine stop_append ?_) | (with_reducible refine stop_copy ?_) | (with_reducible refine stop_make ?_) | (with_reducible refine stop_lookup ?_) | (with_reducible refine stop_update ?_) | (with_reducible refine stop_slice ?_) | (with_reducible refine stop_range ?_) | (with_reducible refine stop_next ?_) | (with_reducible refine stop_convert ⟨_, rfl⟩ ?_) | (with_reducible refine stop_convertB ⟨_, _, _, rfl⟩ ?_) | (with_reducible refine stop_eqSlice ⟨_, _, rfl⟩ ?_))
  refine (new_any _).mono ?_
  rintro e w1 ⟨p, rc, ri, rfl, h1, hc1, hge⟩
  have H1 := Lib.hid h1
  clear h1
  go_wp2_with (first | (with_reducible refine stop_append ?_) | (with_reducible refine stop_copy ?_) | (with_reducible refine stop_make ?_) | (with_reducible refine stop_lookup ?_) | (with_reducible refine stop_update ?_) | (with_reducible refine stop_slice ?_) | (with_reducible refine stop_range ?_) | (with_reducible refine stop_next ?_) | (with_reducible refine stop_convert ⟨_, rfl⟩ ?_) | (with_reducible refine stop_convertB ⟨_, _, _, rfl⟩ ?_) | (with_reducible refine stop_eqSlice ⟨_, _, rfl⟩ ?_))
  refine (Hfew.out _ hc1).mono ?_
  rintro e w2 ⟨rfl, hc2⟩
  have hc02 := hc1.trans hc2
  have H2 := Lib.hid (H1.out.keepNo hc2)
  clear hc1 hc2 H1
  go_wp2_with (first | (with_reducible refine stop_append ?_) | (with_reducible refine stop_copy ?_) | (with_reducible refine stop_make ?_) | (with_reducible refine stop_lookup ?_) | (with_reducible refine stop_update ?_) | (with_reducible refine stop_slice ?_) | (with_reducible refine stop_range ?_) | (with_reducible refine stop_next ?_) | (with_reducible refine stop_convert ⟨_, rfl⟩ ?_) | (with_reducible refine stop_convertB ⟨_, _, _, rfl⟩ ?_) | (with_reducible refine stop_eqSlice ⟨_, _, rfl⟩ ?_))
  go_loopw [25] (fun v25 wr => ∃ (k : Nat), k ≤ xs.length ∧ v25 = .int .i64 k ∧ Sto wr p rc ri (addAll s0 (xs.take k)) ∧ Chg No w wr) (fun v25 _ => xs.length - (intOf v25).toNat)
  case atStart => exact ⟨0, by omega, rfl, H2.out, hc02⟩
  case round =>
    obtain ⟨k, hk, rfl, hs, hc⟩ := hrel
    clear H2 hc02
    have Hs := Lib.hid hs; clear hs
    by_cases hlt : k < xs.length
    · obtain ⟨b, o, d, rfl, _, hbl, rfl, ha⟩ := (H.out.keepNo hc).get k hlt
      have ha0 := ha 0 _ rfl
      simp only [show Rep.n ByteArray = 1 from rfl, Nat.mul_one, Nat.add_zero] at ha0
      have hbd := (addAll_bd xs k hk).le (C := 1000000000) (by omega)
      have hsz := sizes_mem (List.getElem_mem hlt)
      have Hsn := Lib.hid (addAll_snoc s0 xs k hlt)
      have Hbd := Lib.hid hbd
      clear ha hbd
      generalize xs[k] = x at ha0 Hsn hsz
      generalize addAll s0 (xs.take k) = s at Hs Hsn Hbd
      go_wp2_with (first | (with_reducible refine stop_append ?_) | (with_reducible refine stop_copy ?_) | (with_reducible refine stop_make ?_) | (with_reducible refine stop_lookup ?_) | (with_reducible refine stop_update ?_) | (with_reducible refine stop_slice ?_) | (with_reducible refine stop_range ?_) | (with_reducible refine stop_next ?_) | (with_reducible refine stop_convert ⟨_, rfl⟩ ?_) | (with_reducible refine stop_convertB ⟨_, _, _, rfl⟩ ?_) | (with_reducible refine stop_eqSlice ⟨_, _, rfl⟩ ?_))
      refine (add_any p rc ri s x _ Hs.out (by omega) Hbd.out).mono ?_
      rintro e w3 ⟨rfl, hs3, hc3⟩
      have hc03 := hc.old hc3 hge
      rw [← Hsn.out] at hs3
      have Hs3 := Lib.hid hs3
      clear hs3 hc3
      go_wp2_with (first | (with_reducible refine stop_append ?_) | (with_reducible refine stop_copy ?_) | (with_reducible refine stop_make ?_) | (with_reducible refine stop_lookup ?_) | (with_reducible refine stop_update ?_) | (with_reducible refine stop_slice ?_) | (with_reducible refine stop_range ?_) | (with_reducible refine stop_next ?_) | (with_reducible refine stop_convert ⟨_, rfl⟩ ?_) | (with_reducible refine stop_convertB ⟨_, _, _, rfl⟩ ?_) | (with_reducible refine stop_eqSlice ⟨_, _, rfl⟩ ?_))
      go_roundw
      case rel => exact ⟨k + 1, by omega, by go_num, Hs3.out, hc03⟩
      case measure => simp [intOf]; omega
    · obtain rfl : k = xs.length := by omega
      have hbd := (addAll_bd xs xs.length (Nat.le_refl _)).le (C := 1000000000) (by omega)
      have hks := (KS.all xs xs.length (Nat.le_refl _)).le (M := 1000) (by omega)
      have hs := Hs.out
      rw [List.take_length] at hs hbd hks
      have hag : ∀ d ∈ xs, addD (addAll s0 xs) d = (addAll s0 xs, false) := fun d hd => addD_again s0 hd
      clear Hs hlt
      generalize addAll s0 xs = s at hs hbd hks hag
      have Hs := Lib.hid hs; have Hbd := Lib.hid hbd; have Hks := Lib.hid hks; have Hag := Lib.hid hag
      clear hs hbd hks hag
      obtain ⟨wA, rfl⟩ : ∃ wA : World, wA = wr := ⟨_, rfl⟩
      go_wp2_with (first | (with_reducible refine stop_append ?_) | (with_reducible refine stop_copy ?_) | (with_reducible refine stop_make ?_) | (with_reducible refine stop_lookup ?_) | (with_reducible refine stop_update ?_) | (with_reducible refine stop_slice ?_) | (with_reducible refine stop_range ?_) | (with_reducible refine stop_next ?_) | (with_reducible refine stop_convert ⟨_, rfl⟩ ?_) | (with_reducible refine stop_convertB ⟨_, _, _, rfl⟩ ?_) | (with_reducible refine stop_eqSlice ⟨_, _, rfl⟩ ?_))
      refine (done_any p rc ri s wA Hs.out).mono ?_
      rintro e w3 ⟨rfl, rfl⟩
      go_wp2_with (first | (with_reducible refine stop_append ?_) | (with_reducible refine stop_copy ?_) | (with_reducible refine stop_make ?_) | (with_reducible refine stop_lookup ?_) | (with_reducible refine stop_update ?_) | (with_reducible refine stop_slice ?_) | (with_reducible refine stop_range ?_) | (with_reducible refine stop_next ?_) | (with_reducible refine stop_convert ⟨_, rfl⟩ ?_) | (with_reducible refine stop_convertB ⟨_, _, _, rfl⟩ ?_) | (with_reducible refine stop_eqSlice ⟨_, _, rfl⟩ ?_))
      refine (fields_any p rc ri s wA Hs.out Hks.out (by omega)).mono ?_
      rintro e w4 ⟨v1, rfl, hc4, hv1⟩
      have Hs4 := Lib.hid (Hs.out.keepNo hc4)
      have hc04 := hc.trans hc4
      have hv1 := hv1.weak (G := Sf p rc ri) (fun b _ hb => Hs.out.lt b hb)
      have Hv1 := Lib.hid hv1
      clear hv1 hc4 hc Hs
      go_wp2_with (first | (with_reducible refine stop_append ?_) | (with_reducible refine stop_copy ?_) | (with_reducible refine stop_make ?_) | (with_reducible refine stop_lookup ?_) | (with_reducible refine stop_update ?_) | (with_reducible refine stop_slice ?_) | (with_reducible refine stop_range ?_) | (with_reducible refine stop_next ?_) | (with_reducible refine stop_convert ⟨_, rfl⟩ ?_) | (with_reducible refine stop_convertB ⟨_, _, _, rfl⟩ ?_) | (with_reducible refine stop_eqSlice ⟨_, _, rfl⟩ ?_))
      go_loopw [39] (fun v39 wr => ∃ (k : Nat), k ≤ xs.length ∧ v39 = .int .i64 k ∧ Sto wr p rc ri s ∧ Chg (Sf p rc ri) w4 wr) (fun v39 _ => xs.length - (intOf v39).toNat)
      case atStart => exact ⟨0, by omega, rfl, Hs4.out, Chg.refl _ _⟩
      case round =>
        obtain ⟨k, hk, rfl, hs, hcB⟩ := hrel
        clear Hs4
        have Hs := Lib.hid hs; clear hs
        have hcw := hc04.old hcB hge
        by_cases hlt : k < xs.length
        · obtain ⟨b, o, d, rfl, _, hbl, rfl, ha⟩ := (H.out.keepNo hcw).get k hlt
          have ha0 := ha 0 _ rfl
          simp only [show Rep.n ByteArray = 1 from rfl, Nat.mul_one, Nat.add_zero] at ha0
          have hsz := sizes_mem (List.getElem_mem hlt)
          have Hg := Lib.hid (Hag.out _ (List.getElem_mem hlt))
          clear ha
          generalize xs[k] = x at ha0 Hg hsz
          go_wp2_with (first | (with_reducible refine stop_append ?_) | (with_reducible refine stop_copy ?_) | (with_reducible refine stop_make ?_) | (with_reducible refine stop_lookup ?_) | (with_reducible refine stop_update ?_) | (with_reducible refine stop_slice ?_) | (with_reducible refine stop_range ?_) | (with_reducible refine stop_next ?_) | (with_reducible refine stop_convert ⟨_, rfl⟩ ?_) | (with_reducible refine stop_convertB ⟨_, _, _, rfl⟩ ?_) | (with_reducible refine stop_eqSlice ⟨_, _, rfl⟩ ?_))
          refine (add_any p rc ri s x _ Hs.out (by omega) Hbd.out).mono ?_
          rintro e w5 ⟨rfl, hs5, hc5⟩
          rw [Hg.out] at hs5
          simp only [Hg.out]
          have hcB5 := hcB.trans hc5
          have Hs5 := Lib.hid hs5
          clear hs5 hc5
          go_wp2_with (first | (with_reducible refine stop_append ?_) | (with_reducible refine stop_copy ?_) | (with_reducible refine stop_make ?_) | (with_reducible refine stop_lookup ?_) | (with_reducible refine stop_update ?_) | (with_reducible refine stop_slice ?_) | (with_reducible refine stop_range ?_) | (with_reducible refine stop_next ?_) | (with_reducible refine stop_convert ⟨_, rfl⟩ ?_) | (with_reducible refine stop_convertB ⟨_, _, _, rfl⟩ ?_) | (with_reducible refine stop_eqSlice ⟨_, _, rfl⟩ ?_))
          go_roundw
          case rel => exact ⟨k + 1, by omega, by go_num, Hs5.out, hcB5⟩
          case measure => simp [intOf]; omega
        · obtain rfl : k = xs.length := by omega
          have hv1 := Hv1.out.keep hcB
          have hfl := fieldsS_len s
          have hkl := Hks.out.len
          have Hfl := Lib.hid (show (fieldsS s).length ≤ 1000000 by omega)
          clear hfl hkl
          go_wp2_with (first | (with_reducible refine stop_append ?_) | (with_reducible refine stop_copy ?_) | (with_reducible refine stop_make ?_) | (with_reducible refine stop_lookup ?_) | (with_reducible refine stop_update ?_) | (with_reducible refine stop_slice ?_) | (with_reducible refine stop_range ?_) | (with_reducible refine stop_next ?_) | (with_reducible refine stop_convert ⟨_, rfl⟩ ?_) | (with_reducible refine stop_convertB ⟨_, _, _, rfl⟩ ?_) | (with_reducible refine stop_eqSlice ⟨_, _, rfl⟩ ?_))
          refine (alive_any _).mono ?_
          rintro e w6 ⟨rfl, hc6⟩
          have Hs6 := Lib.hid (Hs.out.keepNo hc6)
          go_wp2_with (first | (with_reducible refine stop_append ?_) | (with_reducible refine stop_copy ?_) | (with_reducible refine stop_make ?_) | (with_reducible refine stop_lookup ?_) | (with_reducible refine stop_update ?_) | (with_reducible refine stop_slice ?_) | (with_reducible refine stop_range ?_) | (with_reducible refine stop_next ?_) | (with_reducible refine stop_convert ⟨_, rfl⟩ ?_) | (with_reducible refine stop_convertB ⟨_, _, _, rfl⟩ ?_) | (with_reducible refine stop_eqSlice ⟨_, _, rfl⟩ ?_))
          refine (done_any p rc ri s w6 Hs6.out).mono ?_
          rintro e w7 ⟨rfl, rfl⟩
          go_wp2_with (first | (with_reducible refine stop_append ?_) | (with_reducible refine stop_copy ?_) | (with_reducible refine stop_make ?_) | (with_reducible refine stop_lookup ?_) | (with_reducible refine stop_update ?_) | (with_reducible refine stop_slice ?_) | (with_reducible refine stop_range ?_) | (with_reducible refine stop_next ?_) | (with_reducible refine stop_convert ⟨_, rfl⟩ ?_) | (with_reducible refine stop_convertB ⟨_, _, _, rfl⟩ ?_) | (with_reducible refine stop_eqSlice ⟨_, _, rfl⟩ ?_))
          refine (fields_any p rc ri s w6 Hs6.out Hks.out (by omega)).mono ?_
          rintro e w8 ⟨v2, rfl, hc8, hv2⟩
          have hc68 := hc6.trans hc8
          go_wp2_with (first | (with_reducible refine stop_append ?_) | (with_reducible refine stop_copy ?_) | (with_reducible refine stop_make ?_) | (with_reducible refine stop_lookup ?_) | (with_reducible refine stop_update ?_) | (with_reducible refine stop_slice ?_) | (with_reducible refine stop_range ?_) | (with_reducible refine stop_next ?_) | (with_reducible refine stop_convert ⟨_, rfl⟩ ?_) | (with_reducible refine stop_convertB ⟨_, _, _, rfl⟩ ?_) | (with_reducible refine stop_eqSlice ⟨_, _, rfl⟩ ?_))
          refine (equal_any _ _ v2 v1 _ _ w8 hv2 (hv1.keepNo hc68) Hfl.out Hfl.out).mono ?_
          rintro e w9 ⟨rfl, hc9⟩
          rw [decide_eq_true (rfl : fieldsS s = fieldsS s)]
          have hcf := (hcw.trans hc68).trans hc9
          go_wp2_with (first | (with_reducible refine stop_append ?_) | (with_reducible refine stop_copy ?_) | (with_reducible refine stop_make ?_) | (with_reducible refine stop_lookup ?_) | (with_reducible refine stop_update ?_) | (with_reducible refine stop_slice ?_) | (with_reducible refine stop_range ?_) | (with_reducible refine stop_next ?_) | (with_reducible refine stop_convert ⟨_, rfl⟩ ?_) | (with_reducible refine stop_convertB ⟨_, _, _, rfl⟩ ?_) | (with_reducible refine stop_eqSlice ⟨_, _, rfl⟩ ?_))
          go_ret
          exact ⟨rfl, hcf⟩
end Go.Proofs.Ytnioljagmimojaa
