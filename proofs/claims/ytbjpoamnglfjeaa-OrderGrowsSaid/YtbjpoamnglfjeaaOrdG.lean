/- The statement OrderGrows, walked. -/
import Derived.Test.YtbjpoamnglfjeaaOrdF
set_option linter.unusedVariables false
set_option linter.unusedSimpArgs false
namespace Go.Proofs.Ytbjpoamnglfjeaa
open Go.RowKit Cb

theorem prefix_getD {a b : List Int} (h : a <+: b) {i : Nat} (hi : i < a.length) : b.getD i 0 = a.getD i 0 := by
  obtain ⟨t, rfl⟩ := h
  simp [List.getD_eq_getElem?_getD, List.getElem?_append_left hi]
theorem of_kind {l : List Ent} : ∀ {o : OSt} {m : Nat}, o.after.length = m + 1 → ∀ k (hlt : k < l.length), k < (ofF o l).2 → l[k].2.1 ≠ 1 → (ofF o l).1.after.getD (m + k) 0 = (ofF o l).1.after.getD (m + k + 1) 0 := by
  induction l with
  | nil => intro o m _ k hlt; simp at hlt
  | cons e r ih =>
    intro o m hm k hlt h2 hk
    simp only [ofF] at h2 ⊢
    split at h2
    case isFalse => simp at h2
    case isTrue hc =>
      rw [if_pos hc]
      have hl2 := add_after hc
      cases k with
      | zero =>
        simp only [List.getElem_cons_zero] at hk
        have hx := (of_ext (addF o e).1 r).2
        simp only [Nat.add_zero]
        rw [prefix_getD hx (by omega), prefix_getD hx (by omega)]
        have he : (addF o e).1.after = o.after ++ [o.len] := by
          revert hc
          unfold addF
          simp only [if_neg hk]
          split <;> simp
        rw [he]
        have h1 : (o.after ++ [o.len]).getD m 0 = o.after.getD m 0 := by simp [List.getD_eq_getElem?_getD, List.getElem?_append_left (show m < o.after.length by omega)]
        have h2 : (o.after ++ [o.len]).getD (m + 1) 0 = o.len := by simp [List.getD_eq_getElem?_getD, ← hm]
        rw [h1, h2]
        simp [OSt.len, List.getLastD_eq_getLast?, List.getLast?_eq_getElem?, hm, List.getD_eq_getElem?_getD]
      | succ k =>
        have := ih (o := (addF o e).1) (m := m + 1) (by omega) k (by simpa using hlt) (by simpa using h2) (by simpa using hk)
        rw [show m + (k + 1) = m + 1 + k by omega]
        exact this
/-- What the statement asks of an order. -/
theorem grows (n : Nat) (h1 : 1 ≤ n) (h8 : n ≤ 8) (l : List Ent) (k : Nat) (hk : k < (ofF (newF n) l).2) (hlt : k < l.length) :
    ∃ a b : Int, afterF (ofF (newF n) l).1 k = some a ∧ afterF (ofF (newF n) l).1 ((k : Int) + 1) = some b ∧ a ≤ b ∧ (l[k].2.1 = 2 → a = b) := by
  have hI := inv_of (inv_new n h1 h8) l
  have hlen := of_after (newF n) l
  have h0 : (newF (n : Int)).after.length = 1 := rfl
  have hkd := of_kind (o := newF n) (m := 0) h0 k hlt hk
  rw [h0] at hlen
  have hr := hI.rise k (by omega)
  refine ⟨(ofF (newF n) l).1.after.getD k 0, (ofF (newF n) l).1.after.getD (k + 1) 0, ?_, ?_, ?_, ?_⟩
  · simp only [afterF]; rw [if_pos (by omega)]; rfl
  · simp only [afterF]; rw [if_pos (by omega)]; rfl
  · simp only [List.getD_eq_getElem?_getD, List.getElem?_eq_getElem (show k < (ofF (newF n) l).1.after.length by omega), List.getElem?_eq_getElem (show k + 1 < (ofF (newF n) l).1.after.length by omega), Option.getD_some]
    exact hr
  · intro he
    have := hkd (by omega)
    simpa using this
theorem after_last {sh : Nat} {st : OSt} (hI : Cb.Inv sh st) : afterF st ((st.after.length : Int) - 1) = some st.len := by
  obtain ⟨a, ha⟩ := hI.aft
  have h1 : st.after.length = a.length + 1 := by simp [ha]
  simp only [afterF]
  rw [if_pos (by omega), show ((st.after.length : Int) - 1).toNat = a.length by omega, hI.olen]
  simp [ha]
set_option maxRecDepth 100000 in
set_option maxHeartbeats 4000000 in
theorem ordgrows_any (n : Int) (v : Value) (l : List Ent) (w : World) (h : Sl No w v l) (hl : l.length * 64 ≤ 140737488355328) (hcb : cutsB l) :
    Calls Try.prog 5 #[.int .i64 n, v] w fun e w' => e = .returned (.bool true) ∧ Chg No w w' := by
  have Hfew := Lib.hid (fewe_any No v l w h hl hcb)
  have H := Lib.hid (fun W (hW : Chg No w W) => h.keepNo hW)
  obtain ⟨A, c, rfl⟩ := h.slice
  have Hmine := Lib.hid (fun W (hW : Chg No w W) => mine_any _ l W (H.out W hW) hl)
  clear h
  cases hf : fewE l with
  | false =>
    rw [hf] at Hfew
    clear hf
    go_enter Try.func5, Try.ntmps5
    go_wp2_with (first | (with_reducible refine stop_append ?_) | (with_reducible refine stop_copy ?_) | (with_reducible refine stop_make ?_) | (with_reducible refine stop_lookup ?_) | (with_reducible refine stop_update ?_) | (with_reducible refine stop_slice ?_) | (with_reducible refine stop_range ?_) | (with_reducible refine stop_next ?_) | (with_reducible refine stop_convert ⟨_, rfl⟩ ?_) | (with_reducible refine stop_convertB ⟨_, _, _, rfl⟩ ?_) | (with_reducible refine stop_eqSlice ⟨_, _, rfl⟩ ?_))
    refine Hfew.out.mono ?_
    rintro e w1 ⟨rfl, hc1⟩
    go_wp2_with (first | (with_reducible refine stop_append ?_) | (with_reducible refine stop_copy ?_) | (with_reducible refine stop_make ?_) | (with_reducible refine stop_lookup ?_) | (with_reducible refine stop_update ?_) | (with_reducible refine stop_slice ?_) | (with_reducible refine stop_range ?_) | (with_reducible refine stop_next ?_) | (with_reducible refine stop_convert ⟨_, rfl⟩ ?_) | (with_reducible refine stop_convertB ⟨_, _, _, rfl⟩ ?_) | (with_reducible refine stop_eqSlice ⟨_, _, rfl⟩ ?_))
    refine (oalive_any _).mono ?_
    rintro e w2 ⟨rfl, hc2⟩
    go_wp2_with (first | (with_reducible refine stop_append ?_) | (with_reducible refine stop_copy ?_) | (with_reducible refine stop_make ?_) | (with_reducible refine stop_lookup ?_) | (with_reducible refine stop_update ?_) | (with_reducible refine stop_slice ?_) | (with_reducible refine stop_range ?_) | (with_reducible refine stop_next ?_) | (with_reducible refine stop_convert ⟨_, rfl⟩ ?_) | (with_reducible refine stop_convertB ⟨_, _, _, rfl⟩ ?_) | (with_reducible refine stop_eqSlice ⟨_, _, rfl⟩ ?_))
    go_ret
    exact ⟨rfl, hc1.trans hc2⟩
  | true =>
    rw [hf] at Hfew
    clear hf
    by_cases hn : 1 ≤ n ∧ n ≤ 8
    · obtain ⟨m, rfl⟩ : ∃ m : Nat, n = m := ⟨n.toNat, by omega⟩
      have h1 : 1 ≤ m := by omega
      have h8 : m ≤ 8 := by omega
      have Hof := Lib.hid (fun W v' (hs : Sl No W v' l) => oof_yes m v' l W h1 h8 hs hl hcb)
      have Hg := Lib.hid (grows m h1 h8 l)
      have hI := inv_of (inv_new m h1 h8) l
      have hle := of_le (newF m) l
      have hlen := of_after (newF m) l
      rw [show (newF (m : Int)).after.length = 1 from rfl] at hlen
      have Hlast := Lib.hid (after_last hI)
      have HI := Lib.hid hI
      generalize ofF (newF m) l = r at *
      obtain ⟨st, k0⟩ := r
      simp only at *
      rw [show (st.after.length : Int) - 1 = k0 by omega] at Hlast
      clear hn hI
      go_enter Try.func5, Try.ntmps5
      go_wp2_with (first | (with_reducible refine stop_append ?_) | (with_reducible refine stop_copy ?_) | (with_reducible refine stop_make ?_) | (with_reducible refine stop_lookup ?_) | (with_reducible refine stop_update ?_) | (with_reducible refine stop_slice ?_) | (with_reducible refine stop_range ?_) | (with_reducible refine stop_next ?_) | (with_reducible refine stop_convert ⟨_, rfl⟩ ?_) | (with_reducible refine stop_convertB ⟨_, _, _, rfl⟩ ?_) | (with_reducible refine stop_eqSlice ⟨_, _, rfl⟩ ?_))
      refine Hfew.out.mono ?_
      rintro e w1 ⟨rfl, hc1⟩
      go_wp2_with (first | (with_reducible refine stop_append ?_) | (with_reducible refine stop_copy ?_) | (with_reducible refine stop_make ?_) | (with_reducible refine stop_lookup ?_) | (with_reducible refine stop_update ?_) | (with_reducible refine stop_slice ?_) | (with_reducible refine stop_range ?_) | (with_reducible refine stop_next ?_) | (with_reducible refine stop_convert ⟨_, rfl⟩ ?_) | (with_reducible refine stop_convertB ⟨_, _, _, rfl⟩ ?_) | (with_reducible refine stop_eqSlice ⟨_, _, rfl⟩ ?_))
      refine (Hmine.out _ hc1).mono ?_
      rintro e w2 ⟨v2, rfl, hc2, hs2⟩
      obtain ⟨A2, c2, rfl⟩ := hs2.slice
      have Hs2 := Lib.hid hs2
      clear hs2
      go_wp2_with (first | (with_reducible refine stop_append ?_) | (with_reducible refine stop_copy ?_) | (with_reducible refine stop_make ?_) | (with_reducible refine stop_lookup ?_) | (with_reducible refine stop_update ?_) | (with_reducible refine stop_slice ?_) | (with_reducible refine stop_range ?_) | (with_reducible refine stop_next ?_) | (with_reducible refine stop_convert ⟨_, rfl⟩ ?_) | (with_reducible refine stop_convertB ⟨_, _, _, rfl⟩ ?_) | (with_reducible refine stop_eqSlice ⟨_, _, rfl⟩ ?_))
      refine (Hof.out _ _ Hs2.out).mono ?_
      rintro e w3 ⟨p, rfl, hc3, ho⟩
      have Ho := Lib.hid ho
      clear ho
      have hc03 := (hc1.trans hc2).trans hc3
      go_wp2_with (first | (with_reducible refine stop_append ?_) | (with_reducible refine stop_copy ?_) | (with_reducible refine stop_make ?_) | (with_reducible refine stop_lookup ?_) | (with_reducible refine stop_update ?_) | (with_reducible refine stop_slice ?_) | (with_reducible refine stop_range ?_) | (with_reducible refine stop_next ?_) | (with_reducible refine stop_convert ⟨_, rfl⟩ ?_) | (with_reducible refine stop_convertB ⟨_, _, _, rfl⟩ ?_) | (with_reducible refine stop_eqSlice ⟨_, _, rfl⟩ ?_))
      go_loopw [7, 8, 9, 10, 11, 33] (fun _ _ _ _ _ v33 wr => ∃ k : Nat, k ≤ k0 ∧ v33 = .int .i64 k ∧ Chg No w3 wr) (fun _ _ _ _ _ v33 _ => k0 - (intOf v33).toNat)
      case atStart => exact ⟨0, by omega, rfl, Chg.refl _ _⟩
      case round =>
        obtain ⟨k, hk, rfl, hcr⟩ := hrel
        by_cases hlt : k < k0
        · obtain ⟨a, b, ha, hb, hab, hkd⟩ := Hg.out k hlt (by omega)
          obtain ⟨bb, oo, vc, rfl, _, hbl, _, _, a1, _, _, _, _⟩ := ent_get (H.out _ (hc03.trans hcr)) k (by omega)
          generalize l[k].2.1 = kd at a1 hkd
          have Hkd := Lib.hid hkd
          have Ha := Lib.hid (fun W (hW : Chg No w3 W) => oafter_any (Ho.out.keepNo hW) HI.out k)
          have Hb := Lib.hid (fun W (hW : Chg No w3 W) => oafter_any (Ho.out.keepNo hW) HI.out ((k : Int) + 1))
          rw [ha] at Ha
          rw [hb] at Hb
          clear ha hb hkd hbl
          go_wp2_with (first | (with_reducible refine stop_append ?_) | (with_reducible refine stop_copy ?_) | (with_reducible refine stop_make ?_) | (with_reducible refine stop_lookup ?_) | (with_reducible refine stop_update ?_) | (with_reducible refine stop_slice ?_) | (with_reducible refine stop_range ?_) | (with_reducible refine stop_next ?_) | (with_reducible refine stop_convert ⟨_, rfl⟩ ?_) | (with_reducible refine stop_convertB ⟨_, _, _, rfl⟩ ?_) | (with_reducible refine stop_eqSlice ⟨_, _, rfl⟩ ?_))
          refine (Ha.out _ hcr).mono ?_
          rintro e w4 ⟨hc4, ⟨x, hx, rfl⟩ | ⟨hx, _⟩⟩
          rotate_left
          · cases hx
          cases hx
          have a1 := hc4.cell a1 (not_no _)
          have hc4 := hcr.trans hc4
          go_wp2_with (first | (with_reducible refine stop_append ?_) | (with_reducible refine stop_copy ?_) | (with_reducible refine stop_make ?_) | (with_reducible refine stop_lookup ?_) | (with_reducible refine stop_update ?_) | (with_reducible refine stop_slice ?_) | (with_reducible refine stop_range ?_) | (with_reducible refine stop_next ?_) | (with_reducible refine stop_convert ⟨_, rfl⟩ ?_) | (with_reducible refine stop_convertB ⟨_, _, _, rfl⟩ ?_) | (with_reducible refine stop_eqSlice ⟨_, _, rfl⟩ ?_))
          refine (Hb.out _ hc4).mono ?_
          rintro e w5 ⟨hc5, ⟨x, hx, rfl⟩ | ⟨hx, _⟩⟩
          rotate_left
          · cases hx
          cases hx
          have a1 := hc5.cell a1 (not_no _)
          have hc5 := hc4.trans hc5
          by_cases hk2 : kd = 2
          · obtain rfl := Hkd.out hk2
            go_wp2_with (first | (with_reducible refine stop_append ?_) | (with_reducible refine stop_copy ?_) | (with_reducible refine stop_make ?_) | (with_reducible refine stop_lookup ?_) | (with_reducible refine stop_update ?_) | (with_reducible refine stop_slice ?_) | (with_reducible refine stop_range ?_) | (with_reducible refine stop_next ?_) | (with_reducible refine stop_convert ⟨_, rfl⟩ ?_) | (with_reducible refine stop_convertB ⟨_, _, _, rfl⟩ ?_) | (with_reducible refine stop_eqSlice ⟨_, _, rfl⟩ ?_))
            go_roundw
            case rel => exact ⟨k + 1, by omega, by go_num, hc5⟩
            case measure => simp [intOf]; omega
          · have hk3 : (kd == 2) = false := by simpa using hk2
            clear hk2
            go_wp2_with (first | (with_reducible refine stop_append ?_) | (with_reducible refine stop_copy ?_) | (with_reducible refine stop_make ?_) | (with_reducible refine stop_lookup ?_) | (with_reducible refine stop_update ?_) | (with_reducible refine stop_slice ?_) | (with_reducible refine stop_range ?_) | (with_reducible refine stop_next ?_) | (with_reducible refine stop_convert ⟨_, rfl⟩ ?_) | (with_reducible refine stop_convertB ⟨_, _, _, rfl⟩ ?_) | (with_reducible refine stop_eqSlice ⟨_, _, rfl⟩ ?_))
            go_roundw
            case rel => exact ⟨k + 1, by omega, by go_num, hc5⟩
            case measure => simp [intOf]; omega
        · obtain rfl : k = k0 := by omega
          go_wp2_with (first | (with_reducible refine stop_append ?_) | (with_reducible refine stop_copy ?_) | (with_reducible refine stop_make ?_) | (with_reducible refine stop_lookup ?_) | (with_reducible refine stop_update ?_) | (with_reducible refine stop_slice ?_) | (with_reducible refine stop_range ?_) | (with_reducible refine stop_next ?_) | (with_reducible refine stop_convert ⟨_, rfl⟩ ?_) | (with_reducible refine stop_convertB ⟨_, _, _, rfl⟩ ?_) | (with_reducible refine stop_eqSlice ⟨_, _, rfl⟩ ?_))
          refine (oafter_any (Ho.out.keepNo hcr) HI.out k).mono ?_
          rw [Hlast.out]
          rintro e w4 ⟨hc4, ⟨x, hx, rfl⟩ | ⟨hx, _⟩⟩
          rotate_left
          · cases hx
          cases hx
          have hc4 := hcr.trans hc4
          go_wp2_with (first | (with_reducible refine stop_append ?_) | (with_reducible refine stop_copy ?_) | (with_reducible refine stop_make ?_) | (with_reducible refine stop_lookup ?_) | (with_reducible refine stop_update ?_) | (with_reducible refine stop_slice ?_) | (with_reducible refine stop_range ?_) | (with_reducible refine stop_next ?_) | (with_reducible refine stop_convert ⟨_, rfl⟩ ?_) | (with_reducible refine stop_convertB ⟨_, _, _, rfl⟩ ?_) | (with_reducible refine stop_eqSlice ⟨_, _, rfl⟩ ?_))
          refine (oalive_any _).mono ?_
          rintro e w5 ⟨rfl, hc5⟩
          have hc5 := hc4.trans hc5
          go_wp2_with (first | (with_reducible refine stop_append ?_) | (with_reducible refine stop_copy ?_) | (with_reducible refine stop_make ?_) | (with_reducible refine stop_lookup ?_) | (with_reducible refine stop_update ?_) | (with_reducible refine stop_slice ?_) | (with_reducible refine stop_range ?_) | (with_reducible refine stop_next ?_) | (with_reducible refine stop_convert ⟨_, rfl⟩ ?_) | (with_reducible refine stop_convertB ⟨_, _, _, rfl⟩ ?_) | (with_reducible refine stop_eqSlice ⟨_, _, rfl⟩ ?_))
          refine (olen_any (Ho.out.keepNo hc5) HI.out).mono ?_
          rintro e w6 ⟨rfl, hc6⟩
          go_wp2_with (first | (with_reducible refine stop_append ?_) | (with_reducible refine stop_copy ?_) | (with_reducible refine stop_make ?_) | (with_reducible refine stop_lookup ?_) | (with_reducible refine stop_update ?_) | (with_reducible refine stop_slice ?_) | (with_reducible refine stop_range ?_) | (with_reducible refine stop_next ?_) | (with_reducible refine stop_convert ⟨_, rfl⟩ ?_) | (with_reducible refine stop_convertB ⟨_, _, _, rfl⟩ ?_) | (with_reducible refine stop_eqSlice ⟨_, _, rfl⟩ ?_))
          go_ret
          exact ⟨by simp, (hc03.trans hc5).trans hc6⟩
    · go_enter Try.func5, Try.ntmps5
      go_wp2_with (first | (with_reducible refine stop_append ?_) | (with_reducible refine stop_copy ?_) | (with_reducible refine stop_make ?_) | (with_reducible refine stop_lookup ?_) | (with_reducible refine stop_update ?_) | (with_reducible refine stop_slice ?_) | (with_reducible refine stop_range ?_) | (with_reducible refine stop_next ?_) | (with_reducible refine stop_convert ⟨_, rfl⟩ ?_) | (with_reducible refine stop_convertB ⟨_, _, _, rfl⟩ ?_) | (with_reducible refine stop_eqSlice ⟨_, _, rfl⟩ ?_))
      refine Hfew.out.mono ?_
      rintro e w1 ⟨rfl, hc1⟩
      go_wp2_with (first | (with_reducible refine stop_append ?_) | (with_reducible refine stop_copy ?_) | (with_reducible refine stop_make ?_) | (with_reducible refine stop_lookup ?_) | (with_reducible refine stop_update ?_) | (with_reducible refine stop_slice ?_) | (with_reducible refine stop_range ?_) | (with_reducible refine stop_next ?_) | (with_reducible refine stop_convert ⟨_, rfl⟩ ?_) | (with_reducible refine stop_convertB ⟨_, _, _, rfl⟩ ?_) | (with_reducible refine stop_eqSlice ⟨_, _, rfl⟩ ?_))
      refine (Hmine.out _ hc1).mono ?_
      rintro e w2 ⟨v2, rfl, hc2, hs2⟩
      obtain ⟨A2, c2, rfl⟩ := hs2.slice
      go_wp2_with (first | (with_reducible refine stop_append ?_) | (with_reducible refine stop_copy ?_) | (with_reducible refine stop_make ?_) | (with_reducible refine stop_lookup ?_) | (with_reducible refine stop_update ?_) | (with_reducible refine stop_slice ?_) | (with_reducible refine stop_range ?_) | (with_reducible refine stop_next ?_) | (with_reducible refine stop_convert ⟨_, rfl⟩ ?_) | (with_reducible refine stop_convertB ⟨_, _, _, rfl⟩ ?_) | (with_reducible refine stop_eqSlice ⟨_, _, rfl⟩ ?_))
      refine (oof_no n _ l _ hn hs2).mono ?_
      rintro e w3 ⟨rfl, hc3⟩
      go_wp2_with (first | (with_reducible refine stop_append ?_) | (with_reducible refine stop_copy ?_) | (with_reducible refine stop_make ?_) | (with_reducible refine stop_lookup ?_) | (with_reducible refine stop_update ?_) | (with_reducible refine stop_slice ?_) | (with_reducible refine stop_range ?_) | (with_reducible refine stop_next ?_) | (with_reducible refine stop_convert ⟨_, rfl⟩ ?_) | (with_reducible refine stop_convertB ⟨_, _, _, rfl⟩ ?_) | (with_reducible refine stop_eqSlice ⟨_, _, rfl⟩ ?_))
      refine (oalive_any _).mono ?_
      rintro e w4 ⟨rfl, hc4⟩
      go_wp2_with (first | (with_reducible refine stop_append ?_) | (with_reducible refine stop_copy ?_) | (with_reducible refine stop_make ?_) | (with_reducible refine stop_lookup ?_) | (with_reducible refine stop_update ?_) | (with_reducible refine stop_slice ?_) | (with_reducible refine stop_range ?_) | (with_reducible refine stop_next ?_) | (with_reducible refine stop_convert ⟨_, rfl⟩ ?_) | (with_reducible refine stop_convertB ⟨_, _, _, rfl⟩ ?_) | (with_reducible refine stop_eqSlice ⟨_, _, rfl⟩ ?_))
      go_ret
      exact ⟨rfl, ((hc1.trans hc2).trans hc3).trans hc4⟩
end Go.Proofs.Ytbjpoamnglfjeaa
