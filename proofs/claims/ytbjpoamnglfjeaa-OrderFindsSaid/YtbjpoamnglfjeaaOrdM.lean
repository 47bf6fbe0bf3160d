/- The statement OrderMany, walked. -/
import Derived.Test.YtbjpoamnglfjeaaOrdF
import Derived.Test.YtbjpoamnglfjeaaRefV
set_option linter.unusedVariables false
set_option linter.unusedSimpArgs false
namespace Go.Proofs.Ytbjpoamnglfjeaa
open Go.RowKit Cb

/-- Up to the first that is refused. -/
theorem of_stop {o : OSt} {l : List Ent} {k : Nat} (h2 : (ofF o (l.take k)).2 = k) (hlt : k < l.length) (hne : (addF (ofF o (l.take k)).1 l[k]).2 ≠ 0) : ofF o l = ((ofF o (l.take k)).1, k) := by
  have e1 : l = l.take (k + 1) ++ l.drop (k + 1) := (List.take_append_drop _ _).symm
  have e2 : l.take (k + 1) = l.take k ++ [l[k]] := List.take_succ_eq_append_getElem hlt
  have hlen : (l.take k).length = k := by simp; omega
  have e3 := of_snoc (o := o) (l := l.take k) (by rw [h2, hlen]) l[k]
  rw [if_neg hne, ← e2, hlen] at e3
  conv => lhs; rw [e1]
  rw [of_app_le (by rw [e3]; simp; omega), e3]
theorem of_go {o : OSt} {l : List Ent} {k : Nat} (h2 : (ofF o (l.take k)).2 = k) (hlt : k < l.length) (he : (addF (ofF o (l.take k)).1 l[k]).2 = 0) : ofF o (l.take (k + 1)) = ((addF (ofF o (l.take k)).1 l[k]).1, k + 1) := by
  have e2 : l.take (k + 1) = l.take k ++ [l[k]] := List.take_succ_eq_append_getElem hlt
  have hlen : (l.take k).length = k := by simp; omega
  have e3 := of_snoc (o := o) (l := l.take k) (by rw [h2, hlen]) l[k]
  rw [if_pos he, ← e2, hlen] at e3
  exact e3
theorem Ord.lohi {w : World} {lo hi p : Nat} {st : OSt} (h : Ord w lo hi p st) : lo ≤ hi ∧ hi ≤ w.heap.size := by
  obtain ⟨_, _, _, h⟩ := h
  have := h.hp
  exact ⟨by omega, h.hhi⟩
set_option maxRecDepth 100000 in
set_option maxHeartbeats 4000000 in
theorem ordmany_any (n : Int) (v : Value) (l : List Ent) (w : World) (h : Sl No w v l) (hl : l.length * 64 ≤ 140737488355328) (hcb : cutsB l) :
    Calls Try.prog 6 #[.int .i64 n, v] w fun e w' => e = .returned (.bool true) ∧ Chg No w w' := by
  have Hfew := Lib.hid (fewe_any No v l w h hl hcb)
  have H := Lib.hid (fun W (hW : Chg No w W) => h.keepNo hW)
  obtain ⟨A, c, rfl⟩ := h.slice
  have Hmine := Lib.hid (fun W (hW : Chg No w W) => mine_any _ l W (H.out W hW) hl)
  have Hcb := Lib.hid hcb
  clear h
  cases hf : fewE l with
  | false =>
    rw [hf] at Hfew
    clear hf hcb
    go_enter Try.func6, Try.ntmps6
    go_wp2_with (first | (with_reducible refine stop_append ?_) | (with_reducible refine stop_copy ?_) | (with_reducible refine stop_make ?_) | (with_reducible refine stop_lookup ?_) | (with_reducible refine stop_update ?_) | (with_reducible refine stop_slice ?_) | (with_reducible refine stop_range ?_) | (with_reducible refine stop_next ?_) | (with_reducible refine stop_convert ⟨_, rfl⟩ ?_) | (with_reducible refine stop_convertB ⟨_, _, _, rfl⟩ ?_) | (with_reducible refine stop_eqSlice ⟨_, _, rfl⟩ ?_))
    refine Hfew.out.mono ?_
    rintro e w1 ⟨rfl, hc1⟩
    go_wp2_with (first | (with_reducible refine stop_append ?_) | (with_reducible refine stop_copy ?_) | (with_reducible refine stop_make ?_) | (with_reducible refine stop_lookup ?_) | (with_reducible refine stop_update ?_) | (with_reducible refine stop_slice ?_) | (with_reducible refine stop_range ?_) | (with_reducible refine stop_next ?_) | (with_reducible refine stop_convert ⟨_, rfl⟩ ?_) | (with_reducible refine stop_convertB ⟨_, _, _, rfl⟩ ?_) | (with_reducible refine stop_eqSlice ⟨_, _, rfl⟩ ?_))
    refine (oalive_any _).mono ?_
    rintro e w2 ⟨rfl, hc2⟩
    go_wp2_with (first | (with_reducible refine stop_append ?_) | (with_reducible refine stop_copy ?_) | (with_reducible refine stop_make ?_) | (with_reducible refine stop_lookup ?_) | (with_reducible refine stop_update ?_) | (with_reducible refine stop_slice ?_) | (with_reducible refine stop_range ?_) | (with_reducible refine stop_next ?_) | (with_reducible refine stop_convert ⟨_, rfl⟩ ?_) | (with_reducible refine stop_convertB ⟨_, _, _, rfl⟩ ?_) | (with_reducible refine stop_eqSlice ⟨_, _, rfl⟩ ?_))
    go_ret
    exact ⟨rfl, hc1.trans hc2⟩
  | true =>
    rw [hf] at Hfew
    clear hf
    by_cases hn : 1 ≤ n ∧ n ≤ 8
    · obtain ⟨m, rfl⟩ : ∃ m : Nat, n = m := ⟨n.toNat, by omega⟩
      have h1 : 1 ≤ m := by omega
      have h8 : m ≤ 8 := by omega
      have Hof := Lib.hid (fun W v' (hs : Sl No W v' l) => oof_yes m v' l W h1 h8 hs hl hcb)
      have Hnew := Lib.hid (fun W => onew_yes m W h1 h8)
      have HI := Lib.hid (fun l => inv_of (inv_new m h1 h8) l)
      have hle := of_le (newF m) l
      have hlen := of_after (newF m) l
      rw [show (newF (m : Int)).after.length = 1 from rfl] at hlen
      obtain ⟨r, hr⟩ : ∃ r, r = ofF (newF m) l := ⟨_, rfl⟩
      rw [← hr] at Hof hle hlen
      have Hr := Lib.hid hr
      have hIr : Cb.Inv m r.1 := by rw [hr]; exact HI.out l
      clear hr
      obtain ⟨st, k0⟩ := r
      simp only at *
      have hent : (st.after.length : Int) - 1 = k0 := by omega
      have HIr := Lib.hid hIr
      have Hent := Lib.hid hent
      have hlast8 := (vright_iff.1 hIr.right).2.1
      clear hn hIr hent hcb
      go_enter Try.func6, Try.ntmps6
      go_wp2_with (first | (with_reducible refine stop_append ?_) | (with_reducible refine stop_copy ?_) | (with_reducible refine stop_make ?_) | (with_reducible refine stop_lookup ?_) | (with_reducible refine stop_update ?_) | (with_reducible refine stop_slice ?_) | (with_reducible refine stop_range ?_) | (with_reducible refine stop_next ?_) | (with_reducible refine stop_convert ⟨_, rfl⟩ ?_) | (with_reducible refine stop_convertB ⟨_, _, _, rfl⟩ ?_) | (with_reducible refine stop_eqSlice ⟨_, _, rfl⟩ ?_))
      refine Hfew.out.mono ?_
      rintro e w1 ⟨rfl, hc1⟩
      go_wp2_with (first | (with_reducible refine stop_append ?_) | (with_reducible refine stop_copy ?_) | (with_reducible refine stop_make ?_) | (with_reducible refine stop_lookup ?_) | (with_reducible refine stop_update ?_) | (with_reducible refine stop_slice ?_) | (with_reducible refine stop_range ?_) | (with_reducible refine stop_next ?_) | (with_reducible refine stop_convert ⟨_, rfl⟩ ?_) | (with_reducible refine stop_convertB ⟨_, _, _, rfl⟩ ?_) | (with_reducible refine stop_eqSlice ⟨_, _, rfl⟩ ?_))
      refine (Hmine.out _ hc1).mono ?_
      rintro e w2 ⟨v2, rfl, hc2, hs2⟩
      obtain ⟨A2, c2, rfl⟩ := hs2.slice
      have Hs2 := Lib.hid hs2
      clear hs2
      go_wp2_with (first | (with_reducible refine stop_append ?_) | (with_reducible refine stop_copy ?_) | (with_reducible refine stop_make ?_) | (with_reducible refine stop_lookup ?_) | (with_reducible refine stop_update ?_) | (with_reducible refine stop_slice ?_) | (with_reducible refine stop_range ?_) | (with_reducible refine stop_next ?_) | (with_reducible refine stop_convert ⟨_, rfl⟩ ?_) | (with_reducible refine stop_convertB ⟨_, _, _, rfl⟩ ?_) | (with_reducible refine stop_eqSlice ⟨_, _, rfl⟩ ?_))
      refine (Hof.out _ _ Hs2.out).mono ?_
      rintro e w3 ⟨p, rfl, hc3, ho⟩
      have Ho := Lib.hid ho
      clear ho
      have hc03 := (hc1.trans hc2).trans hc3
      go_wp2_with (first | (with_reducible refine stop_append ?_) | (with_reducible refine stop_copy ?_) | (with_reducible refine stop_make ?_) | (with_reducible refine stop_lookup ?_) | (with_reducible refine stop_update ?_) | (with_reducible refine stop_slice ?_) | (with_reducible refine stop_range ?_) | (with_reducible refine stop_next ?_) | (with_reducible refine stop_convert ⟨_, rfl⟩ ?_) | (with_reducible refine stop_convertB ⟨_, _, _, rfl⟩ ?_) | (with_reducible refine stop_eqSlice ⟨_, _, rfl⟩ ?_))
      refine (Hnew.out _).mono ?_
      rintro e w4 ⟨p2, rfl, hc4, ho2⟩
      have Ho2 := Lib.hid ho2
      clear ho2
      have hc04 := hc03.trans hc4
      go_wp2_with (first | (with_reducible refine stop_append ?_) | (with_reducible refine stop_copy ?_) | (with_reducible refine stop_make ?_) | (with_reducible refine stop_lookup ?_) | (with_reducible refine stop_update ?_) | (with_reducible refine stop_slice ?_) | (with_reducible refine stop_range ?_) | (with_reducible refine stop_next ?_) | (with_reducible refine stop_convert ⟨_, rfl⟩ ?_) | (with_reducible refine stop_convertB ⟨_, _, _, rfl⟩ ?_) | (with_reducible refine stop_eqSlice ⟨_, _, rfl⟩ ?_))
      go_loopw [9] (fun v9 wr => ∃ k : Nat, k ≤ l.length ∧ v9 = .int .i64 k ∧ Chg (Ge w3.heap.size) w3 wr ∧ Ord wr w3.heap.size wr.heap.size p2 (ofF (newF m) (l.take k)).1 ∧ (ofF (newF m) (l.take k)).2 = k) (fun v9 _ => l.length - (intOf v9).toNat)
      case atStart => exact ⟨0, by omega, rfl, hc4.of_no, Ho2.out, rfl⟩
      case round =>
        obtain ⟨k, hk, rfl, hcr, hop, h2⟩ := hrel
        have hcw := hc03.old hcr (fun i hi => by have := hc03.size; simp only [Ge] at hi; omega)
        have Hop := Lib.hid hop
        have hlo := hop.lohi
        clear hop Ho2
        have Hc3 := Lib.hid (fun W (hW : Chg (Ge w3.heap.size) w3 W) => Ho.out.keep hW (fun i hi => .inr hi))
        have hcase : k < l.length ∨ (k = l.length ∧ ofF (newF m) l = ofF (newF m) (l.take k)) := by
          rcases Nat.lt_or_ge k l.length with h | h
          · exact .inl h
          · exact .inr ⟨by omega, by rw [List.take_of_length_le h]⟩
        rcases hcase with hlt | ⟨hkl, hst⟩
        focus
          obtain ⟨b, o, vc, rfl, hnb, hbl, hsv, a0, a1, a2, a3, a4, a5⟩ := ent_get ((Sl.up (H.out w3 hc03) (Nat.le_refl _)).keep hcr) k hlt
          have hgo := of_go h2 hlt
          have hst := of_stop h2 hlt
          have hcut := Hcb.out _ (List.getElem_mem hlt)
          have hIk := HI.out (l.take k)
          rw [← Hr.out] at hst
          generalize l[k] = x at a0 a1 a2 a3 a4 a5 hsv hgo hst hcut
          generalize ofF (newF m) (l.take k) = s at *
          obtain ⟨s, j⟩ := s
          simp only at *
          subst h2
          have hadd := oadd_any Hop.out hIk x vc hsv hcut
          obtain ⟨nn, kd, cut, tag, tt, u⟩ := x
          obtain ⟨Av, cv, rfl⟩ := hsv.slice
          simp only [entV] at a0 a1 a2 a3 a4 a5 hadd
          generalize haf : addF s (nn, kd, cut, tag, tt, u) = r at *
          have hno := fun hne : r.2 ≠ 0 => add_no (o := s) (e := (nn, kd, cut, tag, tt, u)) (by rw [haf]; exact hne)
          rw [haf] at hno
          obtain ⟨s', code⟩ := r
          unfold AddPost at hadd
          simp only at hadd hgo hst hno
          have Hadd := Lib.hid hadd
          have Hgo := Lib.hid hgo
          clear hadd hsv haf hgo
          by_cases hcd : code = 0
          · subst hcd
            clear hst hno
            go_wp2_with (first | (with_reducible refine stop_append ?_) | (with_reducible refine stop_copy ?_) | (with_reducible refine stop_make ?_) | (with_reducible refine stop_lookup ?_) | (with_reducible refine stop_update ?_) | (with_reducible refine stop_slice ?_) | (with_reducible refine stop_range ?_) | (with_reducible refine stop_next ?_) | (with_reducible refine stop_convert ⟨_, rfl⟩ ?_) | (with_reducible refine stop_convertB ⟨_, _, _, rfl⟩ ?_) | (with_reducible refine stop_eqSlice ⟨_, _, rfl⟩ ?_))
            refine Hadd.out.mono ?_
            rintro e w5 ⟨rfl, hc5, ho5⟩
            have hcr5 : Chg (Ge w3.heap.size) w3 w5 := hcr.trans (hc5.weak (fun i _ hi => hi.1))
            have Ho5 := Lib.hid ho5
            clear ho5
            go_wp2_with (first | (with_reducible refine stop_append ?_) | (with_reducible refine stop_copy ?_) | (with_reducible refine stop_make ?_) | (with_reducible refine stop_lookup ?_) | (with_reducible refine stop_update ?_) | (with_reducible refine stop_slice ?_) | (with_reducible refine stop_range ?_) | (with_reducible refine stop_next ?_) | (with_reducible refine stop_convert ⟨_, rfl⟩ ?_) | (with_reducible refine stop_convertB ⟨_, _, _, rfl⟩ ?_) | (with_reducible refine stop_eqSlice ⟨_, _, rfl⟩ ?_))
            go_roundw
            case rel => exact ⟨j + 1, by omega, by go_num, hcr5, by rw [Hgo.out trivial]; exact Ho5.out, by rw [Hgo.out trivial]⟩
            case measure => simp [intOf]; omega
          have hst := hst hcd
          have hno := hno hcd
          simp only [Prod.mk.injEq] at hst
          obtain ⟨rfl, rfl⟩ := hst
          subst hno
          have hcd2 : (code == 0) = false := by simpa using hcd
          have Hcd := Lib.hid hcd
          clear hcd
          go_wp2_with (first | (with_reducible refine stop_append ?_) | (with_reducible refine stop_copy ?_) | (with_reducible refine stop_make ?_) | (with_reducible refine stop_lookup ?_) | (with_reducible refine stop_update ?_) | (with_reducible refine stop_slice ?_) | (with_reducible refine stop_range ?_) | (with_reducible refine stop_next ?_) | (with_reducible refine stop_convert ⟨_, rfl⟩ ?_) | (with_reducible refine stop_convertB ⟨_, _, _, rfl⟩ ?_) | (with_reducible refine stop_eqSlice ⟨_, _, rfl⟩ ?_))
          refine Hadd.out.mono ?_
          rintro e w5 ⟨rfl, hc5, ho5⟩
          have hcr5 : Chg (Ge w3.heap.size) w3 w5 := hcr.trans (hc5.weak (fun i _ hi => hi.1))
          have Ho5 := Lib.hid ho5.top
          clear ho5 a0 a1 a2 a3 a4 a5 Hadd Hgo hc5 hbl
          go_wp2_with (first | (with_reducible refine stop_append ?_) | (with_reducible refine stop_copy ?_) | (with_reducible refine stop_make ?_) | (with_reducible refine stop_lookup ?_) | (with_reducible refine stop_update ?_) | (with_reducible refine stop_slice ?_) | (with_reducible refine stop_range ?_) | (with_reducible refine stop_next ?_) | (with_reducible refine stop_convert ⟨_, rfl⟩ ?_) | (with_reducible refine stop_convertB ⟨_, _, _, rfl⟩ ?_) | (with_reducible refine stop_eqSlice ⟨_, _, rfl⟩ ?_))
        rotate_left
        focus
          rw [← Hr.out] at hst
          rw [← hst] at Hop h2
          simp only at h2 Hop
          obtain rfl : k0 = k := h2
          subst hkl
          have Ho5 := Lib.hid Hop.out.top
          obtain ⟨w5, rfl⟩ : ∃ W : World, W = wr := ⟨_, rfl⟩
          have hcr5 := hcr
          go_wp2_with (first | (with_reducible refine stop_append ?_) | (with_reducible refine stop_copy ?_) | (with_reducible refine stop_make ?_) | (with_reducible refine stop_lookup ?_) | (with_reducible refine stop_update ?_) | (with_reducible refine stop_slice ?_) | (with_reducible refine stop_range ?_) | (with_reducible refine stop_next ?_) | (with_reducible refine stop_convert ⟨_, rfl⟩ ?_) | (with_reducible refine stop_convertB ⟨_, _, _, rfl⟩ ?_) | (with_reducible refine stop_eqSlice ⟨_, _, rfl⟩ ?_))
        all_goals
          refine (oalive_any _).mono ?_
          rintro e w6 ⟨rfl, hc6⟩
          have hcr6 : Chg (Ge w3.heap.size) w3 w6 := hcr5.trans hc6.of_no
          have Hp6 := Lib.hid (Ho5.out.keepNo hc6)
          go_wp2_with (first | (with_reducible refine stop_append ?_) | (with_reducible refine stop_copy ?_) | (with_reducible refine stop_make ?_) | (with_reducible refine stop_lookup ?_) | (with_reducible refine stop_update ?_) | (with_reducible refine stop_slice ?_) | (with_reducible refine stop_range ?_) | (with_reducible refine stop_next ?_) | (with_reducible refine stop_convert ⟨_, rfl⟩ ?_) | (with_reducible refine stop_convertB ⟨_, _, _, rfl⟩ ?_) | (with_reducible refine stop_eqSlice ⟨_, _, rfl⟩ ?_))
          refine (oentries_any (Hc3.out w6 hcr6) HIr.out).mono ?_
          rintro e w7 ⟨rfl, rfl⟩
          rw [Hent.out]
          go_wp2_with (first | (with_reducible refine stop_append ?_) | (with_reducible refine stop_copy ?_) | (with_reducible refine stop_make ?_) | (with_reducible refine stop_lookup ?_) | (with_reducible refine stop_update ?_) | (with_reducible refine stop_slice ?_) | (with_reducible refine stop_range ?_) | (with_reducible refine stop_next ?_) | (with_reducible refine stop_convert ⟨_, rfl⟩ ?_) | (with_reducible refine stop_convertB ⟨_, _, _, rfl⟩ ?_) | (with_reducible refine stop_eqSlice ⟨_, _, rfl⟩ ?_))
          refine (olen_any Hp6.out HIr.out).mono ?_
          rintro e w8 ⟨rfl, hc8⟩
          have hcr8 : Chg (Ge w3.heap.size) w3 w8 := hcr6.trans hc8.of_no
          have Hp8 := Lib.hid (Hp6.out.keepNo hc8)
          go_wp2_with (first | (with_reducible refine stop_append ?_) | (with_reducible refine stop_copy ?_) | (with_reducible refine stop_make ?_) | (with_reducible refine stop_lookup ?_) | (with_reducible refine stop_update ?_) | (with_reducible refine stop_slice ?_) | (with_reducible refine stop_range ?_) | (with_reducible refine stop_next ?_) | (with_reducible refine stop_convert ⟨_, rfl⟩ ?_) | (with_reducible refine stop_convertB ⟨_, _, _, rfl⟩ ?_) | (with_reducible refine stop_eqSlice ⟨_, _, rfl⟩ ?_))
          refine (olen_any (Hc3.out w8 hcr8) HIr.out).mono ?_
          rintro e w9 ⟨rfl, hc9⟩
          have hcr9 : Chg (Ge w3.heap.size) w3 w9 := hcr8.trans hc9.of_no
          have Hp9 := Lib.hid (Hp8.out.keepNo hc9)
          go_wp2_with (first | (with_reducible refine stop_append ?_) | (with_reducible refine stop_copy ?_) | (with_reducible refine stop_make ?_) | (with_reducible refine stop_lookup ?_) | (with_reducible refine stop_update ?_) | (with_reducible refine stop_slice ?_) | (with_reducible refine stop_range ?_) | (with_reducible refine stop_next ?_) | (with_reducible refine stop_convert ⟨_, rfl⟩ ?_) | (with_reducible refine stop_convertB ⟨_, _, _, rfl⟩ ?_) | (with_reducible refine stop_eqSlice ⟨_, _, rfl⟩ ?_))
          refine (ocut_any (Hc3.out w9 hcr9) HIr.out).mono ?_
          rintro e w10 ⟨v10, rfl, hc10, hs10⟩
          have hcr10 : Chg (Ge w3.heap.size) w3 w10 := hcr9.trans hc10.of_no
          have Hp10 := Lib.hid (Hp9.out.keepNo hc10)
          have Hs10 := Lib.hid hs10
          obtain ⟨A10, c10, rfl⟩ := hs10.slice
          clear hs10
          go_wp2_with (first | (with_reducible refine stop_append ?_) | (with_reducible refine stop_copy ?_) | (with_reducible refine stop_make ?_) | (with_reducible refine stop_lookup ?_) | (with_reducible refine stop_update ?_) | (with_reducible refine stop_slice ?_) | (with_reducible refine stop_range ?_) | (with_reducible refine stop_next ?_) | (with_reducible refine stop_convert ⟨_, rfl⟩ ?_) | (with_reducible refine stop_convertB ⟨_, _, _, rfl⟩ ?_) | (with_reducible refine stop_eqSlice ⟨_, _, rfl⟩ ?_))
          refine (ocut_any Hp10.out HIr.out).mono ?_
          rintro e w11 ⟨v11, rfl, hc11, hs11⟩
          have hcr11 : Chg (Ge w3.heap.size) w3 w11 := hcr10.trans hc11.of_no
          have Hs11 := Lib.hid hs11
          have Hs10' := Lib.hid (Hs10.out.keepNo hc11)
          obtain ⟨A11, c11, rfl⟩ := hs11.slice
          clear hs11
          go_wp2_with (first | (with_reducible refine stop_append ?_) | (with_reducible refine stop_copy ?_) | (with_reducible refine stop_make ?_) | (with_reducible refine stop_lookup ?_) | (with_reducible refine stop_update ?_) | (with_reducible refine stop_slice ?_) | (with_reducible refine stop_range ?_) | (with_reducible refine stop_next ?_) | (with_reducible refine stop_convert ⟨_, rfl⟩ ?_) | (with_reducible refine stop_convertB ⟨_, _, _, rfl⟩ ?_) | (with_reducible refine stop_eqSlice ⟨_, _, rfl⟩ ?_))
          refine (requal_any _ _ _ _ _ _ _ Hs10'.out Hs11.out (by omega) (by omega)).mono ?_
          rintro e w12 ⟨rfl, hc12⟩
          have hcr12 : Chg (Ge w3.heap.size) w3 w12 := hcr11.trans hc12.of_no
          go_wp2_with (first | (with_reducible refine stop_append ?_) | (with_reducible refine stop_copy ?_) | (with_reducible refine stop_make ?_) | (with_reducible refine stop_lookup ?_) | (with_reducible refine stop_update ?_) | (with_reducible refine stop_slice ?_) | (with_reducible refine stop_range ?_) | (with_reducible refine stop_next ?_) | (with_reducible refine stop_convert ⟨_, rfl⟩ ?_) | (with_reducible refine stop_convertB ⟨_, _, _, rfl⟩ ?_) | (with_reducible refine stop_eqSlice ⟨_, _, rfl⟩ ?_))
          go_ret
          exact ⟨by simp, hc03.old hcr12 (fun i hi => by have := hc03.size; simp only [Ge] at hi; omega)⟩
    · go_enter Try.func6, Try.ntmps6
      go_wp2_with (first | (with_reducible refine stop_append ?_) | (with_reducible refine stop_copy ?_) | (with_reducible refine stop_make ?_) | (with_reducible refine stop_lookup ?_) | (with_reducible refine stop_update ?_) | (with_reducible refine stop_slice ?_) | (with_reducible refine stop_range ?_) | (with_reducible refine stop_next ?_) | (with_reducible refine stop_convert ⟨_, rfl⟩ ?_) | (with_reducible refine stop_convertB ⟨_, _, _, rfl⟩ ?_) | (with_reducible refine stop_eqSlice ⟨_, _, rfl⟩ ?_))
      refine Hfew.out.mono ?_
      rintro e w1 ⟨rfl, hc1⟩
      go_wp2_with (first | (with_reducible refine stop_append ?_) | (with_reducible refine stop_copy ?_) | (with_reducible refine stop_make ?_) | (with_reducible refine stop_lookup ?_) | (with_reducible refine stop_update ?_) | (with_reducible refine stop_slice ?_) | (with_reducible refine stop_range ?_) | (with_reducible refine stop_next ?_) | (with_reducible refine stop_convert ⟨_, rfl⟩ ?_) | (with_reducible refine stop_convertB ⟨_, _, _, rfl⟩ ?_) | (with_reducible refine stop_eqSlice ⟨_, _, rfl⟩ ?_))
      refine (Hmine.out _ hc1).mono ?_
      rintro e w2 ⟨v2, rfl, hc2, hs2⟩
      obtain ⟨A2, c2, rfl⟩ := hs2.slice
      go_wp2_with (first | (with_reducible refine stop_append ?_) | (with_reducible refine stop_copy ?_) | (with_reducible refine stop_make ?_) | (with_reducible refine stop_lookup ?_) | (with_reducible refine stop_update ?_) | (with_reducible refine stop_slice ?_) | (with_reducible refine stop_range ?_) | (with_reducible refine stop_next ?_) | (with_reducible refine stop_convert ⟨_, rfl⟩ ?_) | (with_reducible refine stop_convertB ⟨_, _, _, rfl⟩ ?_) | (with_reducible refine stop_eqSlice ⟨_, _, rfl⟩ ?_))
      refine (oof_no n _ l _ hn hs2).mono ?_
      rintro e w3 ⟨rfl, hc3⟩
      go_wp2_with (first | (with_reducible refine stop_append ?_) | (with_reducible refine stop_copy ?_) | (with_reducible refine stop_make ?_) | (with_reducible refine stop_lookup ?_) | (with_reducible refine stop_update ?_) | (with_reducible refine stop_slice ?_) | (with_reducible refine stop_range ?_) | (with_reducible refine stop_next ?_) | (with_reducible refine stop_convert ⟨_, rfl⟩ ?_) | (with_reducible refine stop_convertB ⟨_, _, _, rfl⟩ ?_) | (with_reducible refine stop_eqSlice ⟨_, _, rfl⟩ ?_))
      refine (onew_no n _ hn).mono ?_
      rintro e w4 ⟨rfl, hc4⟩
      go_wp2_with (first | (with_reducible refine stop_append ?_) | (with_reducible refine stop_copy ?_) | (with_reducible refine stop_make ?_) | (with_reducible refine stop_lookup ?_) | (with_reducible refine stop_update ?_) | (with_reducible refine stop_slice ?_) | (with_reducible refine stop_range ?_) | (with_reducible refine stop_next ?_) | (with_reducible refine stop_convert ⟨_, rfl⟩ ?_) | (with_reducible refine stop_convertB ⟨_, _, _, rfl⟩ ?_) | (with_reducible refine stop_eqSlice ⟨_, _, rfl⟩ ?_))
      refine (oalive_any _).mono ?_
      rintro e w5 ⟨rfl, hc5⟩
      go_wp2_with (first | (with_reducible refine stop_append ?_) | (with_reducible refine stop_copy ?_) | (with_reducible refine stop_make ?_) | (with_reducible refine stop_lookup ?_) | (with_reducible refine stop_update ?_) | (with_reducible refine stop_slice ?_) | (with_reducible refine stop_range ?_) | (with_reducible refine stop_next ?_) | (with_reducible refine stop_convert ⟨_, rfl⟩ ?_) | (with_reducible refine stop_convertB ⟨_, _, _, rfl⟩ ?_) | (with_reducible refine stop_eqSlice ⟨_, _, rfl⟩ ?_))
      go_ret
      exact ⟨rfl, (((hc1.trans hc2).trans hc3).trans hc4).trans hc5⟩
end Go.Proofs.Ytbjpoamnglfjeaa
