/- Walks of the document's object: Right. -/
import Derived.Test.YtnioljagmimojaaRefT
import Derived.Test.YtnioljagmimojaaObjD
import Derived.Test.YtnioljagmimojaaAux
set_option linter.unusedVariables false
set_option linter.unusedSimpArgs false
namespace Go.Proofs.Ytnioljagmimojaa
open Go.RowKit Cb

def lastF (l : List Int) (k : Nat) : Int := if k = 0 then -1 else l.getD (k - 1) 0
theorem lastF_succ (l : List Int) (k : Nat) (h : k < l.length) : lastF l (k + 1) = l[k] := by
  unfold lastF; rw [if_neg (by omega), Nat.add_sub_cancel, List.getD_eq_getElem?_getD, List.getElem?_eq_getElem h]; rfl
theorem ris_of {l : List Int} (h : ∀ k (h : k < l.length), lastF l k < l[k] ∧ l[k] ≤ 1073741824) (hl : l.length ≤ 16) : risB l = true := by
  have h0 : ∀ k (h : k < l.length), 0 ≤ l[k] := by
    intro k
    induction k with
    | zero => intro hk; have := (h 0 hk).1; simp only [lastF, if_true] at this; omega
    | succ k ih => intro hk; have := (h (k + 1) hk).1; rw [lastF_succ l k (by omega)] at this; have := ih (by omega); omega
  rw [risB_yes, decide_eq_true_eq]; exact hl
  intro i hi
  rw [okAt_get l i l[i] (List.getElem?_eq_getElem hi)]
  have h1 := h i hi; have h2 := h0 i hi
  have h3 : ¬ (0 < i ∧ l[i] ≤ l.getD (i - 1) 0) := fun hh => by
    have := h1.1; unfold lastF at this; rw [if_neg (by omega)] at this; omega
  simp only [Bool.and_eq_true, decide_eq_true_eq, Bool.not_eq_true', Bool.and_eq_false_iff, decide_eq_false_iff_not]
  refine ⟨⟨h2, h1.2⟩, ?_⟩
  by_cases hi0 : 0 < i
  · right; exact fun hh => h3 ⟨hi0, hh⟩
  · left; exact hi0
theorem ris_not {l : List Int} {k : Nat} (hk : k < l.length) (h : l[k] ≤ lastF l k ∨ 1073741824 < l[k]) : risB l = false := by
  refine risB_no hk ?_
  rw [okAt_get l k l[k] (List.getElem?_eq_getElem hk)]
  rcases h with h | h
  · unfold lastF at h
    split at h
    · have : ¬ 0 ≤ l[k] := by omega
      simp [this]
    · have h1 : 0 < k := by omega
      simp only [h1, h, decide_true, Bool.and_self, Bool.not_true, Bool.and_false]
  · have : ¬ l[k] ≤ 1073741824 := by omega
    simp [this]
theorem rightB_yes {id : Int} {rs : List (Int × Int)} {ws : List (Int × ByteArray)} (hi : 0 ≤ id ∧ id ≤ 1099511627776) (hr : rs.length ≤ 16) (hw : ws.length ≤ 16)
    (h1 : ∀ k (h : k < rs.length), lastF (rs.map (·.1)) k < rs[k].1 ∧ rs[k].1 ≤ 1073741824 ∧ 0 ≤ rs[k].2 ∧ rs[k].2 ≤ 1099511627776)
    (h2 : ∀ k (h : k < ws.length), lastF (ws.map (·.1)) k < ws[k].1 ∧ ws[k].1 ≤ 1073741824 ∧ ws[k].2.size ≤ 48) : rightB id rs ws = true := by
  unfold rightB
  rw [ris_of (l := rs.map (·.1)) (fun k h => by rw [List.getElem_map]; have := h1 k (by simpa using h); exact ⟨this.1, this.2.1⟩) (by simpa using hr),
    ris_of (l := ws.map (·.1)) (fun k h => by rw [List.getElem_map]; have := h2 k (by simpa using h); exact ⟨this.1, this.2.1⟩) (by simpa using hw), (inB_iff _ _).2 hi]
  have a1 : rs.any badR = false := by
    rw [List.any_eq_false]; intro x hx
    obtain ⟨k, hk, rfl⟩ := List.mem_iff_getElem.1 hx
    have := h1 k hk
    simp only [badR, Bool.not_eq_true', Bool.not_eq_false]; exact (inB_iff _ _).2 this.2.2
  have a2 : ws.any badW = false := by
    rw [List.any_eq_false]; intro x hx
    obtain ⟨k, hk, rfl⟩ := List.mem_iff_getElem.1 hx
    have := h2 k hk
    simp [badW]; omega
  rw [a1, a2]; rfl
theorem rightB_bad {id : Int} {rs : List (Int × Int)} {ws : List (Int × ByteArray)} (h : id < 0 ∨ 1099511627776 < id ∨ 16 < rs.length ∨ 16 < ws.length) : rightB id rs ws = false := by
  cases hb : rightB id rs ws with
  | false => rfl
  | true => have := rightB_iff hb; omega
theorem rightB_badr {id : Int} {rs : List (Int × Int)} {ws : List (Int × ByteArray)} (k : Nat) (hk : k < rs.length) (h : rs[k].1 ≤ lastF (rs.map (·.1)) k ∨ 1073741824 < rs[k].1 ∨ rs[k].2 < 0 ∨ 1099511627776 < rs[k].2) : rightB id rs ws = false := by
  cases hb : rightB id rs ws with
  | false => rfl
  | true =>
    have h1 := (rightB_iff hb).2.1 rs[k] (List.getElem_mem hk)
    have h2 : risB (rs.map (·.1)) = true := by simp only [rightB, Bool.and_eq_true] at hb; exact hb.1.1.2
    have h3 : ¬ (rs[k].1 ≤ lastF (rs.map (·.1)) k) := fun h => by
      have := ris_not (l := rs.map (·.1)) (k := k) (by simpa using hk) (.inl (by rw [List.getElem_map]; exact h)); rw [this] at h2; cases h2
    omega
theorem rightB_badw {id : Int} {rs : List (Int × Int)} {ws : List (Int × ByteArray)} (k : Nat) (hk : k < ws.length) (h : ws[k].1 ≤ lastF (ws.map (·.1)) k ∨ 1073741824 < ws[k].1 ∨ 48 < ws[k].2.size) : rightB id rs ws = false := by
  cases hb : rightB id rs ws with
  | false => rfl
  | true =>
    have h1 := (rightB_iff hb).2.2.2.1 ws[k] (List.getElem_mem hk)
    have h2 : risB (ws.map (·.1)) = true := by simp only [rightB, Bool.and_eq_true] at hb; exact hb.1.2
    have h3 : ¬ (ws[k].1 ≤ lastF (ws.map (·.1)) k) := fun h => by
      have := ris_not (l := ws.map (·.1)) (k := k) (by simpa using hk) (.inl (by rw [List.getElem_map]; exact h)); rw [this] at h2; cases h2
    omega
set_option maxRecDepth 100000 in
set_option maxHeartbeats 1000000 in
theorem refright_any (F : Nat → Prop) (id : Int) (vr vw : Value) (rs : List (Int × Int)) (ws : List (Int × ByteArray)) (w : World) (hr : Sl F w vr rs) (hw : Sl F w vw ws) :
    Calls Try.prog 20 #[.agg #[.int .i64 id, vr, vw]] w fun e w' => e = .returned (.bool (rightB id rs ws)) ∧ Chg No w w' := by
  have hc0 := (Chg.refl No w).alloc (.cells #[.int .i64 id, vr, vw] 25)
  have ho := alloc_obj w (.cells #[.int .i64 id, vr, vw] 25)
  obtain ⟨AR, cR, rfl⟩ := hr.slice
  obtain ⟨AW, cW, rfl⟩ := hw.slice
  have hr := hr.keepNo hc0
  have hw := hw.keepNo hc0
  by_cases hbad : id < 0 ∨ 1099511627776 < id ∨ 16 < rs.length ∨ 16 < ws.length
  · rw [rightB_bad hbad]
    have h0 : id < 0 ∨ (¬ id < 0 ∧ 1099511627776 < id) ∨ (¬ id < 0 ∧ ¬ 1099511627776 < id ∧ (16 : Int) < rs.length) ∨ (¬ id < 0 ∧ ¬ 1099511627776 < id ∧ ¬ (16 : Int) < rs.length ∧ (16 : Int) < ws.length) := by omega
    clear hbad
    rcases h0 with h | ⟨h, h2⟩ | ⟨h, h2, h3⟩ | ⟨h, h2, h3, h4⟩
    all_goals
      go_enter Try.func20, Try.ntmps20
      go_wp2_with (first | (with_reducible refine stop_append ?_) | (with_reducible refine stop_copy ?_) | (with_reducible refine stop_make ?_) | (with_reducible refine stop_lookup ?_) | (with_reducible refine stop_update ?_) | (with_reducible refine stop_slice ?_) | (with_reducible refine stop_range ?_) | (with_reducible refine stop_next ?_) | (with_reducible refine stop_convert ⟨_, rfl⟩ ?_) | (with_reducible refine stop_convertB ⟨_, _, _, rfl⟩ ?_) | (with_reducible refine stop_eqSlice ⟨_, _, rfl⟩ ?_))
      go_ret
      exact ⟨rfl, hc0⟩
  · simp only [not_or, Int.not_lt, Nat.not_lt] at hbad
    obtain ⟨h1, h2, h3, h4⟩ := hbad
    have q1 := cell_obj (i := 1) ho rfl
    have q2 := cell_obj (i := 2) ho rfl
    go_enter Try.func20, Try.ntmps20
    go_wp2_with (first | (with_reducible refine stop_append ?_) | (with_reducible refine stop_copy ?_) | (with_reducible refine stop_make ?_) | (with_reducible refine stop_lookup ?_) | (with_reducible refine stop_update ?_) | (with_reducible refine stop_slice ?_) | (with_reducible refine stop_range ?_) | (with_reducible refine stop_next ?_) | (with_reducible refine stop_convert ⟨_, rfl⟩ ?_) | (with_reducible refine stop_convertB ⟨_, _, _, rfl⟩ ?_) | (with_reducible refine stop_eqSlice ⟨_, _, rfl⟩ ?_))
    generalize w.alloc (.cells #[.int .i64 id, .slice AR rs.length cR, .slice AW ws.length cW] 25) = w0 at *
    generalize w.heap.size = q at *
    go_loop [3, 4] (fun v3 v4 => ∃ k : Nat, k ≤ rs.length ∧ v4 = .int .i64 k ∧ v3 = .int .i64 (lastF (rs.map (·.1)) k) ∧ ∀ i (h : i < rs.length), i < k → lastF (rs.map (·.1)) i < rs[i].1 ∧ rs[i].1 ≤ 1073741824 ∧ 0 ≤ rs[i].2 ∧ rs[i].2 ≤ 1099511627776) (fun _ v4 => rs.length - (intOf v4).toNat)
    case atStart => exact ⟨0, by omega, rfl, rfl, fun _ _ h => absurd h (by omega)⟩
    case round =>
      obtain ⟨k, hk, rfl, rfl, hall⟩ := hrel
      have Hall := Lib.hid hall; clear hall
      by_cases hlt : k < rs.length
      · obtain ⟨b, o, d, rfl, _, hbl, ⟨d1, d2, rfl, rfl, rfl⟩, ha⟩ := hr.get k hlt
        have ha0 := ha 0 _ rfl
        have ha1 := ha 1 _ rfl
        simp only [show Rep.n (Int × Int) = 2 from rfl, Nat.add_zero] at ha0 ha1
        clear ha
        have hnext := lastF_succ (rs.map (·.1)) k (by simpa using hlt)
        rw [List.getElem_map] at hnext
        generalize hx : rs[k] = x at ha0 ha1 hnext
        generalize hl : lastF (rs.map (·.1)) k = last at *
        obtain ⟨f, v⟩ := x
        simp only at ha0 ha1 hnext
        have Hx := Lib.hid hx; have Hl := Lib.hid hl; have Hnext := Lib.hid hnext
        clear hx hl hnext hr hw ho
        by_cases hbad : f ≤ last ∨ 1073741824 < f ∨ v < 0 ∨ 1099511627776 < v
        · have hB := rightB_badr (id := id) (ws := ws) k hlt (by rw [Hx.out, Hl.out]; exact hbad)
          have HB := Lib.hid hB; clear hB
          have h0 : f ≤ last ∨ (¬ f ≤ last ∧ 1073741824 < f) ∨ (¬ f ≤ last ∧ ¬ 1073741824 < f ∧ v < 0) ∨ (¬ f ≤ last ∧ ¬ 1073741824 < f ∧ ¬ v < 0 ∧ 1099511627776 < v) := by omega
          clear hbad
          rcases h0 with h | ⟨h, h2⟩ | ⟨h, h2, h3⟩ | ⟨h, h2, h3, h4⟩
          all_goals
            go_wp2_with (first | (with_reducible refine stop_append ?_) | (with_reducible refine stop_copy ?_) | (with_reducible refine stop_make ?_) | (with_reducible refine stop_lookup ?_) | (with_reducible refine stop_update ?_) | (with_reducible refine stop_slice ?_) | (with_reducible refine stop_range ?_) | (with_reducible refine stop_next ?_) | (with_reducible refine stop_convert ⟨_, rfl⟩ ?_) | (with_reducible refine stop_convertB ⟨_, _, _, rfl⟩ ?_) | (with_reducible refine stop_eqSlice ⟨_, _, rfl⟩ ?_))
            go_ret
            exact ⟨by rw [HB.out]; rfl, hc0⟩
        · simp only [not_or, Int.not_le, Int.not_lt] at hbad
          obtain ⟨g1, g2, g3, g4⟩ := hbad
          go_wp2_with (first | (with_reducible refine stop_append ?_) | (with_reducible refine stop_copy ?_) | (with_reducible refine stop_make ?_) | (with_reducible refine stop_lookup ?_) | (with_reducible refine stop_update ?_) | (with_reducible refine stop_slice ?_) | (with_reducible refine stop_range ?_) | (with_reducible refine stop_next ?_) | (with_reducible refine stop_convert ⟨_, rfl⟩ ?_) | (with_reducible refine stop_convertB ⟨_, _, _, rfl⟩ ?_) | (with_reducible refine stop_eqSlice ⟨_, _, rfl⟩ ?_))
          go_round
          case rel => exact ⟨k + 1, by omega, by go_num, by rw [Hnext.out], fun i h hi => by
            by_cases h' : i < k
            · exact Hall.out i h h'
            · obtain rfl : i = k := by omega
              rw [Hx.out, Hl.out]; exact ⟨g1, g2, g3, g4⟩⟩
          case measure => simp [intOf]; omega
      · obtain rfl : k = rs.length := by omega
        clear hr
        go_wp2_with (first | (with_reducible refine stop_append ?_) | (with_reducible refine stop_copy ?_) | (with_reducible refine stop_make ?_) | (with_reducible refine stop_lookup ?_) | (with_reducible refine stop_update ?_) | (with_reducible refine stop_slice ?_) | (with_reducible refine stop_range ?_) | (with_reducible refine stop_next ?_) | (with_reducible refine stop_convert ⟨_, rfl⟩ ?_) | (with_reducible refine stop_convertB ⟨_, _, _, rfl⟩ ?_) | (with_reducible refine stop_eqSlice ⟨_, _, rfl⟩ ?_))
        go_loop [3, 5] (fun v3 v5 => ∃ k : Nat, k ≤ ws.length ∧ v5 = .int .i64 k ∧ v3 = .int .i64 (lastF (ws.map (·.1)) k) ∧ ∀ i (h : i < ws.length), i < k → lastF (ws.map (·.1)) i < ws[i].1 ∧ ws[i].1 ≤ 1073741824 ∧ ws[i].2.size ≤ 48) (fun _ v5 => ws.length - (intOf v5).toNat)
        case atStart => exact ⟨0, by omega, rfl, rfl, fun _ _ h => absurd h (by omega)⟩
        case round =>
          obtain ⟨k, hk, rfl, rfl, hall⟩ := hrel
          have Hall2 := Lib.hid hall; clear hall
          by_cases hlt : k < ws.length
          · obtain ⟨b, o, d, rfl, _, hbl, ⟨d1, d2, rfl, rfl, rfl⟩, ha⟩ := hw.get k hlt
            have ha0 := ha 0 _ rfl
            have ha1 := ha 1 _ rfl
            simp only [show Rep.n (Int × ByteArray) = 2 from rfl, Nat.add_zero] at ha0 ha1
            clear ha
            have hnext := lastF_succ (ws.map (·.1)) k (by simpa using hlt)
            rw [List.getElem_map] at hnext
            generalize hx : ws[k] = x at ha0 ha1 hnext
            generalize hl : lastF (ws.map (·.1)) k = last at *
            obtain ⟨f, v⟩ := x
            simp only at ha0 ha1 hnext
            have Hx := Lib.hid hx; have Hl := Lib.hid hl; have Hnext := Lib.hid hnext
            clear hx hl hnext hw ho
            by_cases hbad : f ≤ last ∨ 1073741824 < f ∨ 48 < v.size
            · have hB := rightB_badw (id := id) (rs := rs) k hlt (by rw [Hx.out, Hl.out]; exact hbad)
              have HB := Lib.hid hB; clear hB
              have h0 : f ≤ last ∨ (¬ f ≤ last ∧ 1073741824 < f) ∨ (¬ f ≤ last ∧ ¬ 1073741824 < f ∧ (48 : Int) < v.size) := by omega
              clear hbad
              rcases h0 with h | ⟨h, h2⟩ | ⟨h, h2, h3⟩
              all_goals
                go_wp2_with (first | (with_reducible refine stop_append ?_) | (with_reducible refine stop_copy ?_) | (with_reducible refine stop_make ?_) | (with_reducible refine stop_lookup ?_) | (with_reducible refine stop_update ?_) | (with_reducible refine stop_slice ?_) | (with_reducible refine stop_range ?_) | (with_reducible refine stop_next ?_) | (with_reducible refine stop_convert ⟨_, rfl⟩ ?_) | (with_reducible refine stop_convertB ⟨_, _, _, rfl⟩ ?_) | (with_reducible refine stop_eqSlice ⟨_, _, rfl⟩ ?_))
                go_ret
                exact ⟨by rw [HB.out]; rfl, hc0⟩
            · simp only [not_or, Int.not_le, Int.not_lt, Nat.not_lt] at hbad
              obtain ⟨g1, g2, g3⟩ := hbad
              have g3' : ¬ (48 : Int) < v.size := by omega
              go_wp2_with (first | (with_reducible refine stop_append ?_) | (with_reducible refine stop_copy ?_) | (with_reducible refine stop_make ?_) | (with_reducible refine stop_lookup ?_) | (with_reducible refine stop_update ?_) | (with_reducible refine stop_slice ?_) | (with_reducible refine stop_range ?_) | (with_reducible refine stop_next ?_) | (with_reducible refine stop_convert ⟨_, rfl⟩ ?_) | (with_reducible refine stop_convertB ⟨_, _, _, rfl⟩ ?_) | (with_reducible refine stop_eqSlice ⟨_, _, rfl⟩ ?_))
              go_round
              case rel => exact ⟨k + 1, by omega, by go_num, by rw [Hnext.out], fun i h hi => by
                by_cases h' : i < k
                · exact Hall2.out i h h'
                · obtain rfl : i = k := by omega
                  rw [Hx.out, Hl.out]; exact ⟨g1, g2, g3⟩⟩
              case measure => simp [intOf]; omega
          · obtain rfl : k = ws.length := by omega
            clear hw
            go_wp2_with (first | (with_reducible refine stop_append ?_) | (with_reducible refine stop_copy ?_) | (with_reducible refine stop_make ?_) | (with_reducible refine stop_lookup ?_) | (with_reducible refine stop_update ?_) | (with_reducible refine stop_slice ?_) | (with_reducible refine stop_range ?_) | (with_reducible refine stop_next ?_) | (with_reducible refine stop_convert ⟨_, rfl⟩ ?_) | (with_reducible refine stop_convertB ⟨_, _, _, rfl⟩ ?_) | (with_reducible refine stop_eqSlice ⟨_, _, rfl⟩ ?_))
            go_ret
            exact ⟨by rw [rightB_yes ⟨h1, h2⟩ h3 h4 (fun k h => Hall.out k h h) (fun k h => Hall2.out k h h)]; rfl, hc0⟩
end Go.Proofs.Ytnioljagmimojaa
