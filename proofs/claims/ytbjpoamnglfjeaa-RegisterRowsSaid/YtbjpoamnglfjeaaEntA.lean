/- Walks of package entry: within, Right. -/
import Derived.Test.YtbjpoamnglfjeaaVecA
set_option linter.unusedVariables false
set_option linter.unusedSimpArgs false
namespace Go.Proofs.Ytbjpoamnglfjeaa
open Go.RowKit Cb

theorem ewithin_any (n a b : Int) (w : World) : Calls Try.prog 92 #[.int .i64 n, .int .i64 a, .int .i64 b] w fun e w' => e = .returned (.bool (wiB n a b)) ∧ w = w' := by
  have hd : ∀ r, wiB n a b = r → Hid (wiB n a b = r) := fun _ h => h
  by_cases h : a ≤ n
  · have H := hd _ (by rw [wiB, decide_eq_true h, Bool.true_and])
    go_enter Try.func92, Try.ntmps92
    go_wp2
    go_ret
    rw [H.out]; exact ⟨rfl, rfl⟩
  · have H := hd _ (by rw [wiB, decide_eq_false h, Bool.false_and])
    go_enter Try.func92, Try.ntmps92
    go_wp2
    go_ret
    rw [H.out]; exact ⟨rfl, rfl⟩
/-- An entry's value, its cut a slice value. -/
def entV (e : Ent) (v : Value) : Value := .agg #[.int .i64 e.1, .int .i64 e.2.1, v, .int .i64 e.2.2.2.1, .int .i64 e.2.2.2.2.1, .int .i64 e.2.2.2.2.2]
set_option maxRecDepth 100000 in
set_option maxHeartbeats 1000000 in
theorem eright_any (F : Nat → Prop) (e : Ent) (v : Value) (w : World) (hs : Sl F w v e.2.2.1) (hl : e.2.2.1.length * 8 ≤ 140737488355328) :
    Calls Try.prog 62 #[entV e v] w fun x w' => x = .returned (.bool (entR e)) ∧ Chg No w w' := by
  obtain ⟨n, k, cut, tag, t, p⟩ := e
  simp only at hs hl
  obtain ⟨A, c, rfl, hc, _⟩ := id hs
  have o1 := alloc_obj w (.cells #[.int .i64 n, .int .i64 k, .slice A cut.length c, .int .i64 tag, .int .i64 t, .int .i64 p] 58)
  have hc0 := (Chg.refl No w).alloc (.cells #[.int .i64 n, .int .i64 k, .slice A cut.length c, .int .i64 tag, .int .i64 t, .int .i64 p] 58)
  have Hv := Lib.hid (fun W hW => vright_any F _ _ W (hs.keepNo hW) hl)
  have Hw1 := Lib.hid (ewithin_any n 1 1099511627776)
  have Hw2 := Lib.hid (ewithin_any tag 0 1073741824)
  have Hw3 := Lib.hid (ewithin_any t 1 64)
  have Hw4 := Lib.hid (ewithin_any p 0 1099511627776)
  have H := Lib.hid (show (wiB n 1 1099511627776 && (if k = 1 then vright cut && (decide (tag = 0) && (decide (t = 0) && decide (p = 0))) else if k = 2 then decide (cut.length = 0) && (wiB tag 0 1073741824 && (wiB t 1 64 && wiB p 0 1099511627776)) else false)) = entR (n, k, cut, tag, t, p) from rfl)
  unfold entV
  simp only
  generalize entR (n, k, cut, tag, t, p) = r at H ⊢
  generalize wiB n 1 1099511627776 = b1 at Hw1 H
  generalize wiB tag 0 1073741824 = b2 at Hw2 H
  generalize wiB t 1 64 = b3 at Hw3 H
  generalize wiB p 0 1099511627776 = b4 at Hw4 H
  generalize vright cut = b5 at Hv H
  clear hs
  cases b1 with
  | false =>
    go_enter Try.func62, Try.ntmps62
    go_wp2_with (first | (with_reducible refine stop_append ?_) | (with_reducible refine stop_copy ?_) | (with_reducible refine stop_make ?_) | (with_reducible refine stop_lookup ?_) | (with_reducible refine stop_update ?_) | (with_reducible refine stop_slice ?_) | (with_reducible refine stop_range ?_) | (with_reducible refine stop_next ?_) | (with_reducible refine stop_convert ⟨_, rfl⟩ ?_) | (with_reducible refine stop_convertB ⟨_, _, _, rfl⟩ ?_) | (with_reducible refine stop_eqSlice ⟨_, _, rfl⟩ ?_))
    generalize w.alloc (.cells #[.int .i64 n, .int .i64 k, .slice A cut.length c, .int .i64 tag, .int .i64 t, .int .i64 p] 58) = w0 at *
    generalize w.heap.size = q at *
    refine (Hw1.out _).mono ?_
    rintro x w1 ⟨rfl, rfl⟩
    go_wp2_with (first | (with_reducible refine stop_append ?_) | (with_reducible refine stop_copy ?_) | (with_reducible refine stop_make ?_) | (with_reducible refine stop_lookup ?_) | (with_reducible refine stop_update ?_) | (with_reducible refine stop_slice ?_) | (with_reducible refine stop_range ?_) | (with_reducible refine stop_next ?_) | (with_reducible refine stop_convert ⟨_, rfl⟩ ?_) | (with_reducible refine stop_convertB ⟨_, _, _, rfl⟩ ?_) | (with_reducible refine stop_eqSlice ⟨_, _, rfl⟩ ?_))
    go_ret
    exact ⟨by rw [← H.out]; rfl, hc0⟩
  | true =>
    by_cases hk1 : k = 1
    · subst hk1
      cases b5 with
      | false =>
        go_enter Try.func62, Try.ntmps62
        go_wp2_with (first | (with_reducible refine stop_append ?_) | (with_reducible refine stop_copy ?_) | (with_reducible refine stop_make ?_) | (with_reducible refine stop_lookup ?_) | (with_reducible refine stop_update ?_) | (with_reducible refine stop_slice ?_) | (with_reducible refine stop_range ?_) | (with_reducible refine stop_next ?_) | (with_reducible refine stop_convert ⟨_, rfl⟩ ?_) | (with_reducible refine stop_convertB ⟨_, _, _, rfl⟩ ?_) | (with_reducible refine stop_eqSlice ⟨_, _, rfl⟩ ?_))
        generalize w.alloc (.cells #[.int .i64 n, .int .i64 1, .slice A cut.length c, .int .i64 tag, .int .i64 t, .int .i64 p] 58) = w0 at *
        generalize w.heap.size = q at *
        refine (Hw1.out _).mono ?_
        rintro x w1 ⟨rfl, rfl⟩
        have c1 := cell_obj (i := 1) o1 rfl
        have c2 := cell_obj (i := 2) o1 rfl
        go_wp2_with (first | (with_reducible refine stop_append ?_) | (with_reducible refine stop_copy ?_) | (with_reducible refine stop_make ?_) | (with_reducible refine stop_lookup ?_) | (with_reducible refine stop_update ?_) | (with_reducible refine stop_slice ?_) | (with_reducible refine stop_range ?_) | (with_reducible refine stop_next ?_) | (with_reducible refine stop_convert ⟨_, rfl⟩ ?_) | (with_reducible refine stop_convertB ⟨_, _, _, rfl⟩ ?_) | (with_reducible refine stop_eqSlice ⟨_, _, rfl⟩ ?_))
        refine (Hv.out _ hc0).mono ?_
        rintro x w2 ⟨rfl, hc2⟩
        go_wp2_with (first | (with_reducible refine stop_append ?_) | (with_reducible refine stop_copy ?_) | (with_reducible refine stop_make ?_) | (with_reducible refine stop_lookup ?_) | (with_reducible refine stop_update ?_) | (with_reducible refine stop_slice ?_) | (with_reducible refine stop_range ?_) | (with_reducible refine stop_next ?_) | (with_reducible refine stop_convert ⟨_, rfl⟩ ?_) | (with_reducible refine stop_convertB ⟨_, _, _, rfl⟩ ?_) | (with_reducible refine stop_eqSlice ⟨_, _, rfl⟩ ?_))
        go_ret
        exact ⟨by rw [← H.out]; simp, hc0.trans hc2⟩
      | true =>
        go_enter Try.func62, Try.ntmps62
        go_wp2_with (first | (with_reducible refine stop_append ?_) | (with_reducible refine stop_copy ?_) | (with_reducible refine stop_make ?_) | (with_reducible refine stop_lookup ?_) | (with_reducible refine stop_update ?_) | (with_reducible refine stop_slice ?_) | (with_reducible refine stop_range ?_) | (with_reducible refine stop_next ?_) | (with_reducible refine stop_convert ⟨_, rfl⟩ ?_) | (with_reducible refine stop_convertB ⟨_, _, _, rfl⟩ ?_) | (with_reducible refine stop_eqSlice ⟨_, _, rfl⟩ ?_))
        generalize w.alloc (.cells #[.int .i64 n, .int .i64 1, .slice A cut.length c, .int .i64 tag, .int .i64 t, .int .i64 p] 58) = w0 at *
        generalize w.heap.size = q at *
        refine (Hw1.out _).mono ?_
        rintro x w1 ⟨rfl, rfl⟩
        have c1 := cell_obj (i := 1) o1 rfl
        have c2 := cell_obj (i := 2) o1 rfl
        go_wp2_with (first | (with_reducible refine stop_append ?_) | (with_reducible refine stop_copy ?_) | (with_reducible refine stop_make ?_) | (with_reducible refine stop_lookup ?_) | (with_reducible refine stop_update ?_) | (with_reducible refine stop_slice ?_) | (with_reducible refine stop_range ?_) | (with_reducible refine stop_next ?_) | (with_reducible refine stop_convert ⟨_, rfl⟩ ?_) | (with_reducible refine stop_convertB ⟨_, _, _, rfl⟩ ?_) | (with_reducible refine stop_eqSlice ⟨_, _, rfl⟩ ?_))
        refine (Hv.out _ hc0).mono ?_
        rintro x w2 ⟨rfl, hc2⟩
        have c3 := hc2.cell (cell_obj (i := 3) o1 rfl) (not_no _)
        have c4 := hc2.cell (cell_obj (i := 4) o1 rfl) (not_no _)
        have c5 := hc2.cell (cell_obj (i := 5) o1 rfl) (not_no _)
        by_cases ht : tag = 0
        · subst ht
          by_cases h2 : t = 0 ∧ p = 0
          · obtain ⟨rfl, rfl⟩ := h2
            go_wp2_with (first | (with_reducible refine stop_append ?_) | (with_reducible refine stop_copy ?_) | (with_reducible refine stop_make ?_) | (with_reducible refine stop_lookup ?_) | (with_reducible refine stop_update ?_) | (with_reducible refine stop_slice ?_) | (with_reducible refine stop_range ?_) | (with_reducible refine stop_next ?_) | (with_reducible refine stop_convert ⟨_, rfl⟩ ?_) | (with_reducible refine stop_convertB ⟨_, _, _, rfl⟩ ?_) | (with_reducible refine stop_eqSlice ⟨_, _, rfl⟩ ?_))
            go_ret
            exact ⟨by rw [← H.out]; simp, hc0.trans hc2⟩
          · have h2' : (t == 0 && p == 0) = false := by simpa using h2
            go_wp2_with (first | (with_reducible refine stop_append ?_) | (with_reducible refine stop_copy ?_) | (with_reducible refine stop_make ?_) | (with_reducible refine stop_lookup ?_) | (with_reducible refine stop_update ?_) | (with_reducible refine stop_slice ?_) | (with_reducible refine stop_range ?_) | (with_reducible refine stop_next ?_) | (with_reducible refine stop_convert ⟨_, rfl⟩ ?_) | (with_reducible refine stop_convertB ⟨_, _, _, rfl⟩ ?_) | (with_reducible refine stop_eqSlice ⟨_, _, rfl⟩ ?_))
            all_goals
              go_ret
              exact ⟨by rw [← H.out]; simp; exact fun a b => h2 ⟨a, b⟩, hc0.trans hc2⟩
        · have ht1 : (tag == 0) = false := by simpa using ht
          go_wp2_with (first | (with_reducible refine stop_append ?_) | (with_reducible refine stop_copy ?_) | (with_reducible refine stop_make ?_) | (with_reducible refine stop_lookup ?_) | (with_reducible refine stop_update ?_) | (with_reducible refine stop_slice ?_) | (with_reducible refine stop_range ?_) | (with_reducible refine stop_next ?_) | (with_reducible refine stop_convert ⟨_, rfl⟩ ?_) | (with_reducible refine stop_convertB ⟨_, _, _, rfl⟩ ?_) | (with_reducible refine stop_eqSlice ⟨_, _, rfl⟩ ?_))
          go_ret
          exact ⟨by rw [← H.out]; simp [ht], hc0.trans hc2⟩
    · have hk1' : (k == 1) = false := by simpa using hk1
      have Hk1 := Lib.hid hk1
      clear hk1
      by_cases hk2 : k = 2
      · subst hk2
        by_cases hcut : cut.length = 0
        · have Hcut := Lib.hid hcut
          have hcut1 : ((cut.length : Int) == 0) = true := by simp; simpa using hcut
          clear hcut
          cases b2 with
          | false =>
            go_enter Try.func62, Try.ntmps62
            go_wp2_with (first | (with_reducible refine stop_append ?_) | (with_reducible refine stop_copy ?_) | (with_reducible refine stop_make ?_) | (with_reducible refine stop_lookup ?_) | (with_reducible refine stop_update ?_) | (with_reducible refine stop_slice ?_) | (with_reducible refine stop_range ?_) | (with_reducible refine stop_next ?_) | (with_reducible refine stop_convert ⟨_, rfl⟩ ?_) | (with_reducible refine stop_convertB ⟨_, _, _, rfl⟩ ?_) | (with_reducible refine stop_eqSlice ⟨_, _, rfl⟩ ?_))
            generalize w.alloc (.cells #[.int .i64 n, .int .i64 2, .slice A cut.length c, .int .i64 tag, .int .i64 t, .int .i64 p] 58) = w0 at *
            generalize w.heap.size = q at *
            refine (Hw1.out _).mono ?_
            rintro x w1 ⟨rfl, rfl⟩
            have c1 := cell_obj (i := 1) o1 rfl
            have c2 := cell_obj (i := 2) o1 rfl
            have c3 := cell_obj (i := 3) o1 rfl
            go_wp2_with (first | (with_reducible refine stop_append ?_) | (with_reducible refine stop_copy ?_) | (with_reducible refine stop_make ?_) | (with_reducible refine stop_lookup ?_) | (with_reducible refine stop_update ?_) | (with_reducible refine stop_slice ?_) | (with_reducible refine stop_range ?_) | (with_reducible refine stop_next ?_) | (with_reducible refine stop_convert ⟨_, rfl⟩ ?_) | (with_reducible refine stop_convertB ⟨_, _, _, rfl⟩ ?_) | (with_reducible refine stop_eqSlice ⟨_, _, rfl⟩ ?_))
            refine (Hw2.out _).mono ?_
            rintro x w2 ⟨rfl, rfl⟩
            go_wp2_with (first | (with_reducible refine stop_append ?_) | (with_reducible refine stop_copy ?_) | (with_reducible refine stop_make ?_) | (with_reducible refine stop_lookup ?_) | (with_reducible refine stop_update ?_) | (with_reducible refine stop_slice ?_) | (with_reducible refine stop_range ?_) | (with_reducible refine stop_next ?_) | (with_reducible refine stop_convert ⟨_, rfl⟩ ?_) | (with_reducible refine stop_convertB ⟨_, _, _, rfl⟩ ?_) | (with_reducible refine stop_eqSlice ⟨_, _, rfl⟩ ?_))
            go_ret
            exact ⟨by rw [← H.out]; simp, hc0⟩
          | true =>
            cases b3 with
            | false =>
              go_enter Try.func62, Try.ntmps62
              go_wp2_with (first | (with_reducible refine stop_append ?_) | (with_reducible refine stop_copy ?_) | (with_reducible refine stop_make ?_) | (with_reducible refine stop_lookup ?_) | (with_reducible refine stop_update ?_) | (with_reducible refine stop_slice ?_) | (with_reducible refine stop_range ?_) | (with_reducible refine stop_next ?_) | (with_reducible refine stop_convert ⟨_, rfl⟩ ?_) | (with_reducible refine stop_convertB ⟨_, _, _, rfl⟩ ?_) | (with_reducible refine stop_eqSlice ⟨_, _, rfl⟩ ?_))
              generalize w.alloc (.cells #[.int .i64 n, .int .i64 2, .slice A cut.length c, .int .i64 tag, .int .i64 t, .int .i64 p] 58) = w0 at *
              generalize w.heap.size = q at *
              refine (Hw1.out _).mono ?_
              rintro x w1 ⟨rfl, rfl⟩
              have c1 := cell_obj (i := 1) o1 rfl
              have c2 := cell_obj (i := 2) o1 rfl
              have c3 := cell_obj (i := 3) o1 rfl
              have c4 := cell_obj (i := 4) o1 rfl
              go_wp2_with (first | (with_reducible refine stop_append ?_) | (with_reducible refine stop_copy ?_) | (with_reducible refine stop_make ?_) | (with_reducible refine stop_lookup ?_) | (with_reducible refine stop_update ?_) | (with_reducible refine stop_slice ?_) | (with_reducible refine stop_range ?_) | (with_reducible refine stop_next ?_) | (with_reducible refine stop_convert ⟨_, rfl⟩ ?_) | (with_reducible refine stop_convertB ⟨_, _, _, rfl⟩ ?_) | (with_reducible refine stop_eqSlice ⟨_, _, rfl⟩ ?_))
              refine (Hw2.out _).mono ?_
              rintro x w2 ⟨rfl, rfl⟩
              go_wp2_with (first | (with_reducible refine stop_append ?_) | (with_reducible refine stop_copy ?_) | (with_reducible refine stop_make ?_) | (with_reducible refine stop_lookup ?_) | (with_reducible refine stop_update ?_) | (with_reducible refine stop_slice ?_) | (with_reducible refine stop_range ?_) | (with_reducible refine stop_next ?_) | (with_reducible refine stop_convert ⟨_, rfl⟩ ?_) | (with_reducible refine stop_convertB ⟨_, _, _, rfl⟩ ?_) | (with_reducible refine stop_eqSlice ⟨_, _, rfl⟩ ?_))
              refine (Hw3.out _).mono ?_
              rintro x w3 ⟨rfl, rfl⟩
              go_wp2_with (first | (with_reducible refine stop_append ?_) | (with_reducible refine stop_copy ?_) | (with_reducible refine stop_make ?_) | (with_reducible refine stop_lookup ?_) | (with_reducible refine stop_update ?_) | (with_reducible refine stop_slice ?_) | (with_reducible refine stop_range ?_) | (with_reducible refine stop_next ?_) | (with_reducible refine stop_convert ⟨_, rfl⟩ ?_) | (with_reducible refine stop_convertB ⟨_, _, _, rfl⟩ ?_) | (with_reducible refine stop_eqSlice ⟨_, _, rfl⟩ ?_))
              go_ret
              exact ⟨by rw [← H.out]; simp, hc0⟩
            | true =>
              go_enter Try.func62, Try.ntmps62
              go_wp2_with (first | (with_reducible refine stop_append ?_) | (with_reducible refine stop_copy ?_) | (with_reducible refine stop_make ?_) | (with_reducible refine stop_lookup ?_) | (with_reducible refine stop_update ?_) | (with_reducible refine stop_slice ?_) | (with_reducible refine stop_range ?_) | (with_reducible refine stop_next ?_) | (with_reducible refine stop_convert ⟨_, rfl⟩ ?_) | (with_reducible refine stop_convertB ⟨_, _, _, rfl⟩ ?_) | (with_reducible refine stop_eqSlice ⟨_, _, rfl⟩ ?_))
              generalize w.alloc (.cells #[.int .i64 n, .int .i64 2, .slice A cut.length c, .int .i64 tag, .int .i64 t, .int .i64 p] 58) = w0 at *
              generalize w.heap.size = q at *
              refine (Hw1.out _).mono ?_
              rintro x w1 ⟨rfl, rfl⟩
              have c1 := cell_obj (i := 1) o1 rfl
              have c2 := cell_obj (i := 2) o1 rfl
              have c3 := cell_obj (i := 3) o1 rfl
              have c4 := cell_obj (i := 4) o1 rfl
              have c5 := cell_obj (i := 5) o1 rfl
              go_wp2_with (first | (with_reducible refine stop_append ?_) | (with_reducible refine stop_copy ?_) | (with_reducible refine stop_make ?_) | (with_reducible refine stop_lookup ?_) | (with_reducible refine stop_update ?_) | (with_reducible refine stop_slice ?_) | (with_reducible refine stop_range ?_) | (with_reducible refine stop_next ?_) | (with_reducible refine stop_convert ⟨_, rfl⟩ ?_) | (with_reducible refine stop_convertB ⟨_, _, _, rfl⟩ ?_) | (with_reducible refine stop_eqSlice ⟨_, _, rfl⟩ ?_))
              refine (Hw2.out _).mono ?_
              rintro x w2 ⟨rfl, rfl⟩
              go_wp2_with (first | (with_reducible refine stop_append ?_) | (with_reducible refine stop_copy ?_) | (with_reducible refine stop_make ?_) | (with_reducible refine stop_lookup ?_) | (with_reducible refine stop_update ?_) | (with_reducible refine stop_slice ?_) | (with_reducible refine stop_range ?_) | (with_reducible refine stop_next ?_) | (with_reducible refine stop_convert ⟨_, rfl⟩ ?_) | (with_reducible refine stop_convertB ⟨_, _, _, rfl⟩ ?_) | (with_reducible refine stop_eqSlice ⟨_, _, rfl⟩ ?_))
              refine (Hw3.out _).mono ?_
              rintro x w3 ⟨rfl, rfl⟩
              go_wp2_with (first | (with_reducible refine stop_append ?_) | (with_reducible refine stop_copy ?_) | (with_reducible refine stop_make ?_) | (with_reducible refine stop_lookup ?_) | (with_reducible refine stop_update ?_) | (with_reducible refine stop_slice ?_) | (with_reducible refine stop_range ?_) | (with_reducible refine stop_next ?_) | (with_reducible refine stop_convert ⟨_, rfl⟩ ?_) | (with_reducible refine stop_convertB ⟨_, _, _, rfl⟩ ?_) | (with_reducible refine stop_eqSlice ⟨_, _, rfl⟩ ?_))
              refine (Hw4.out _).mono ?_
              rintro x w4 ⟨rfl, rfl⟩
              go_wp2_with (first | (with_reducible refine stop_append ?_) | (with_reducible refine stop_copy ?_) | (with_reducible refine stop_make ?_) | (with_reducible refine stop_lookup ?_) | (with_reducible refine stop_update ?_) | (with_reducible refine stop_slice ?_) | (with_reducible refine stop_range ?_) | (with_reducible refine stop_next ?_) | (with_reducible refine stop_convert ⟨_, rfl⟩ ?_) | (with_reducible refine stop_convertB ⟨_, _, _, rfl⟩ ?_) | (with_reducible refine stop_eqSlice ⟨_, _, rfl⟩ ?_))
              go_ret
              exact ⟨by rw [← H.out]; simp [Hcut.out], hc0⟩
        · have hcut' : ((cut.length : Int) == 0) = false := by simp; simpa using hcut
          have Hcut := Lib.hid hcut
          go_enter Try.func62, Try.ntmps62
          go_wp2_with (first | (with_reducible refine stop_append ?_) | (with_reducible refine stop_copy ?_) | (with_reducible refine stop_make ?_) | (with_reducible refine stop_lookup ?_) | (with_reducible refine stop_update ?_) | (with_reducible refine stop_slice ?_) | (with_reducible refine stop_range ?_) | (with_reducible refine stop_next ?_) | (with_reducible refine stop_convert ⟨_, rfl⟩ ?_) | (with_reducible refine stop_convertB ⟨_, _, _, rfl⟩ ?_) | (with_reducible refine stop_eqSlice ⟨_, _, rfl⟩ ?_))
          generalize w.alloc (.cells #[.int .i64 n, .int .i64 2, .slice A cut.length c, .int .i64 tag, .int .i64 t, .int .i64 p] 58) = w0 at *
          generalize w.heap.size = q at *
          refine (Hw1.out _).mono ?_
          rintro x w1 ⟨rfl, rfl⟩
          have c1 := cell_obj (i := 1) o1 rfl
          have c2 := cell_obj (i := 2) o1 rfl
          go_wp2_with (first | (with_reducible refine stop_append ?_) | (with_reducible refine stop_copy ?_) | (with_reducible refine stop_make ?_) | (with_reducible refine stop_lookup ?_) | (with_reducible refine stop_update ?_) | (with_reducible refine stop_slice ?_) | (with_reducible refine stop_range ?_) | (with_reducible refine stop_next ?_) | (with_reducible refine stop_convert ⟨_, rfl⟩ ?_) | (with_reducible refine stop_convertB ⟨_, _, _, rfl⟩ ?_) | (with_reducible refine stop_eqSlice ⟨_, _, rfl⟩ ?_))
          go_ret
          exact ⟨by rw [← H.out]; have := Hcut.out; simp [this], hc0⟩
      · have hk2' : (k == 2) = false := by simpa using hk2
        have Hk2 := Lib.hid hk2
        clear hk2
        go_enter Try.func62, Try.ntmps62
        go_wp2_with (first | (with_reducible refine stop_append ?_) | (with_reducible refine stop_copy ?_) | (with_reducible refine stop_make ?_) | (with_reducible refine stop_lookup ?_) | (with_reducible refine stop_update ?_) | (with_reducible refine stop_slice ?_) | (with_reducible refine stop_range ?_) | (with_reducible refine stop_next ?_) | (with_reducible refine stop_convert ⟨_, rfl⟩ ?_) | (with_reducible refine stop_convertB ⟨_, _, _, rfl⟩ ?_) | (with_reducible refine stop_eqSlice ⟨_, _, rfl⟩ ?_))
        generalize w.alloc (.cells #[.int .i64 n, .int .i64 k, .slice A cut.length c, .int .i64 tag, .int .i64 t, .int .i64 p] 58) = w0 at *
        generalize w.heap.size = q at *
        refine (Hw1.out _).mono ?_
        rintro x w1 ⟨rfl, rfl⟩
        have c1 := cell_obj (i := 1) o1 rfl
        go_wp2_with (first | (with_reducible refine stop_append ?_) | (with_reducible refine stop_copy ?_) | (with_reducible refine stop_make ?_) | (with_reducible refine stop_lookup ?_) | (with_reducible refine stop_update ?_) | (with_reducible refine stop_slice ?_) | (with_reducible refine stop_range ?_) | (with_reducible refine stop_next ?_) | (with_reducible refine stop_convert ⟨_, rfl⟩ ?_) | (with_reducible refine stop_convertB ⟨_, _, _, rfl⟩ ?_) | (with_reducible refine stop_eqSlice ⟨_, _, rfl⟩ ?_))
        go_ret
        exact ⟨by rw [← H.out]; simp [Hk1.out, Hk2.out], hc0⟩
end Go.Proofs.Ytbjpoamnglfjeaa
