/- Walks of package entry for a register: Same; rows of entries compared. -/
import Derived.Test.YtbjpoamnglfjeaaRegA
set_option linter.unusedVariables false
set_option linter.unusedSimpArgs false
namespace Go.Proofs.Ytbjpoamnglfjeaa
open Go.RowKit Cb

set_option maxRecDepth 100000 in
set_option maxHeartbeats 1000000 in
theorem esame_any (F G : Nat → Prop) (x y : Ent) (v u : Value) (w : World) (hx : Sl F w v x.2.2.1) (hy : Sl G w u y.2.2.1) (hl : x.2.2.1.length ≤ 1000000) (hl' : y.2.2.1.length ≤ 17592186044416) :
    Calls Try.prog 71 #[entV x v, entV y u] w fun e w' => e = .returned (.bool (decide (x = y))) ∧ Chg No w w' := by
  have Hq := Lib.hid (fun W (hW : Chg No w W) => vequal_any F G v u _ _ W (hx.keepNo hW) (hy.keepNo hW) hl hl')
  obtain ⟨n, k, cut, tag, t, p⟩ := x
  obtain ⟨n', k', cut', tag', t', p'⟩ := y
  simp only at *
  obtain ⟨A, c, rfl⟩ := hx.slice
  obtain ⟨B, d, rfl⟩ := hy.slice
  clear hx hy
  have hr : decide (((n, k, cut, tag, t, p) : Ent) = (n', k', cut', tag', t', p')) = (decide (n = n') && (decide (k = k') && (decide (cut = cut') && (decide (tag = tag') && (decide (t = t') && decide (p = p')))))) := by
    simp only [Prod.mk.injEq, Bool.decide_and]
  rw [hr]
  clear hr
  unfold entV
  simp only
  generalize decide (cut = cut') = cb at *
  have o1 := ((Chg.refl No (w.alloc (.cells #[.int .i64 n, .int .i64 k, .slice A cut.length c, .int .i64 tag, .int .i64 t, .int .i64 p] 58))).alloc (.cells #[.int .i64 n', .int .i64 k', .slice B cut'.length d, .int .i64 tag', .int .i64 t', .int .i64 p'] 58)).obj (alloc_obj w (.cells #[.int .i64 n, .int .i64 k, .slice A cut.length c, .int .i64 tag, .int .i64 t, .int .i64 p] 58)) (not_no _)
  have o2 := alloc_obj (w.alloc (.cells #[.int .i64 n, .int .i64 k, .slice A cut.length c, .int .i64 tag, .int .i64 t, .int .i64 p] 58)) (.cells #[.int .i64 n', .int .i64 k', .slice B cut'.length d, .int .i64 tag', .int .i64 t', .int .i64 p'] 58)
  have hz : (w.alloc (.cells #[.int .i64 n, .int .i64 k, .slice A cut.length c, .int .i64 tag, .int .i64 t, .int .i64 p] 58)).heap.size = w.heap.size + 1 := by simp
  have hc0 := ((Chg.refl No w).alloc (.cells #[.int .i64 n, .int .i64 k, .slice A cut.length c, .int .i64 tag, .int .i64 t, .int .i64 p] 58)).alloc (.cells #[.int .i64 n', .int .i64 k', .slice B cut'.length d, .int .i64 tag', .int .i64 t', .int .i64 p'] 58)
  rw [hz] at o2
  clear hz
  have a0 := cell_obj (i := 0) o1 rfl
  have a1 := cell_obj (i := 1) o1 rfl
  have a2 := cell_obj (i := 2) o1 rfl
  have a3 := cell_obj (i := 3) o1 rfl
  have a4 := cell_obj (i := 4) o1 rfl
  have a5 := cell_obj (i := 5) o1 rfl
  have b0 := cell_obj (i := 0) o2 rfl
  have b1 := cell_obj (i := 1) o2 rfl
  have b2 := cell_obj (i := 2) o2 rfl
  have b3 := cell_obj (i := 3) o2 rfl
  have b4 := cell_obj (i := 4) o2 rfl
  have b5 := cell_obj (i := 5) o2 rfl
  clear o1 o2
  by_cases h1 : n = n'
  · subst h1
    by_cases h2 : k = k'
    · subst h2
      simp only [decide_true, Bool.true_and]
      go_enter Try.func71, Try.ntmps71
      go_wp2_with (first | (with_reducible refine stop_append ?_) | (with_reducible refine stop_copy ?_) | (with_reducible refine stop_make ?_) | (with_reducible refine stop_lookup ?_) | (with_reducible refine stop_update ?_) | (with_reducible refine stop_slice ?_) | (with_reducible refine stop_range ?_) | (with_reducible refine stop_next ?_) | (with_reducible refine stop_convert ⟨_, rfl⟩ ?_) | (with_reducible refine stop_convertB ⟨_, _, _, rfl⟩ ?_) | (with_reducible refine stop_eqSlice ⟨_, _, rfl⟩ ?_))
      generalize (w.alloc (.cells #[.int .i64 n, .int .i64 k, .slice A cut.length c, .int .i64 tag, .int .i64 t, .int .i64 p] 58)).alloc (.cells #[.int .i64 n, .int .i64 k, .slice B cut'.length d, .int .i64 tag', .int .i64 t', .int .i64 p'] 58) = w0 at *
      generalize w.heap.size + 1 = q2 at *
      generalize w.heap.size = q1 at *
      refine (Hq.out _ hc0).mono ?_
      rintro e w1 ⟨rfl, hc1⟩
      have hcw1 := hc0.trans hc1
      replace a3 := hc1.cell a3 (not_no _)
      replace a4 := hc1.cell a4 (not_no _)
      replace a5 := hc1.cell a5 (not_no _)
      replace b3 := hc1.cell b3 (not_no _)
      replace b4 := hc1.cell b4 (not_no _)
      replace b5 := hc1.cell b5 (not_no _)
      clear a0 a1 b0 b1 a2 b2 hc1
      cases cb
      · go_wp2_with (first | (with_reducible refine stop_append ?_) | (with_reducible refine stop_copy ?_) | (with_reducible refine stop_make ?_) | (with_reducible refine stop_lookup ?_) | (with_reducible refine stop_update ?_) | (with_reducible refine stop_slice ?_) | (with_reducible refine stop_range ?_) | (with_reducible refine stop_next ?_) | (with_reducible refine stop_convert ⟨_, rfl⟩ ?_) | (with_reducible refine stop_convertB ⟨_, _, _, rfl⟩ ?_) | (with_reducible refine stop_eqSlice ⟨_, _, rfl⟩ ?_))
        go_ret
        exact ⟨rfl, hcw1⟩
      · by_cases h3 : tag = tag'
        · subst h3
          by_cases h4 : t = t'
          · subst h4
            by_cases h5 : p = p'
            · subst h5
              go_wp2_with (first | (with_reducible refine stop_append ?_) | (with_reducible refine stop_copy ?_) | (with_reducible refine stop_make ?_) | (with_reducible refine stop_lookup ?_) | (with_reducible refine stop_update ?_) | (with_reducible refine stop_slice ?_) | (with_reducible refine stop_range ?_) | (with_reducible refine stop_next ?_) | (with_reducible refine stop_convert ⟨_, rfl⟩ ?_) | (with_reducible refine stop_convertB ⟨_, _, _, rfl⟩ ?_) | (with_reducible refine stop_eqSlice ⟨_, _, rfl⟩ ?_))
              go_ret
              exact ⟨by simp, hcw1⟩
            · have e5 : (p == p') = false := by simpa using h5
              go_wp2_with (first | (with_reducible refine stop_append ?_) | (with_reducible refine stop_copy ?_) | (with_reducible refine stop_make ?_) | (with_reducible refine stop_lookup ?_) | (with_reducible refine stop_update ?_) | (with_reducible refine stop_slice ?_) | (with_reducible refine stop_range ?_) | (with_reducible refine stop_next ?_) | (with_reducible refine stop_convert ⟨_, rfl⟩ ?_) | (with_reducible refine stop_convertB ⟨_, _, _, rfl⟩ ?_) | (with_reducible refine stop_eqSlice ⟨_, _, rfl⟩ ?_))
              go_ret
              exact ⟨by simp [h5], hcw1⟩
          · have e4 : (t == t') = false := by simpa using h4
            go_wp2_with (first | (with_reducible refine stop_append ?_) | (with_reducible refine stop_copy ?_) | (with_reducible refine stop_make ?_) | (with_reducible refine stop_lookup ?_) | (with_reducible refine stop_update ?_) | (with_reducible refine stop_slice ?_) | (with_reducible refine stop_range ?_) | (with_reducible refine stop_next ?_) | (with_reducible refine stop_convert ⟨_, rfl⟩ ?_) | (with_reducible refine stop_convertB ⟨_, _, _, rfl⟩ ?_) | (with_reducible refine stop_eqSlice ⟨_, _, rfl⟩ ?_))
            go_ret
            exact ⟨by simp [h4], hcw1⟩
        · have e3 : (tag == tag') = false := by simpa using h3
          go_wp2_with (first | (with_reducible refine stop_append ?_) | (with_reducible refine stop_copy ?_) | (with_reducible refine stop_make ?_) | (with_reducible refine stop_lookup ?_) | (with_reducible refine stop_update ?_) | (with_reducible refine stop_slice ?_) | (with_reducible refine stop_range ?_) | (with_reducible refine stop_next ?_) | (with_reducible refine stop_convert ⟨_, rfl⟩ ?_) | (with_reducible refine stop_convertB ⟨_, _, _, rfl⟩ ?_) | (with_reducible refine stop_eqSlice ⟨_, _, rfl⟩ ?_))
          go_ret
          exact ⟨by simp [h3], hcw1⟩
    · have h1 : (k == k') = false := by simpa using h2
      rw [decide_eq_false h2]
      clear h2
      go_enter Try.func71, Try.ntmps71
      go_wp2_with (first | (with_reducible refine stop_append ?_) | (with_reducible refine stop_copy ?_) | (with_reducible refine stop_make ?_) | (with_reducible refine stop_lookup ?_) | (with_reducible refine stop_update ?_) | (with_reducible refine stop_slice ?_) | (with_reducible refine stop_range ?_) | (with_reducible refine stop_next ?_) | (with_reducible refine stop_convert ⟨_, rfl⟩ ?_) | (with_reducible refine stop_convertB ⟨_, _, _, rfl⟩ ?_) | (with_reducible refine stop_eqSlice ⟨_, _, rfl⟩ ?_))
      go_ret
      exact ⟨by simp, hc0⟩
  · have h2 : (n == n') = false := by simpa using h1
    rw [decide_eq_false h1]
    clear h1
    go_enter Try.func71, Try.ntmps71
    go_wp2_with (first | (with_reducible refine stop_append ?_) | (with_reducible refine stop_copy ?_) | (with_reducible refine stop_make ?_) | (with_reducible refine stop_lookup ?_) | (with_reducible refine stop_update ?_) | (with_reducible refine stop_slice ?_) | (with_reducible refine stop_range ?_) | (with_reducible refine stop_next ?_) | (with_reducible refine stop_convert ⟨_, rfl⟩ ?_) | (with_reducible refine stop_convertB ⟨_, _, _, rfl⟩ ?_) | (with_reducible refine stop_eqSlice ⟨_, _, rfl⟩ ?_))
    go_ret
    exact ⟨by simp, hc0⟩
end Go.Proofs.Ytbjpoamnglfjeaa
