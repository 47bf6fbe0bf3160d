/- Walks of package term: Same. -/
import Derived.Test.YtbjpoamnglfjeaaTerB
set_option linter.unusedVariables false
set_option linter.unusedSimpArgs false
namespace Go.Proofs.Ytbjpoamnglfjeaa
open Go.RowKit Cb

set_option maxRecDepth 100000 in
set_option maxHeartbeats 1000000 in
theorem eqrows_any (F G : Nat → Prop) (v u : Value) (xs ys : List (List Int)) (w : World) (h : Sl F w v xs) (h' : Sl G w u ys) (hl : xs.length ≤ 1000000) (hl' : ys.length ≤ 17592186044416) (hb : ∀ x ∈ xs, x.length ≤ 1000000) (hb' : ∀ x ∈ ys, x.length ≤ 17592186044416) :
    Calls Try.prog 83 #[v, u, .func (.func 82) #[] #[]] w fun e w' => e = .returned (.bool (decide (xs = ys))) ∧ Chg No w w' := by
  obtain ⟨A, c, rfl⟩ := h.slice
  obtain ⟨B, d, rfl⟩ := h'.slice
  have H := Lib.hid h; have H' := Lib.hid h'; have Hb := Lib.hid hb; have Hb' := Lib.hid hb'
  clear h h' hb hb'
  by_cases hlen : xs.length = ys.length
  · go_enter Try.func83, Try.ntmps83
    have Hlen := Lib.hid hlen
    rw [← hlen] at H' hl' ⊢
    clear hlen
    go_wp2_with (first | (with_reducible refine stop_append ?_) | (with_reducible refine stop_copy ?_) | (with_reducible refine stop_make ?_) | (with_reducible refine stop_lookup ?_) | (with_reducible refine stop_update ?_) | (with_reducible refine stop_slice ?_) | (with_reducible refine stop_range ?_) | (with_reducible refine stop_next ?_) | (with_reducible refine stop_convert ⟨_, rfl⟩ ?_) | (with_reducible refine stop_convertB ⟨_, _, _, rfl⟩ ?_) | (with_reducible refine stop_eqSlice ⟨_, _, rfl⟩ ?_))
    go_loopw [7, 17] (fun _ v17 wr => ∃ k : Nat, k ≤ xs.length ∧ v17 = .int .i64 k ∧ Chg No w wr ∧ xs.take k = ys.take k) (fun _ v17 _ => xs.length - (intOf v17).toNat)
    case atStart => exact ⟨0, by omega, rfl, Chg.refl _ _, rfl⟩
    case round =>
      obtain ⟨k, hk, rfl, hc, he⟩ := hrel
      have He := Lib.hid he; clear he
      by_cases hlt : k < xs.length
      · have hlt' : k < ys.length := by have := Hlen.out; omega
        obtain ⟨b, o, vx, rfl, _, hbl, hx0, hux⟩ := rowT_get (H.out.keepNo hc) k hlt
        have hgy : Sl G w (.slice B xs.length d) ys := H'.out
        obtain ⟨b', o', vy, rfl, _, hbl', hy0, huy⟩ := rowT_get (hgy.keepNo hc) k hlt'
        have hsx : xs.take (k + 1) = xs.take k ++ [xs[k]] := List.take_succ_eq_append_getElem hlt
        have hsy : ys.take (k + 1) = ys.take k ++ [ys[k]] := List.take_succ_eq_append_getElem hlt'
        have hxy : xs[k] ≠ ys[k] → xs ≠ ys := fun h e => h (by subst e; rfl)
        have hbx := Hb.out _ (List.getElem_mem hlt)
        have hby := Hb'.out _ (List.getElem_mem hlt')
        clear hgy
        generalize xs[k] = x at *
        generalize ys[k] = y at *
        have Hcall := Lib.hid (vequal_any F G vx vy x y wr hux huy hbx hby)
        obtain ⟨Ax, cx, rfl⟩ := hux.slice
        obtain ⟨Ay, cy, rfl⟩ := huy.slice
        have Hsx := Lib.hid hsx; have Hsy := Lib.hid hsy; have Hxy := Lib.hid hxy
        clear hsx hsy hxy hux huy
        by_cases hq : x = y
        · rw [decide_eq_true hq] at Hcall
          have Hq := Lib.hid hq
          clear hq
          go_wp2_with (first | (with_reducible refine stop_append ?_) | (with_reducible refine stop_copy ?_) | (with_reducible refine stop_make ?_) | (with_reducible refine stop_lookup ?_) | (with_reducible refine stop_update ?_) | (with_reducible refine stop_slice ?_) | (with_reducible refine stop_range ?_) | (with_reducible refine stop_next ?_) | (with_reducible refine stop_convert ⟨_, rfl⟩ ?_) | (with_reducible refine stop_convertB ⟨_, _, _, rfl⟩ ?_) | (with_reducible refine stop_eqSlice ⟨_, _, rfl⟩ ?_))
          refine Hcall.out.mono ?_
          rintro e w3 ⟨rfl, hc3⟩
          go_wp2_with (first | (with_reducible refine stop_append ?_) | (with_reducible refine stop_copy ?_) | (with_reducible refine stop_make ?_) | (with_reducible refine stop_lookup ?_) | (with_reducible refine stop_update ?_) | (with_reducible refine stop_slice ?_) | (with_reducible refine stop_range ?_) | (with_reducible refine stop_next ?_) | (with_reducible refine stop_convert ⟨_, rfl⟩ ?_) | (with_reducible refine stop_convertB ⟨_, _, _, rfl⟩ ?_) | (with_reducible refine stop_eqSlice ⟨_, _, rfl⟩ ?_))
          go_roundw
          case rel => exact ⟨k + 1, by omega, by go_num, hc.trans hc3, by rw [Hsx.out, Hsy.out, He.out, Hq.out]⟩
          case measure => simp [intOf]; omega
        · rw [decide_eq_false hq] at Hcall
          have Hq := Lib.hid hq
          clear hq
          go_wp2_with (first | (with_reducible refine stop_append ?_) | (with_reducible refine stop_copy ?_) | (with_reducible refine stop_make ?_) | (with_reducible refine stop_lookup ?_) | (with_reducible refine stop_update ?_) | (with_reducible refine stop_slice ?_) | (with_reducible refine stop_range ?_) | (with_reducible refine stop_next ?_) | (with_reducible refine stop_convert ⟨_, rfl⟩ ?_) | (with_reducible refine stop_convertB ⟨_, _, _, rfl⟩ ?_) | (with_reducible refine stop_eqSlice ⟨_, _, rfl⟩ ?_))
          refine Hcall.out.mono ?_
          rintro e w3 ⟨rfl, hc3⟩
          go_wp2_with (first | (with_reducible refine stop_append ?_) | (with_reducible refine stop_copy ?_) | (with_reducible refine stop_make ?_) | (with_reducible refine stop_lookup ?_) | (with_reducible refine stop_update ?_) | (with_reducible refine stop_slice ?_) | (with_reducible refine stop_range ?_) | (with_reducible refine stop_next ?_) | (with_reducible refine stop_convert ⟨_, rfl⟩ ?_) | (with_reducible refine stop_convertB ⟨_, _, _, rfl⟩ ?_) | (with_reducible refine stop_eqSlice ⟨_, _, rfl⟩ ?_))
          go_ret
          exact ⟨by simp [Hxy.out Hq.out], hc.trans hc3⟩
      · obtain rfl : k = xs.length := by omega
        have he := He.out
        rw [List.take_length, Hlen.out, List.take_length] at he
        have Heq := Lib.hid he
        clear he He
        go_wp2_with (first | (with_reducible refine stop_append ?_) | (with_reducible refine stop_copy ?_) | (with_reducible refine stop_make ?_) | (with_reducible refine stop_lookup ?_) | (with_reducible refine stop_update ?_) | (with_reducible refine stop_slice ?_) | (with_reducible refine stop_range ?_) | (with_reducible refine stop_next ?_) | (with_reducible refine stop_convert ⟨_, rfl⟩ ?_) | (with_reducible refine stop_convertB ⟨_, _, _, rfl⟩ ?_) | (with_reducible refine stop_eqSlice ⟨_, _, rfl⟩ ?_))
        go_ret
        exact ⟨by simp [Heq.out], hc⟩
  · have hne : ((xs.length : Int) != ys.length) = true := by simp; omega
    have hne2 : ((xs.length : Int) == ys.length) = false := by simp; omega
    have Hn := Lib.hid (show xs ≠ ys from fun e => hlen (by rw [e]))
    clear hlen
    go_enter Try.func83, Try.ntmps83
    go_wp2_with (first | (with_reducible refine stop_append ?_) | (with_reducible refine stop_copy ?_) | (with_reducible refine stop_make ?_) | (with_reducible refine stop_lookup ?_) | (with_reducible refine stop_update ?_) | (with_reducible refine stop_slice ?_) | (with_reducible refine stop_range ?_) | (with_reducible refine stop_next ?_) | (with_reducible refine stop_convert ⟨_, rfl⟩ ?_) | (with_reducible refine stop_convertB ⟨_, _, _, rfl⟩ ?_) | (with_reducible refine stop_eqSlice ⟨_, _, rfl⟩ ?_))
    go_ret
    exact ⟨by simp [Hn.out], Chg.refl _ _⟩
def sameC (t : Int) (q : List Int) (s : List (List Int)) (t' : Int) (q' : List Int) (s' : List (List Int)) : Bool := decide (t = t' ∧ q = q' ∧ s = s')
set_option maxRecDepth 100000 in
set_option maxHeartbeats 1000000 in
theorem tsame_any (F G F' G' : Nat → Prop) (t t' : Int) (vq vs vq' vs' : Value) (q q' : List Int) (s s' : List (List Int)) (w : World) (hq : Sl F w vq q) (hs : Sl G w vs s) (hq' : Sl F' w vq' q') (hs' : Sl G' w vs' s')
    (h1 : q.length ≤ 1000000) (h2 : s.length ≤ 1000000) (h3 : ∀ x ∈ s, x.length ≤ 1000000) (h1' : q'.length ≤ 17592186044416) (h2' : s'.length ≤ 17592186044416) (h3' : ∀ x ∈ s', x.length ≤ 17592186044416) :
    Calls Try.prog 44 #[cfgV t vq vs, cfgV t' vq' vs'] w fun e w' => e = .returned (.bool (sameC t q s t' q' s')) ∧ Chg No w w' := by
  have Hq := Lib.hid (fun W (hW : Chg No w W) => vequal_any F F' vq vq' q q' W (hq.keepNo hW) (hq'.keepNo hW) h1 h1')
  have Hs := Lib.hid (fun W (hW : Chg No w W) => eqrows_any G G' vs vs' s s' W (hs.keepNo hW) (hs'.keepNo hW) h2 h2' h3 h3')
  have hr : sameC t q s t' q' s' = (decide (t = t') && decide (q = q') && decide (s = s')) := by
    simp only [sameC, Bool.decide_and, Bool.and_assoc]
  rw [hr]
  obtain ⟨Aq, cq, rfl⟩ := hq.slice
  obtain ⟨As, cs, rfl⟩ := hs.slice
  obtain ⟨Bq, dq, rfl⟩ := hq'.slice
  obtain ⟨Bs, ds, rfl⟩ := hs'.slice
  clear hq hs hq' hs' h3 h3' hr
  generalize decide (q = q') = qb at *
  generalize decide (s = s') = sb at *
  unfold cfgV
  obtain ⟨o1, o2, hc0⟩ : ((w.alloc (.cells #[.int .i64 t, .slice Aq q.length cq, .slice As s.length cs] 68)).alloc (.cells #[.int .i64 t', .slice Bq q'.length dq, .slice Bs s'.length ds] 68)).heap[w.heap.size]? = some (.cells #[.int .i64 t, .slice Aq q.length cq, .slice As s.length cs] 68) ∧
      ((w.alloc (.cells #[.int .i64 t, .slice Aq q.length cq, .slice As s.length cs] 68)).alloc (.cells #[.int .i64 t', .slice Bq q'.length dq, .slice Bs s'.length ds] 68)).heap[w.heap.size + 1]? = some (.cells #[.int .i64 t', .slice Bq q'.length dq, .slice Bs s'.length ds] 68) ∧
      Chg No w ((w.alloc (.cells #[.int .i64 t, .slice Aq q.length cq, .slice As s.length cs] 68)).alloc (.cells #[.int .i64 t', .slice Bq q'.length dq, .slice Bs s'.length ds] 68)) := by
    refine ⟨((Chg.refl No _).alloc _).obj (alloc_obj _ _) (not_no _), ?_, ((Chg.refl No w).alloc _).alloc _⟩
    have := alloc_obj (w.alloc (.cells #[.int .i64 t, .slice Aq q.length cq, .slice As s.length cs] 68)) (.cells #[.int .i64 t', .slice Bq q'.length dq, .slice Bs s'.length ds] 68)
    rw [show (w.alloc (.cells #[.int .i64 t, .slice Aq q.length cq, .slice As s.length cs] 68)).heap.size = w.heap.size + 1 by simp] at this
    exact this
  have a0 := cell_obj (i := 0) o1 rfl
  have a1 := cell_obj (i := 1) o1 rfl
  have a2 := cell_obj (i := 2) o1 rfl
  have b0 := cell_obj (i := 0) o2 rfl
  have b1 := cell_obj (i := 1) o2 rfl
  have b2 := cell_obj (i := 2) o2 rfl
  clear o1 o2
  by_cases ht : t = t'
  · subst ht
    simp only [decide_true, Bool.true_and]
    go_enter Try.func44, Try.ntmps44
    go_wp2_with (first | (with_reducible refine stop_append ?_) | (with_reducible refine stop_copy ?_) | (with_reducible refine stop_make ?_) | (with_reducible refine stop_lookup ?_) | (with_reducible refine stop_update ?_) | (with_reducible refine stop_slice ?_) | (with_reducible refine stop_range ?_) | (with_reducible refine stop_next ?_) | (with_reducible refine stop_convert ⟨_, rfl⟩ ?_) | (with_reducible refine stop_convertB ⟨_, _, _, rfl⟩ ?_) | (with_reducible refine stop_eqSlice ⟨_, _, rfl⟩ ?_))
    refine (Hq.out _ hc0).mono ?_
    rintro e w1 ⟨rfl, hc1⟩
    have hcw1 := hc0.trans hc1
    replace a2 := hc1.cell a2 (not_no _)
    replace b2 := hc1.cell b2 (not_no _)
    clear a0 a1 b0 b1 hc1
    cases qb
    · go_wp2_with (first | (with_reducible refine stop_append ?_) | (with_reducible refine stop_copy ?_) | (with_reducible refine stop_make ?_) | (with_reducible refine stop_lookup ?_) | (with_reducible refine stop_update ?_) | (with_reducible refine stop_slice ?_) | (with_reducible refine stop_range ?_) | (with_reducible refine stop_next ?_) | (with_reducible refine stop_convert ⟨_, rfl⟩ ?_) | (with_reducible refine stop_convertB ⟨_, _, _, rfl⟩ ?_) | (with_reducible refine stop_eqSlice ⟨_, _, rfl⟩ ?_))
      go_ret
      exact ⟨rfl, hcw1⟩
    · go_wp2_with (first | (with_reducible refine stop_append ?_) | (with_reducible refine stop_copy ?_) | (with_reducible refine stop_make ?_) | (with_reducible refine stop_lookup ?_) | (with_reducible refine stop_update ?_) | (with_reducible refine stop_slice ?_) | (with_reducible refine stop_range ?_) | (with_reducible refine stop_next ?_) | (with_reducible refine stop_convert ⟨_, rfl⟩ ?_) | (with_reducible refine stop_convertB ⟨_, _, _, rfl⟩ ?_) | (with_reducible refine stop_eqSlice ⟨_, _, rfl⟩ ?_))
      refine (Hs.out _ hcw1).mono ?_
      rintro e w2 ⟨rfl, hc2⟩
      go_wp2_with (first | (with_reducible refine stop_append ?_) | (with_reducible refine stop_copy ?_) | (with_reducible refine stop_make ?_) | (with_reducible refine stop_lookup ?_) | (with_reducible refine stop_update ?_) | (with_reducible refine stop_slice ?_) | (with_reducible refine stop_range ?_) | (with_reducible refine stop_next ?_) | (with_reducible refine stop_convert ⟨_, rfl⟩ ?_) | (with_reducible refine stop_convertB ⟨_, _, _, rfl⟩ ?_) | (with_reducible refine stop_eqSlice ⟨_, _, rfl⟩ ?_))
      go_ret
      exact ⟨by simp, hcw1.trans hc2⟩
  · have h1 : (t == t') = false := by simpa using ht
    rw [decide_eq_false ht]
    clear ht
    go_enter Try.func44, Try.ntmps44
    go_wp2_with (first | (with_reducible refine stop_append ?_) | (with_reducible refine stop_copy ?_) | (with_reducible refine stop_make ?_) | (with_reducible refine stop_lookup ?_) | (with_reducible refine stop_update ?_) | (with_reducible refine stop_slice ?_) | (with_reducible refine stop_range ?_) | (with_reducible refine stop_next ?_) | (with_reducible refine stop_convert ⟨_, rfl⟩ ?_) | (with_reducible refine stop_convertB ⟨_, _, _, rfl⟩ ?_) | (with_reducible refine stop_eqSlice ⟨_, _, rfl⟩ ?_))
    go_ret
    exact ⟨by simp, hc0⟩
end Go.Proofs.Ytbjpoamnglfjeaa
