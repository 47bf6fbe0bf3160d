/- Walks for a register: rows of entries compared by entry.Same. -/
import Derived.Test.YtbjpoamnglfjeaaRegF
set_option linter.unusedVariables false
set_option linter.unusedSimpArgs false
namespace Go.Proofs.Ytbjpoamnglfjeaa
open Go.RowKit Cb

set_option maxRecDepth 100000 in
set_option maxHeartbeats 2000000 in
theorem eqents_any (F G : Nat → Prop) (v u : Value) (xs ys : List Ent) (w : World) (h : Sl F w v xs) (h' : Sl G w u ys) (hl : xs.length ≤ 2199023255488) (hl' : ys.length ≤ 17592186044416) (hb : ∀ x ∈ xs, x.2.2.1.length ≤ 1000000) (hb' : ∀ x ∈ ys, x.2.2.1.length ≤ 17592186044416) :
    Calls Try.prog 70 #[v, u, .func (.func 71) #[] #[]] w fun e w' => e = .returned (.bool (decide (xs = ys))) ∧ Chg No w w' := by
  obtain ⟨A, c, rfl⟩ := h.slice
  obtain ⟨B, d, rfl⟩ := h'.slice
  have H := Lib.hid h; have H' := Lib.hid h'; have Hb := Lib.hid hb; have Hb' := Lib.hid hb'
  clear h h' hb hb'
  by_cases hlen : xs.length = ys.length
  · go_enter Try.func70, Try.ntmps70
    have Hlen := Lib.hid hlen
    rw [← hlen] at H' hl' ⊢
    clear hlen
    go_wp2_with (first | (with_reducible refine stop_append ?_) | (with_reducible refine stop_copy ?_) | (with_reducible refine stop_make ?_) | (with_reducible refine stop_lookup ?_) | (with_reducible refine stop_update ?_) | (with_reducible refine stop_slice ?_) | (with_reducible refine stop_range ?_) | (with_reducible refine stop_next ?_) | (with_reducible refine stop_convert ⟨_, rfl⟩ ?_) | (with_reducible refine stop_convertB ⟨_, _, _, rfl⟩ ?_) | (with_reducible refine stop_eqSlice ⟨_, _, rfl⟩ ?_))
    go_loopw [7, 17] (fun _ v17 wr => ∃ k : Nat, k ≤ xs.length ∧ v17 = .int .i64 k ∧ Chg No w wr ∧ xs.take k = ys.take k) (fun _ v17 _ => xs.length - (intOf v17).toNat)
    case atStart => exact ⟨0, by omega, rfl, Chg.refl _ _, rfl⟩
    case round =>
      obtain ⟨k, hk, rfl, hc, he⟩ := hrel
      have He := Lib.hid he; clear he
      by_cases hlt : k < xs.length
      · have hlt' : k < ys.length := by have := Hlen.out; omega
        obtain ⟨b, o, vx, rfl, _, hbl, hux, a0, a1, a2, a3, a4, a5⟩ := ent_get (H.out.keepNo hc) k hlt
        have hgy : Sl G w (.slice B xs.length d) ys := H'.out
        obtain ⟨b', o', vy, rfl, _, hbl', huy, c0, c1, c2, c3, c4, c5⟩ := ent_get (hgy.keepNo hc) k hlt'
        have hsx : xs.take (k + 1) = xs.take k ++ [xs[k]] := List.take_succ_eq_append_getElem hlt
        have hsy : ys.take (k + 1) = ys.take k ++ [ys[k]] := List.take_succ_eq_append_getElem hlt'
        have hxy : xs[k] ≠ ys[k] → xs ≠ ys := fun h e => h (by subst e; rfl)
        have hbx := Hb.out _ (List.getElem_mem hlt)
        have hby := Hb'.out _ (List.getElem_mem hlt')
        clear hgy
        generalize xs[k] = x at *
        generalize ys[k] = y at *
        have Hcall := Lib.hid (fun W (hW : Chg No wr W) => esame_any F G x y vx vy W (hux.keepNo hW) (huy.keepNo hW) hbx hby)
        obtain ⟨Ax, cx, rfl⟩ := hux.slice
        obtain ⟨Ay, cy, rfl⟩ := huy.slice
        have Hsx := Lib.hid hsx; have Hsy := Lib.hid hsy; have Hxy := Lib.hid hxy
        clear hsx hsy hxy hux huy
        obtain ⟨res, hres⟩ : ∃ r, r = decide (x = y) := ⟨_, rfl⟩
        rw [← hres] at Hcall
        have Hres := Lib.hid hres
        clear hres
        have Hxe := Lib.hid (show res = true → x = y from fun h => of_decide_eq_true (Hres.out ▸ h))
        have Hxn := Lib.hid (show res = false → x ≠ y from fun h => of_decide_eq_false (Hres.out ▸ h))
        have Hgo := Lib.hid (show res = true → xs.take (k + 1) = ys.take (k + 1) from fun h => by rw [Hsx.out, Hsy.out, He.out, Hxe.out h])
        have Hno := Lib.hid (show res = false → decide (xs = ys) = false from fun h => decide_eq_false (Hxy.out (Hxn.out h)))
        clear Hres Hxe Hxn Hxy Hsx Hsy
        obtain ⟨n, kd, cut, tag, t, p⟩ := x
        obtain ⟨n', kd', cut', tag', t', p'⟩ := y
        unfold entV at Hcall
        simp only at *
        have hcA := (Chg.refl No wr).alloc (.cells #[.int .i64 n, .int .i64 kd, .slice Ax cut.length cx, .int .i64 tag, .int .i64 t, .int .i64 p] 58)
        have o1 := ((Chg.refl No (wr.alloc (.cells #[.int .i64 n, .int .i64 kd, .slice Ax cut.length cx, .int .i64 tag, .int .i64 t, .int .i64 p] 58))).alloc (.cells #[.int .i64 n', .int .i64 kd', .slice Ay cut'.length cy, .int .i64 tag', .int .i64 t', .int .i64 p'] 58)).obj (alloc_obj wr (.cells #[.int .i64 n, .int .i64 kd, .slice Ax cut.length cx, .int .i64 tag, .int .i64 t, .int .i64 p] 58)) (not_no _)
        have o2 := alloc_obj (wr.alloc (.cells #[.int .i64 n, .int .i64 kd, .slice Ax cut.length cx, .int .i64 tag, .int .i64 t, .int .i64 p] 58)) (.cells #[.int .i64 n', .int .i64 kd', .slice Ay cut'.length cy, .int .i64 tag', .int .i64 t', .int .i64 p'] 58)
        have hz : (wr.alloc (.cells #[.int .i64 n, .int .i64 kd, .slice Ax cut.length cx, .int .i64 tag, .int .i64 t, .int .i64 p] 58)).heap.size = wr.heap.size + 1 := by simp
        have hc0 := ((Chg.refl No wr).alloc (.cells #[.int .i64 n, .int .i64 kd, .slice Ax cut.length cx, .int .i64 tag, .int .i64 t, .int .i64 p] 58)).alloc (.cells #[.int .i64 n', .int .i64 kd', .slice Ay cut'.length cy, .int .i64 tag', .int .i64 t', .int .i64 p'] 58)
        rw [hz] at o2
        clear hz
        have e0 := hcA.cell c0 (not_no _)
        have e1 := hcA.cell c1 (not_no _)
        have e2 := hcA.cell c2 (not_no _)
        have e3 := hcA.cell c3 (not_no _)
        have e4 := hcA.cell c4 (not_no _)
        have e5 := hcA.cell c5 (not_no _)
        have g0 := cell_obj (i := 0) o1 rfl
        have g1 := cell_obj (i := 1) o1 rfl
        have g2 := cell_obj (i := 2) o1 rfl
        have g3 := cell_obj (i := 3) o1 rfl
        have g4 := cell_obj (i := 4) o1 rfl
        have g5 := cell_obj (i := 5) o1 rfl
        have f0 := cell_obj (i := 0) o2 rfl
        have f1 := cell_obj (i := 1) o2 rfl
        have f2 := cell_obj (i := 2) o2 rfl
        have f3 := cell_obj (i := 3) o2 rfl
        have f4 := cell_obj (i := 4) o2 rfl
        have f5 := cell_obj (i := 5) o2 rfl
        clear o1 o2 hcA
        cases res with
        | true =>
          have Hg := Lib.hid (Hgo.out rfl)
          clear Hgo Hno
          go_wp2_with (first | (with_reducible refine stop_append ?_) | (with_reducible refine stop_copy ?_) | (with_reducible refine stop_make ?_) | (with_reducible refine stop_lookup ?_) | (with_reducible refine stop_update ?_) | (with_reducible refine stop_slice ?_) | (with_reducible refine stop_range ?_) | (with_reducible refine stop_next ?_) | (with_reducible refine stop_convert ⟨_, rfl⟩ ?_) | (with_reducible refine stop_convertB ⟨_, _, _, rfl⟩ ?_) | (with_reducible refine stop_eqSlice ⟨_, _, rfl⟩ ?_))
          refine (Hcall.out _ hc0).mono ?_
          rintro e w3 ⟨rfl, hc3⟩
          have hcw := (hc.trans hc0).trans hc3
          clear a0 a1 a2 a3 a4 a5 c0 c1 c2 c3 c4 c5 e0 e1 e2 e3 e4 e5 g0 g1 g2 g3 g4 g5 f0 f1 f2 f3 f4 f5
          go_wp2_with (first | (with_reducible refine stop_append ?_) | (with_reducible refine stop_copy ?_) | (with_reducible refine stop_make ?_) | (with_reducible refine stop_lookup ?_) | (with_reducible refine stop_update ?_) | (with_reducible refine stop_slice ?_) | (with_reducible refine stop_range ?_) | (with_reducible refine stop_next ?_) | (with_reducible refine stop_convert ⟨_, rfl⟩ ?_) | (with_reducible refine stop_convertB ⟨_, _, _, rfl⟩ ?_) | (with_reducible refine stop_eqSlice ⟨_, _, rfl⟩ ?_))
          go_roundw
          case rel => exact ⟨k + 1, by omega, by go_num, hcw, Hg.out⟩
          case measure => simp [intOf]; omega
        | false =>
          have Hg := Lib.hid (Hno.out rfl)
          clear Hgo Hno
          go_wp2_with (first | (with_reducible refine stop_append ?_) | (with_reducible refine stop_copy ?_) | (with_reducible refine stop_make ?_) | (with_reducible refine stop_lookup ?_) | (with_reducible refine stop_update ?_) | (with_reducible refine stop_slice ?_) | (with_reducible refine stop_range ?_) | (with_reducible refine stop_next ?_) | (with_reducible refine stop_convert ⟨_, rfl⟩ ?_) | (with_reducible refine stop_convertB ⟨_, _, _, rfl⟩ ?_) | (with_reducible refine stop_eqSlice ⟨_, _, rfl⟩ ?_))
          refine (Hcall.out _ hc0).mono ?_
          rintro e w3 ⟨rfl, hc3⟩
          have hcw := (hc.trans hc0).trans hc3
          clear a0 a1 a2 a3 a4 a5 c0 c1 c2 c3 c4 c5 e0 e1 e2 e3 e4 e5 g0 g1 g2 g3 g4 g5 f0 f1 f2 f3 f4 f5
          go_wp2_with (first | (with_reducible refine stop_append ?_) | (with_reducible refine stop_copy ?_) | (with_reducible refine stop_make ?_) | (with_reducible refine stop_lookup ?_) | (with_reducible refine stop_update ?_) | (with_reducible refine stop_slice ?_) | (with_reducible refine stop_range ?_) | (with_reducible refine stop_next ?_) | (with_reducible refine stop_convert ⟨_, rfl⟩ ?_) | (with_reducible refine stop_convertB ⟨_, _, _, rfl⟩ ?_) | (with_reducible refine stop_eqSlice ⟨_, _, rfl⟩ ?_))
          go_ret
          exact ⟨by rw [Hg.out]; rfl, hcw⟩
      · obtain rfl : k = xs.length := by omega
        have he := He.out
        rw [List.take_length, Hlen.out, List.take_length] at he
        have Heq := Lib.hid he
        clear he He
        go_wp2_with (first | (with_reducible refine stop_append ?_) | (with_reducible refine stop_copy ?_) | (with_reducible refine stop_make ?_) | (with_reducible refine stop_lookup ?_) | (with_reducible refine stop_update ?_) | (with_reducible refine stop_slice ?_) | (with_reducible refine stop_range ?_) | (with_reducible refine stop_next ?_) | (with_reducible refine stop_convert ⟨_, rfl⟩ ?_) | (with_reducible refine stop_convertB ⟨_, _, _, rfl⟩ ?_) | (with_reducible refine stop_eqSlice ⟨_, _, rfl⟩ ?_))
        go_ret
        exact ⟨by simp [Heq.out], hc⟩
  · have hne : ((xs.length : Int) != ys.length) = true := by simp; omega
    have hne2 : ((xs.length : Int) == ys.length) = false := by simp; omega
    have Hn := Lib.hid (show xs ≠ ys from fun e => hlen (by rw [e]))
    clear hlen
    go_enter Try.func70, Try.ntmps70
    go_wp2_with (first | (with_reducible refine stop_append ?_) | (with_reducible refine stop_copy ?_) | (with_reducible refine stop_make ?_) | (with_reducible refine stop_lookup ?_) | (with_reducible refine stop_update ?_) | (with_reducible refine stop_slice ?_) | (with_reducible refine stop_range ?_) | (with_reducible refine stop_next ?_) | (with_reducible refine stop_convert ⟨_, rfl⟩ ?_) | (with_reducible refine stop_convertB ⟨_, _, _, rfl⟩ ?_) | (with_reducible refine stop_eqSlice ⟨_, _, rfl⟩ ?_))
    go_ret
    exact ⟨by simp [Hn.out], Chg.refl _ _⟩
end Go.Proofs.Ytbjpoamnglfjeaa
