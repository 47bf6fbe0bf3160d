/- Walks of the document's vector: Max, Min, Gain, Set. -/
import Derived.Test.YtlpnbbjmcmjkpaaRefZ
set_option linter.unusedVariables false
set_option linter.unusedSimpArgs false
namespace Go.Proofs.Ytlpnbbjmcmjkpaa
open Go.RowKit Cb

set_option maxRecDepth 100000 in
set_option maxHeartbeats 1000000 in
theorem rmax_any (F G : Nat → Prop) (v u : Value) (xs ys : List Int) (w : World) (hs : Sl F w v xs) (ht : Sl G w u ys) (hl : xs.length * 8 ≤ 140737488355328) (hl' : ys.length * 8 ≤ 140737488355328) :
    Calls Try.prog 25 #[v, u] w (PairPost (bothF max xs ys) w) := by
  have Hk := Lib.hid (rkind_any F G v u xs ys w hs ht hl hl')
  have H := Lib.hid hs
  have H' := Lib.hid ht
  obtain ⟨A, c, rfl⟩ := hs.slice
  obtain ⟨B, d, rfl⟩ := ht.slice
  clear hs ht
  cases hk : kindB xs ys with
  | false =>
    rw [hk] at Hk
    have Hr := Lib.hid (both_no (f := max) hk)
    clear hk
    go_enter Try.func25, Try.ntmps25
    go_wp2_with (first | (with_reducible refine stop_append ?_) | (with_reducible refine stop_copy ?_) | (with_reducible refine stop_make ?_) | (with_reducible refine stop_lookup ?_) | (with_reducible refine stop_update ?_) | (with_reducible refine stop_slice ?_) | (with_reducible refine stop_range ?_) | (with_reducible refine stop_next ?_) | (with_reducible refine stop_convert ⟨_, rfl⟩ ?_) | (with_reducible refine stop_convertB ⟨_, _, _, rfl⟩ ?_) | (with_reducible refine stop_eqSlice ⟨_, _, rfl⟩ ?_))
    refine Hk.out.mono ?_
    rintro e w1 ⟨rfl, hc1⟩
    go_wp2_with (first | (with_reducible refine stop_append ?_) | (with_reducible refine stop_copy ?_) | (with_reducible refine stop_make ?_) | (with_reducible refine stop_lookup ?_) | (with_reducible refine stop_update ?_) | (with_reducible refine stop_slice ?_) | (with_reducible refine stop_range ?_) | (with_reducible refine stop_next ?_) | (with_reducible refine stop_convert ⟨_, rfl⟩ ?_) | (with_reducible refine stop_convertB ⟨_, _, _, rfl⟩ ?_) | (with_reducible refine stop_eqSlice ⟨_, _, rfl⟩ ?_))
    go_ret2
    exact ⟨hc1, .inr ⟨Hr.out, rfl⟩⟩
  | true =>
    rw [hk] at Hk
    have Hr := Lib.hid (both_yes (f := max) hk)
    have Hlen := Lib.hid (kind_iff.1 hk).2.2
    have hx8 := (vright_iff.1 (kind_iff.1 hk).1).2.1
    have hzl : (List.zipWith max xs ys).length = xs.length := by have := Hlen.out; simp only [List.length_zipWith]; omega
    have hzk : ∀ k (h : k < xs.length) (h' : k < ys.length), (List.zipWith max xs ys).take (k + 1) = (List.zipWith max xs ys).take k ++ [max xs[k] ys[k]] := fun k h h' => by
      rw [List.take_succ_eq_append_getElem (by omega), List.getElem_zipWith]
    have Hzk := Lib.hid hzk
    rw [← (kind_iff.1 hk).2.2] at H' Hk ⊢
    clear hk hl' hzk
    generalize hz : List.zipWith max xs ys = z at *
    have Hz := Lib.hid hz
    have Hzl := Lib.hid hzl
    clear hz hzl
    go_enter Try.func25, Try.ntmps25
    go_wp2_with (first | (with_reducible refine stop_append ?_) | (with_reducible refine stop_copy ?_) | (with_reducible refine stop_make ?_) | (with_reducible refine stop_lookup ?_) | (with_reducible refine stop_update ?_) | (with_reducible refine stop_slice ?_) | (with_reducible refine stop_range ?_) | (with_reducible refine stop_next ?_) | (with_reducible refine stop_convert ⟨_, rfl⟩ ?_) | (with_reducible refine stop_convertB ⟨_, _, _, rfl⟩ ?_) | (with_reducible refine stop_eqSlice ⟨_, _, rfl⟩ ?_))
    refine Hk.out.mono ?_
    rintro e w1 ⟨rfl, hc1⟩
    have Hc1 := Lib.hid hc1
    go_wp2_with (first | (with_reducible refine stop_append ?_) | (with_reducible refine stop_copy ?_) | (with_reducible refine stop_make ?_) | (with_reducible refine stop_lookup ?_) | (with_reducible refine stop_update ?_) | (with_reducible refine stop_slice ?_) | (with_reducible refine stop_range ?_) | (with_reducible refine stop_next ?_) | (with_reducible refine stop_convert ⟨_, rfl⟩ ?_) | (with_reducible refine stop_convertB ⟨_, _, _, rfl⟩ ?_) | (with_reducible refine stop_eqSlice ⟨_, _, rfl⟩ ?_))
    go_loopw [6, 7] (fun v6 v7 wr => ∃ k : Nat, k ≤ xs.length ∧ v7 = .int .i64 k ∧ Chg No w wr ∧ Cb.Own No wr w.heap.size 3 v6 (z.take k)) (fun _ v7 _ => xs.length - (intOf v7).toNat)
    case atStart => exact ⟨0, by omega, rfl, hc1, Cb.Own.nil _ _ _ _⟩
    case round =>
      obtain ⟨k, hk, rfl, hc, hown⟩ := hrel
      by_cases hlt : k < xs.length
      · have hlt' : k < ys.length := by have := Hlen.out; omega
        obtain ⟨b, o, rfl, _, hbl, a0⟩ := num_in (H.out.keepNo hc) k hlt
        have hgy : Sl G w (.slice B xs.length d) ys := H'.out
        obtain ⟨b', o', rfl, _, hbl', b0⟩ := num_in (hgy.keepNo hc) k hlt'
        have hsn := Hzk.out k hlt hlt'
        have hacc : (z.take k).length = k := by have := Hzl.out; rw [List.length_take]; omega
        clear hgy
        generalize xs[k] = x at *
        generalize ys[k] = y at *
        generalize z.take k = acc at *
        have Hown := Lib.hid hown
        have Hacc := Lib.hid hacc
        have Hsn := Lib.hid hsn
        obtain ⟨A6, c6, rfl⟩ := hown.slice
        clear hown hacc hsn
        have hcase : (x < y ∧ max x y = y) ∨ (¬ x < y ∧ max x y = x) := by omega
        rcases hcase with ⟨hxy, e⟩ | ⟨hxy, e⟩
        all_goals
          rw [e] at Hsn
          clear e
          go_wp2_with (first | (with_reducible refine stop_append ?_) | (with_reducible refine stop_copy ?_) | (with_reducible refine stop_make ?_) | (with_reducible refine stop_lookup ?_) | (with_reducible refine stop_update ?_) | (with_reducible refine stop_slice ?_) | (with_reducible refine stop_range ?_) | (with_reducible refine stop_next ?_) | (with_reducible refine stop_convert ⟨_, rfl⟩ ?_) | (with_reducible refine stop_convertB ⟨_, _, _, rfl⟩ ?_) | (with_reducible refine stop_eqSlice ⟨_, _, rfl⟩ ?_))
          refine reg_start (fun W => W.cell? ⟨b, o + k, none⟩ = some (.int .i64 x) ∧ W.cell? ⟨b', o' + k, none⟩ = some (.int .i64 y)) (by kernel_rfl) ?_
          ((refine reg_yes (i := 0) (oi := { dst := some 18, op := Go.Op.move (Go.Operand.tmp 0), type := 24, pos := "ref.go:29", after := #[], guard := none }) (v := ?_) rfl (by kernel_rfl) (by kernel_rfl) (by kernel_rfl) (fun _ _ _ h => h) rfl ?_ ?_); rotate_left; focus (intro W hW; (try dsimp only at hW); go_split_ands; go_simp; (try (simp (disch := omega) only [IntWalk.i64_in]; (try go_simp))); (try (split; (next => omega); (try go_simp))); try rfl; done))
          try simp only [Act.put, List.setIfInBounds_toArray, List.set_cons_zero, List.set_cons_succ]
          ((refine reg_yes (i := 1) (oi := { dst := some 19, op := Go.Op.move (Go.Operand.tmp 7), type := 3, pos := "ref.go:29", after := #[], guard := none }) (v := ?_) rfl (by kernel_rfl) (by kernel_rfl) (by kernel_rfl) (fun _ _ _ h => h) rfl ?_ ?_); rotate_left; focus (intro W hW; (try dsimp only at hW); go_split_ands; go_simp; (try (simp (disch := omega) only [IntWalk.i64_in]; (try go_simp))); (try (split; (next => omega); (try go_simp))); try rfl; done))
          try simp only [Act.put, List.setIfInBounds_toArray, List.set_cons_zero, List.set_cons_succ]
          ((refine reg_yes (i := 2) (oi := { dst := some 20, op := Go.Op.indexAddr 24 (Go.Operand.tmp 18) (Go.Operand.tmp 19), type := 0, pos := "ref.go:29", after := #[{ on := 0, ground := Go.Ground.data }, { on := 1, ground := Go.Ground.data }], guard := none }) (v := ?_) rfl (by kernel_rfl) (by kernel_rfl) (by kernel_rfl) (fun _ _ _ h => h) rfl ?_ ?_); rotate_left; focus (intro W hW; (try dsimp only at hW); go_split_ands; go_simp; (try (simp (disch := omega) only [IntWalk.i64_in]; (try go_simp))); (try (split; (next => omega); (try go_simp))); try rfl; done))
          try simp only [Act.put, List.setIfInBounds_toArray, List.set_cons_zero, List.set_cons_succ]
          ((refine reg_yes (i := 3) (oi := { dst := some 21, op := Go.Op.load 3 (Go.Operand.tmp 20), type := 3, pos := "ref.go:29", after := #[{ on := 2, ground := Go.Ground.data }], guard := none }) (v := ?_) rfl (by kernel_rfl) (by kernel_rfl) (by kernel_rfl) (fun _ _ _ h => h) rfl ?_ ?_); rotate_left; focus (intro W hW; (try dsimp only at hW); go_split_ands; go_simp; (try (simp (disch := omega) only [IntWalk.i64_in]; (try go_simp))); (try (split; (next => omega); (try go_simp))); try rfl; done))
          try simp only [Act.put, List.setIfInBounds_toArray, List.set_cons_zero, List.set_cons_succ]
          ((refine reg_yes (i := 4) (oi := { dst := some 22, op := Go.Op.move (Go.Operand.tmp 1), type := 24, pos := "ref.go:29", after := #[], guard := none }) (v := ?_) rfl (by kernel_rfl) (by kernel_rfl) (by kernel_rfl) (fun _ _ _ h => h) rfl ?_ ?_); rotate_left; focus (intro W hW; (try dsimp only at hW); go_split_ands; go_simp; (try (simp (disch := omega) only [IntWalk.i64_in]; (try go_simp))); (try (split; (next => omega); (try go_simp))); try rfl; done))
          try simp only [Act.put, List.setIfInBounds_toArray, List.set_cons_zero, List.set_cons_succ]
          ((refine reg_yes (i := 5) (oi := { dst := some 23, op := Go.Op.move (Go.Operand.tmp 7), type := 3, pos := "ref.go:29", after := #[], guard := none }) (v := ?_) rfl (by kernel_rfl) (by kernel_rfl) (by kernel_rfl) (fun _ _ _ h => h) rfl ?_ ?_); rotate_left; focus (intro W hW; (try dsimp only at hW); go_split_ands; go_simp; (try (simp (disch := omega) only [IntWalk.i64_in]; (try go_simp))); (try (split; (next => omega); (try go_simp))); try rfl; done))
          try simp only [Act.put, List.setIfInBounds_toArray, List.set_cons_zero, List.set_cons_succ]
          ((refine reg_yes (i := 6) (oi := { dst := some 24, op := Go.Op.indexAddr 24 (Go.Operand.tmp 22) (Go.Operand.tmp 23), type := 0, pos := "ref.go:29", after := #[{ on := 4, ground := Go.Ground.data }, { on := 5, ground := Go.Ground.data }], guard := none }) (v := ?_) rfl (by kernel_rfl) (by kernel_rfl) (by kernel_rfl) (fun _ _ _ h => h) rfl ?_ ?_); rotate_left; focus (intro W hW; (try dsimp only at hW); go_split_ands; go_simp; (try (simp (disch := omega) only [IntWalk.i64_in]; (try go_simp))); (try (split; (next => omega); (try go_simp))); try rfl; done))
          try simp only [Act.put, List.setIfInBounds_toArray, List.set_cons_zero, List.set_cons_succ]
          ((refine reg_yes (i := 7) (oi := { dst := some 25, op := Go.Op.load 3 (Go.Operand.tmp 24), type := 3, pos := "ref.go:29", after := #[{ on := 6, ground := Go.Ground.data }], guard := none }) (v := ?_) rfl (by kernel_rfl) (by kernel_rfl) (by kernel_rfl) (fun _ _ _ h => h) rfl ?_ ?_); rotate_left; focus (intro W hW; (try dsimp only at hW); go_split_ands; go_simp; (try (simp (disch := omega) only [IntWalk.i64_in]; (try go_simp))); (try (split; (next => omega); (try go_simp))); try rfl; done))
          try simp only [Act.put, List.setIfInBounds_toArray, List.set_cons_zero, List.set_cons_succ]
          ((refine reg_yes (i := 8) (oi := { dst := some 26, op := Go.Op.binOp Go.BinOp.lss 3 (Go.Operand.tmp 21) (Go.Operand.tmp 25) 3, type := 4, pos := "ref.go:29", after := #[{ on := 3, ground := Go.Ground.data }, { on := 7, ground := Go.Ground.data }], guard := none }) (v := ?_) rfl (by kernel_rfl) (by kernel_rfl) (by kernel_rfl) (fun _ _ _ h => h) rfl ?_ ?_); rotate_left; focus (intro W hW; (try dsimp only at hW); go_split_ands; go_simp; (try (simp (disch := omega) only [IntWalk.i64_in]; (try go_simp))); (try (split; (next => omega); (try go_simp))); try rfl; done))
          try simp only [Act.put, List.setIfInBounds_toArray, List.set_cons_zero, List.set_cons_succ]
          -- ready: []
          refine reg_done (by kernel_rfl) (show (fun W => W.cell? ⟨b, o + k, none⟩ = some (.int .i64 x) ∧ W.cell? ⟨b', o' + k, none⟩ = some (.int .i64 y)) wr.drew from ⟨a0, b0⟩) ?_
          have hcd := hc.drew
          have Hown2 := Lib.hid (Hown.out.keepFlat (Chg.refl No wr).drew (fun _ _ f => f))
          have a1 : wr.drew.cell? ⟨b, o + k, none⟩ = some (.int .i64 x) := a0
          have b1 : wr.drew.cell? ⟨b', o' + k, none⟩ = some (.int .i64 y) := b0
          clear a0 b0 Hown
          have hszr : w.heap.size ≤ wr.drew.heap.size := hcd.size
          generalize wr.drew = wd at *
          go_wp2_with (first | (with_reducible refine stop_append ?_) | (with_reducible refine stop_copy ?_) | (with_reducible refine stop_make ?_) | (with_reducible refine stop_lookup ?_) | (with_reducible refine stop_update ?_) | (with_reducible refine stop_slice ?_) | (with_reducible refine stop_range ?_) | (with_reducible refine stop_next ?_) | (with_reducible refine stop_convert ⟨_, rfl⟩ ?_) | (with_reducible refine stop_convertB ⟨_, _, _, rfl⟩ ?_) | (with_reducible refine stop_eqSlice ⟨_, _, rfl⟩ ?_))
          refine step_append_flat (α := Int) (ys := [_]) Try.underlying24 vinfo_int rfl (Hown2.out.alloc _) rfl rfl (Sl.lit1 (F := No) (y := _) rfl rfl (not_no _)) (by rw [Hacc.out]; simp; omega) (by rw [Hacc.out]; simp; omega) (by simp; omega) ?_
          intro v9 w9 hown9 hg9
          have hc9 : Chg No w w9 := (hcd.alloc _).grew hg9 (fun i hi => .inr (Hown2.out.lt i hi).1)
          rw [← Hsn.out] at hown9
          have Hown9 := Lib.hid hown9
          clear hown9 hg9
          go_wp2_with (first | (with_reducible refine stop_append ?_) | (with_reducible refine stop_copy ?_) | (with_reducible refine stop_make ?_) | (with_reducible refine stop_lookup ?_) | (with_reducible refine stop_update ?_) | (with_reducible refine stop_slice ?_) | (with_reducible refine stop_range ?_) | (with_reducible refine stop_next ?_) | (with_reducible refine stop_convert ⟨_, rfl⟩ ?_) | (with_reducible refine stop_convertB ⟨_, _, _, rfl⟩ ?_) | (with_reducible refine stop_eqSlice ⟨_, _, rfl⟩ ?_))
          go_roundw
          case rel => exact ⟨k + 1, by omega, by go_num, hc9, Hown9.out⟩
          case measure => simp [intOf]; omega
      · obtain rfl : k = xs.length := by omega
        rw [List.take_of_length_le (by have := Hzl.out; omega)] at hown
        obtain ⟨A6, c6, e6⟩ := hown.slice
        subst e6
        have Hown := Lib.hid hown
        clear hown
        go_wp2_with (first | (with_reducible refine stop_append ?_) | (with_reducible refine stop_copy ?_) | (with_reducible refine stop_make ?_) | (with_reducible refine stop_lookup ?_) | (with_reducible refine stop_update ?_) | (with_reducible refine stop_slice ?_) | (with_reducible refine stop_range ?_) | (with_reducible refine stop_next ?_) | (with_reducible refine stop_convert ⟨_, rfl⟩ ?_) | (with_reducible refine stop_convertB ⟨_, _, _, rfl⟩ ?_) | (with_reducible refine stop_eqSlice ⟨_, _, rfl⟩ ?_))
        go_ret2
        exact ⟨hc, .inl ⟨_, Hr.out, _, rfl, Hown.out.slFlat (G := Lt w.heap.size) (fun i hi f => by have := (Hown.out.lt i hi).1; simp only [Lt] at f; omega)⟩⟩
set_option maxRecDepth 100000 in
set_option maxHeartbeats 1000000 in
theorem rmin_any (F G : Nat → Prop) (v u : Value) (xs ys : List Int) (w : World) (hs : Sl F w v xs) (ht : Sl G w u ys) (hl : xs.length * 8 ≤ 140737488355328) (hl' : ys.length * 8 ≤ 140737488355328) :
    Calls Try.prog 26 #[v, u] w (PairPost (bothF min xs ys) w) := by
  have Hk := Lib.hid (rkind_any F G v u xs ys w hs ht hl hl')
  have H := Lib.hid hs
  have H' := Lib.hid ht
  obtain ⟨A, c, rfl⟩ := hs.slice
  obtain ⟨B, d, rfl⟩ := ht.slice
  clear hs ht
  cases hk : kindB xs ys with
  | false =>
    rw [hk] at Hk
    have Hr := Lib.hid (both_no (f := min) hk)
    clear hk
    go_enter Try.func26, Try.ntmps26
    go_wp2_with (first | (with_reducible refine stop_append ?_) | (with_reducible refine stop_copy ?_) | (with_reducible refine stop_make ?_) | (with_reducible refine stop_lookup ?_) | (with_reducible refine stop_update ?_) | (with_reducible refine stop_slice ?_) | (with_reducible refine stop_range ?_) | (with_reducible refine stop_next ?_) | (with_reducible refine stop_convert ⟨_, rfl⟩ ?_) | (with_reducible refine stop_convertB ⟨_, _, _, rfl⟩ ?_) | (with_reducible refine stop_eqSlice ⟨_, _, rfl⟩ ?_))
    refine Hk.out.mono ?_
    rintro e w1 ⟨rfl, hc1⟩
    go_wp2_with (first | (with_reducible refine stop_append ?_) | (with_reducible refine stop_copy ?_) | (with_reducible refine stop_make ?_) | (with_reducible refine stop_lookup ?_) | (with_reducible refine stop_update ?_) | (with_reducible refine stop_slice ?_) | (with_reducible refine stop_range ?_) | (with_reducible refine stop_next ?_) | (with_reducible refine stop_convert ⟨_, rfl⟩ ?_) | (with_reducible refine stop_convertB ⟨_, _, _, rfl⟩ ?_) | (with_reducible refine stop_eqSlice ⟨_, _, rfl⟩ ?_))
    go_ret2
    exact ⟨hc1, .inr ⟨Hr.out, rfl⟩⟩
  | true =>
    rw [hk] at Hk
    have Hr := Lib.hid (both_yes (f := min) hk)
    have Hlen := Lib.hid (kind_iff.1 hk).2.2
    have hx8 := (vright_iff.1 (kind_iff.1 hk).1).2.1
    have hzl : (List.zipWith min xs ys).length = xs.length := by have := Hlen.out; simp only [List.length_zipWith]; omega
    have hzk : ∀ k (h : k < xs.length) (h' : k < ys.length), (List.zipWith min xs ys).take (k + 1) = (List.zipWith min xs ys).take k ++ [min xs[k] ys[k]] := fun k h h' => by
      rw [List.take_succ_eq_append_getElem (by omega), List.getElem_zipWith]
    have Hzk := Lib.hid hzk
    rw [← (kind_iff.1 hk).2.2] at H' Hk ⊢
    clear hk hl' hzk
    generalize hz : List.zipWith min xs ys = z at *
    have Hz := Lib.hid hz
    have Hzl := Lib.hid hzl
    clear hz hzl
    go_enter Try.func26, Try.ntmps26
    go_wp2_with (first | (with_reducible refine stop_append ?_) | (with_reducible refine stop_copy ?_) | (with_reducible refine stop_make ?_) | (with_reducible refine stop_lookup ?_) | (with_reducible refine stop_update ?_) | (with_reducible refine stop_slice ?_) | (with_reducible refine stop_range ?_) | (with_reducible refine stop_next ?_) | (with_reducible refine stop_convert ⟨_, rfl⟩ ?_) | (with_reducible refine stop_convertB ⟨_, _, _, rfl⟩ ?_) | (with_reducible refine stop_eqSlice ⟨_, _, rfl⟩ ?_))
    refine Hk.out.mono ?_
    rintro e w1 ⟨rfl, hc1⟩
    have Hc1 := Lib.hid hc1
    go_wp2_with (first | (with_reducible refine stop_append ?_) | (with_reducible refine stop_copy ?_) | (with_reducible refine stop_make ?_) | (with_reducible refine stop_lookup ?_) | (with_reducible refine stop_update ?_) | (with_reducible refine stop_slice ?_) | (with_reducible refine stop_range ?_) | (with_reducible refine stop_next ?_) | (with_reducible refine stop_convert ⟨_, rfl⟩ ?_) | (with_reducible refine stop_convertB ⟨_, _, _, rfl⟩ ?_) | (with_reducible refine stop_eqSlice ⟨_, _, rfl⟩ ?_))
    go_loopw [6, 7] (fun v6 v7 wr => ∃ k : Nat, k ≤ xs.length ∧ v7 = .int .i64 k ∧ Chg No w wr ∧ Cb.Own No wr w.heap.size 3 v6 (z.take k)) (fun _ v7 _ => xs.length - (intOf v7).toNat)
    case atStart => exact ⟨0, by omega, rfl, hc1, Cb.Own.nil _ _ _ _⟩
    case round =>
      obtain ⟨k, hk, rfl, hc, hown⟩ := hrel
      by_cases hlt : k < xs.length
      · have hlt' : k < ys.length := by have := Hlen.out; omega
        obtain ⟨b, o, rfl, _, hbl, a0⟩ := num_in (H.out.keepNo hc) k hlt
        have hgy : Sl G w (.slice B xs.length d) ys := H'.out
        obtain ⟨b', o', rfl, _, hbl', b0⟩ := num_in (hgy.keepNo hc) k hlt'
        have hsn := Hzk.out k hlt hlt'
        have hacc : (z.take k).length = k := by have := Hzl.out; rw [List.length_take]; omega
        clear hgy
        generalize xs[k] = x at *
        generalize ys[k] = y at *
        generalize z.take k = acc at *
        have Hown := Lib.hid hown
        have Hacc := Lib.hid hacc
        have Hsn := Lib.hid hsn
        obtain ⟨A6, c6, rfl⟩ := hown.slice
        clear hown hacc hsn
        have hcase : (x < y ∧ min x y = x) ∨ (¬ x < y ∧ min x y = y) := by omega
        rcases hcase with ⟨hxy, e⟩ | ⟨hxy, e⟩
        all_goals
          rw [e] at Hsn
          clear e
          go_wp2_with (first | (with_reducible refine stop_append ?_) | (with_reducible refine stop_copy ?_) | (with_reducible refine stop_make ?_) | (with_reducible refine stop_lookup ?_) | (with_reducible refine stop_update ?_) | (with_reducible refine stop_slice ?_) | (with_reducible refine stop_range ?_) | (with_reducible refine stop_next ?_) | (with_reducible refine stop_convert ⟨_, rfl⟩ ?_) | (with_reducible refine stop_convertB ⟨_, _, _, rfl⟩ ?_) | (with_reducible refine stop_eqSlice ⟨_, _, rfl⟩ ?_))
          refine reg_start (fun W => W.cell? ⟨b, o + k, none⟩ = some (.int .i64 x) ∧ W.cell? ⟨b', o' + k, none⟩ = some (.int .i64 y)) (by kernel_rfl) ?_
          ((refine reg_yes (i := 0) (oi := { dst := some 18, op := Go.Op.move (Go.Operand.tmp 0), type := 24, pos := "ref.go:45", after := #[], guard := none }) (v := ?_) rfl (by kernel_rfl) (by kernel_rfl) (by kernel_rfl) (fun _ _ _ h => h) rfl ?_ ?_); rotate_left; focus (intro W hW; (try dsimp only at hW); go_split_ands; go_simp; (try (simp (disch := omega) only [IntWalk.i64_in]; (try go_simp))); (try (split; (next => omega); (try go_simp))); try rfl; done))
          try simp only [Act.put, List.setIfInBounds_toArray, List.set_cons_zero, List.set_cons_succ]
          ((refine reg_yes (i := 1) (oi := { dst := some 19, op := Go.Op.move (Go.Operand.tmp 7), type := 3, pos := "ref.go:45", after := #[], guard := none }) (v := ?_) rfl (by kernel_rfl) (by kernel_rfl) (by kernel_rfl) (fun _ _ _ h => h) rfl ?_ ?_); rotate_left; focus (intro W hW; (try dsimp only at hW); go_split_ands; go_simp; (try (simp (disch := omega) only [IntWalk.i64_in]; (try go_simp))); (try (split; (next => omega); (try go_simp))); try rfl; done))
          try simp only [Act.put, List.setIfInBounds_toArray, List.set_cons_zero, List.set_cons_succ]
          ((refine reg_yes (i := 2) (oi := { dst := some 20, op := Go.Op.indexAddr 24 (Go.Operand.tmp 18) (Go.Operand.tmp 19), type := 0, pos := "ref.go:45", after := #[{ on := 0, ground := Go.Ground.data }, { on := 1, ground := Go.Ground.data }], guard := none }) (v := ?_) rfl (by kernel_rfl) (by kernel_rfl) (by kernel_rfl) (fun _ _ _ h => h) rfl ?_ ?_); rotate_left; focus (intro W hW; (try dsimp only at hW); go_split_ands; go_simp; (try (simp (disch := omega) only [IntWalk.i64_in]; (try go_simp))); (try (split; (next => omega); (try go_simp))); try rfl; done))
          try simp only [Act.put, List.setIfInBounds_toArray, List.set_cons_zero, List.set_cons_succ]
          ((refine reg_yes (i := 3) (oi := { dst := some 21, op := Go.Op.load 3 (Go.Operand.tmp 20), type := 3, pos := "ref.go:45", after := #[{ on := 2, ground := Go.Ground.data }], guard := none }) (v := ?_) rfl (by kernel_rfl) (by kernel_rfl) (by kernel_rfl) (fun _ _ _ h => h) rfl ?_ ?_); rotate_left; focus (intro W hW; (try dsimp only at hW); go_split_ands; go_simp; (try (simp (disch := omega) only [IntWalk.i64_in]; (try go_simp))); (try (split; (next => omega); (try go_simp))); try rfl; done))
          try simp only [Act.put, List.setIfInBounds_toArray, List.set_cons_zero, List.set_cons_succ]
          ((refine reg_yes (i := 4) (oi := { dst := some 22, op := Go.Op.move (Go.Operand.tmp 1), type := 24, pos := "ref.go:45", after := #[], guard := none }) (v := ?_) rfl (by kernel_rfl) (by kernel_rfl) (by kernel_rfl) (fun _ _ _ h => h) rfl ?_ ?_); rotate_left; focus (intro W hW; (try dsimp only at hW); go_split_ands; go_simp; (try (simp (disch := omega) only [IntWalk.i64_in]; (try go_simp))); (try (split; (next => omega); (try go_simp))); try rfl; done))
          try simp only [Act.put, List.setIfInBounds_toArray, List.set_cons_zero, List.set_cons_succ]
          ((refine reg_yes (i := 5) (oi := { dst := some 23, op := Go.Op.move (Go.Operand.tmp 7), type := 3, pos := "ref.go:45", after := #[], guard := none }) (v := ?_) rfl (by kernel_rfl) (by kernel_rfl) (by kernel_rfl) (fun _ _ _ h => h) rfl ?_ ?_); rotate_left; focus (intro W hW; (try dsimp only at hW); go_split_ands; go_simp; (try (simp (disch := omega) only [IntWalk.i64_in]; (try go_simp))); (try (split; (next => omega); (try go_simp))); try rfl; done))
          try simp only [Act.put, List.setIfInBounds_toArray, List.set_cons_zero, List.set_cons_succ]
          ((refine reg_yes (i := 6) (oi := { dst := some 24, op := Go.Op.indexAddr 24 (Go.Operand.tmp 22) (Go.Operand.tmp 23), type := 0, pos := "ref.go:45", after := #[{ on := 4, ground := Go.Ground.data }, { on := 5, ground := Go.Ground.data }], guard := none }) (v := ?_) rfl (by kernel_rfl) (by kernel_rfl) (by kernel_rfl) (fun _ _ _ h => h) rfl ?_ ?_); rotate_left; focus (intro W hW; (try dsimp only at hW); go_split_ands; go_simp; (try (simp (disch := omega) only [IntWalk.i64_in]; (try go_simp))); (try (split; (next => omega); (try go_simp))); try rfl; done))
          try simp only [Act.put, List.setIfInBounds_toArray, List.set_cons_zero, List.set_cons_succ]
          ((refine reg_yes (i := 7) (oi := { dst := some 25, op := Go.Op.load 3 (Go.Operand.tmp 24), type := 3, pos := "ref.go:45", after := #[{ on := 6, ground := Go.Ground.data }], guard := none }) (v := ?_) rfl (by kernel_rfl) (by kernel_rfl) (by kernel_rfl) (fun _ _ _ h => h) rfl ?_ ?_); rotate_left; focus (intro W hW; (try dsimp only at hW); go_split_ands; go_simp; (try (simp (disch := omega) only [IntWalk.i64_in]; (try go_simp))); (try (split; (next => omega); (try go_simp))); try rfl; done))
          try simp only [Act.put, List.setIfInBounds_toArray, List.set_cons_zero, List.set_cons_succ]
          ((refine reg_yes (i := 8) (oi := { dst := some 26, op := Go.Op.binOp Go.BinOp.lss 3 (Go.Operand.tmp 21) (Go.Operand.tmp 25) 3, type := 4, pos := "ref.go:45", after := #[{ on := 3, ground := Go.Ground.data }, { on := 7, ground := Go.Ground.data }], guard := none }) (v := ?_) rfl (by kernel_rfl) (by kernel_rfl) (by kernel_rfl) (fun _ _ _ h => h) rfl ?_ ?_); rotate_left; focus (intro W hW; (try dsimp only at hW); go_split_ands; go_simp; (try (simp (disch := omega) only [IntWalk.i64_in]; (try go_simp))); (try (split; (next => omega); (try go_simp))); try rfl; done))
          try simp only [Act.put, List.setIfInBounds_toArray, List.set_cons_zero, List.set_cons_succ]
          -- ready: []
          refine reg_done (by kernel_rfl) (show (fun W => W.cell? ⟨b, o + k, none⟩ = some (.int .i64 x) ∧ W.cell? ⟨b', o' + k, none⟩ = some (.int .i64 y)) wr.drew from ⟨a0, b0⟩) ?_
          have hcd := hc.drew
          have Hown2 := Lib.hid (Hown.out.keepFlat (Chg.refl No wr).drew (fun _ _ f => f))
          have a1 : wr.drew.cell? ⟨b, o + k, none⟩ = some (.int .i64 x) := a0
          have b1 : wr.drew.cell? ⟨b', o' + k, none⟩ = some (.int .i64 y) := b0
          clear a0 b0 Hown
          have hszr : w.heap.size ≤ wr.drew.heap.size := hcd.size
          generalize wr.drew = wd at *
          go_wp2_with (first | (with_reducible refine stop_append ?_) | (with_reducible refine stop_copy ?_) | (with_reducible refine stop_make ?_) | (with_reducible refine stop_lookup ?_) | (with_reducible refine stop_update ?_) | (with_reducible refine stop_slice ?_) | (with_reducible refine stop_range ?_) | (with_reducible refine stop_next ?_) | (with_reducible refine stop_convert ⟨_, rfl⟩ ?_) | (with_reducible refine stop_convertB ⟨_, _, _, rfl⟩ ?_) | (with_reducible refine stop_eqSlice ⟨_, _, rfl⟩ ?_))
          refine step_append_flat (α := Int) (ys := [_]) Try.underlying24 vinfo_int rfl (Hown2.out.alloc _) rfl rfl (Sl.lit1 (F := No) (y := _) rfl rfl (not_no _)) (by rw [Hacc.out]; simp; omega) (by rw [Hacc.out]; simp; omega) (by simp; omega) ?_
          intro v9 w9 hown9 hg9
          have hc9 : Chg No w w9 := (hcd.alloc _).grew hg9 (fun i hi => .inr (Hown2.out.lt i hi).1)
          rw [← Hsn.out] at hown9
          have Hown9 := Lib.hid hown9
          clear hown9 hg9
          go_wp2_with (first | (with_reducible refine stop_append ?_) | (with_reducible refine stop_copy ?_) | (with_reducible refine stop_make ?_) | (with_reducible refine stop_lookup ?_) | (with_reducible refine stop_update ?_) | (with_reducible refine stop_slice ?_) | (with_reducible refine stop_range ?_) | (with_reducible refine stop_next ?_) | (with_reducible refine stop_convert ⟨_, rfl⟩ ?_) | (with_reducible refine stop_convertB ⟨_, _, _, rfl⟩ ?_) | (with_reducible refine stop_eqSlice ⟨_, _, rfl⟩ ?_))
          go_roundw
          case rel => exact ⟨k + 1, by omega, by go_num, hc9, Hown9.out⟩
          case measure => simp [intOf]; omega
      · obtain rfl : k = xs.length := by omega
        rw [List.take_of_length_le (by have := Hzl.out; omega)] at hown
        obtain ⟨A6, c6, e6⟩ := hown.slice
        subst e6
        have Hown := Lib.hid hown
        clear hown
        go_wp2_with (first | (with_reducible refine stop_append ?_) | (with_reducible refine stop_copy ?_) | (with_reducible refine stop_make ?_) | (with_reducible refine stop_lookup ?_) | (with_reducible refine stop_update ?_) | (with_reducible refine stop_slice ?_) | (with_reducible refine stop_range ?_) | (with_reducible refine stop_next ?_) | (with_reducible refine stop_convert ⟨_, rfl⟩ ?_) | (with_reducible refine stop_convertB ⟨_, _, _, rfl⟩ ?_) | (with_reducible refine stop_eqSlice ⟨_, _, rfl⟩ ?_))
        go_ret2
        exact ⟨hc, .inl ⟨_, Hr.out, _, rfl, Hown.out.slFlat (G := Lt w.heap.size) (fun i hi f => by have := (Hown.out.lt i hi).1; simp only [Lt] at f; omega)⟩⟩
set_option maxRecDepth 100000 in
set_option maxHeartbeats 1000000 in
theorem rgain_any (F G : Nat → Prop) (v u : Value) (xs ys : List Int) (w : World) (hs : Sl F w v xs) (ht : Sl G w u ys) (hl : xs.length * 8 ≤ 140737488355328) (hl' : ys.length * 8 ≤ 140737488355328) :
    Calls Try.prog 27 #[v, u] w (PairPost (gainF xs ys) w) := by
  have Hk := Lib.hid (rcovers_any F G v u xs ys w hs ht hl hl')
  have H := Lib.hid hs
  have H' := Lib.hid ht
  obtain ⟨A, c, rfl⟩ := hs.slice
  obtain ⟨B, d, rfl⟩ := ht.slice
  clear hs ht
  cases hk : coversB xs ys with
  | false =>
    rw [hk] at Hk
    have Hr := Lib.hid (show gainF xs ys = none by simp [gainF, hk])
    clear hk
    go_enter Try.func27, Try.ntmps27
    go_wp2_with (first | (with_reducible refine stop_append ?_) | (with_reducible refine stop_copy ?_) | (with_reducible refine stop_make ?_) | (with_reducible refine stop_lookup ?_) | (with_reducible refine stop_update ?_) | (with_reducible refine stop_slice ?_) | (with_reducible refine stop_range ?_) | (with_reducible refine stop_next ?_) | (with_reducible refine stop_convert ⟨_, rfl⟩ ?_) | (with_reducible refine stop_convertB ⟨_, _, _, rfl⟩ ?_) | (with_reducible refine stop_eqSlice ⟨_, _, rfl⟩ ?_))
    refine Hk.out.mono ?_
    rintro e w1 ⟨rfl, hc1⟩
    go_wp2_with (first | (with_reducible refine stop_append ?_) | (with_reducible refine stop_copy ?_) | (with_reducible refine stop_make ?_) | (with_reducible refine stop_lookup ?_) | (with_reducible refine stop_update ?_) | (with_reducible refine stop_slice ?_) | (with_reducible refine stop_range ?_) | (with_reducible refine stop_next ?_) | (with_reducible refine stop_convert ⟨_, rfl⟩ ?_) | (with_reducible refine stop_convertB ⟨_, _, _, rfl⟩ ?_) | (with_reducible refine stop_eqSlice ⟨_, _, rfl⟩ ?_))
    go_ret2
    exact ⟨hc1, .inr ⟨Hr.out, rfl⟩⟩
  | true =>
    rw [hk] at Hk
    obtain ⟨kk, _⟩ := covers_at.1 hk
    obtain ⟨r1, r2, hlen⟩ := kind_iff.1 kk
    have Hr := Lib.hid (show gainF xs ys = some (List.zipWith (· - ·) xs ys) by simp [gainF, hk])
    have Hlen := Lib.hid hlen
    have hx8 := (vright_iff.1 r1).2.1
    have hzl : (List.zipWith (· - ·) xs ys).length = xs.length := by simp only [List.length_zipWith]; omega
    have hzk : ∀ k (h : k < xs.length) (h' : k < ys.length), (List.zipWith (· - ·) xs ys).take (k + 1) = (List.zipWith (· - ·) xs ys).take k ++ [xs[k] - ys[k]] ∧ IntKind.i64.wrap (xs[k] - ys[k]) = xs[k] - ys[k] := fun k h h' => by
      refine ⟨by rw [List.take_succ_eq_append_getElem (by omega), List.getElem_zipWith], ?_⟩
      have h3 := right_at r1 k h
      have h4 := right_at r2 k h'
      exact IntWalk.i64_in _ (by omega)
    have Hzk := Lib.hid hzk
    rw [← hlen] at H' Hk ⊢
    clear hk kk r1 r2 hlen hl' hzk
    generalize List.zipWith (· - ·) xs ys = z at *
    have Hzl := Lib.hid hzl
    clear hzl
    go_enter Try.func27, Try.ntmps27
    go_wp2_with (first | (with_reducible refine stop_append ?_) | (with_reducible refine stop_copy ?_) | (with_reducible refine stop_make ?_) | (with_reducible refine stop_lookup ?_) | (with_reducible refine stop_update ?_) | (with_reducible refine stop_slice ?_) | (with_reducible refine stop_range ?_) | (with_reducible refine stop_next ?_) | (with_reducible refine stop_convert ⟨_, rfl⟩ ?_) | (with_reducible refine stop_convertB ⟨_, _, _, rfl⟩ ?_) | (with_reducible refine stop_eqSlice ⟨_, _, rfl⟩ ?_))
    refine Hk.out.mono ?_
    rintro e w1 ⟨rfl, hc1⟩
    go_wp2_with (first | (with_reducible refine stop_append ?_) | (with_reducible refine stop_copy ?_) | (with_reducible refine stop_make ?_) | (with_reducible refine stop_lookup ?_) | (with_reducible refine stop_update ?_) | (with_reducible refine stop_slice ?_) | (with_reducible refine stop_range ?_) | (with_reducible refine stop_next ?_) | (with_reducible refine stop_convert ⟨_, rfl⟩ ?_) | (with_reducible refine stop_convertB ⟨_, _, _, rfl⟩ ?_) | (with_reducible refine stop_eqSlice ⟨_, _, rfl⟩ ?_))
    go_loopw [6, 7] (fun v6 v7 wr => ∃ k : Nat, k ≤ xs.length ∧ v7 = .int .i64 k ∧ Chg No w wr ∧ Cb.Own No wr w.heap.size 3 v6 (z.take k)) (fun _ v7 _ => xs.length - (intOf v7).toNat)
    case atStart => exact ⟨0, by omega, rfl, hc1, Cb.Own.nil _ _ _ _⟩
    case round =>
      obtain ⟨k, hk, rfl, hc, hown⟩ := hrel
      by_cases hlt : k < xs.length
      · have hlt' : k < ys.length := by have := Hlen.out; omega
        obtain ⟨b, o, rfl, _, hbl, a0⟩ := num_in ((Sl.up' H.out).keepNo hc) k hlt
        have hgy : Sl G w (.slice B xs.length d) ys := H'.out
        obtain ⟨b', o', rfl, _, hbl', b0⟩ := num_in ((Sl.up' hgy).keepNo hc) k hlt'
        obtain ⟨hsn, hwr⟩ := Hzk.out k hlt hlt'
        have hacc : (z.take k).length = k := by have := Hzl.out; rw [List.length_take]; omega
        clear hgy
        generalize xs[k] = x at *
        generalize ys[k] = y at *
        generalize z.take k = acc at *
        have Hacc := Lib.hid hacc
        have Hsn := Lib.hid hsn
        obtain ⟨A6, c6, rfl⟩ := hown.slice
        have hxb : ¬ OB (.slice A6 acc.length c6) b := fun h => by have := (hown.lt _ h).1; simp only [Ge] at *; omega
        have hyb : ¬ OB (.slice A6 acc.length c6) b' := fun h => by have := (hown.lt _ h).1; simp only [Ge] at *; omega
        clear hacc hsn
        go_wp2_with (first | (with_reducible refine stop_append ?_) | (with_reducible refine stop_copy ?_) | (with_reducible refine stop_make ?_) | (with_reducible refine stop_lookup ?_) | (with_reducible refine stop_update ?_) | (with_reducible refine stop_slice ?_) | (with_reducible refine stop_range ?_) | (with_reducible refine stop_next ?_) | (with_reducible refine stop_convert ⟨_, rfl⟩ ?_) | (with_reducible refine stop_convertB ⟨_, _, _, rfl⟩ ?_) | (with_reducible refine stop_eqSlice ⟨_, _, rfl⟩ ?_))
        refine rt_start (fun W => W.cell? ⟨b, o + k, none⟩ = some (.int .i64 x) ∧ W.cell? ⟨b', o' + k, none⟩ = some (.int .i64 y)) (by kernel_rfl) ?_
        ((refine rt_yes (i := 0) (oi := { dst := some 18, op := Go.Op.move (Go.Operand.tmp 6), type := 24, pos := "ref.go:86", after := #[], guard := none }) (v := ?_) rfl (by kernel_rfl) (by kernel_rfl) (by kernel_rfl) (fun _ _ _ h => h) rfl ?_ ?_); rotate_left; focus (intro W hW; (try dsimp only at hW); go_split_ands; go_simp; (try (simp (disch := omega) only [IntWalk.i64_in]; (try go_simp))); (try (split; (next => omega); (try go_simp))); try rfl; done))
        try simp only [Act.put, List.setIfInBounds_toArray, List.set_cons_zero, List.set_cons_succ]
        ((refine rt_yes (i := 1) (oi := { dst := some 19, op := Go.Op.move (Go.Operand.tmp 0), type := 24, pos := "ref.go:86", after := #[], guard := none }) (v := ?_) rfl (by kernel_rfl) (by kernel_rfl) (by kernel_rfl) (fun _ _ _ h => h) rfl ?_ ?_); rotate_left; focus (intro W hW; (try dsimp only at hW); go_split_ands; go_simp; (try (simp (disch := omega) only [IntWalk.i64_in]; (try go_simp))); (try (split; (next => omega); (try go_simp))); try rfl; done))
        try simp only [Act.put, List.setIfInBounds_toArray, List.set_cons_zero, List.set_cons_succ]
        ((refine rt_yes (i := 2) (oi := { dst := some 20, op := Go.Op.move (Go.Operand.tmp 7), type := 3, pos := "ref.go:86", after := #[], guard := none }) (v := ?_) rfl (by kernel_rfl) (by kernel_rfl) (by kernel_rfl) (fun _ _ _ h => h) rfl ?_ ?_); rotate_left; focus (intro W hW; (try dsimp only at hW); go_split_ands; go_simp; (try (simp (disch := omega) only [IntWalk.i64_in]; (try go_simp))); (try (split; (next => omega); (try go_simp))); try rfl; done))
        try simp only [Act.put, List.setIfInBounds_toArray, List.set_cons_zero, List.set_cons_succ]
        ((refine rt_yes (i := 3) (oi := { dst := some 21, op := Go.Op.indexAddr 24 (Go.Operand.tmp 19) (Go.Operand.tmp 20), type := 0, pos := "ref.go:86", after := #[{ on := 1, ground := Go.Ground.data }, { on := 2, ground := Go.Ground.data }], guard := none }) (v := ?_) rfl (by kernel_rfl) (by kernel_rfl) (by kernel_rfl) (fun _ _ _ h => h) rfl ?_ ?_); rotate_left; focus (intro W hW; (try dsimp only at hW); go_split_ands; go_simp; (try (simp (disch := omega) only [IntWalk.i64_in]; (try go_simp))); (try (split; (next => omega); (try go_simp))); try rfl; done))
        try simp only [Act.put, List.setIfInBounds_toArray, List.set_cons_zero, List.set_cons_succ]
        ((refine rt_yes (i := 4) (oi := { dst := some 22, op := Go.Op.load 3 (Go.Operand.tmp 21), type := 3, pos := "ref.go:86", after := #[{ on := 3, ground := Go.Ground.data }], guard := none }) (v := ?_) rfl (by kernel_rfl) (by kernel_rfl) (by kernel_rfl) (fun _ _ _ h => h) rfl ?_ ?_); rotate_left; focus (intro W hW; (try dsimp only at hW); go_split_ands; go_simp; (try (simp (disch := omega) only [IntWalk.i64_in]; (try go_simp))); (try (split; (next => omega); (try go_simp))); try rfl; done))
        try simp only [Act.put, List.setIfInBounds_toArray, List.set_cons_zero, List.set_cons_succ]
        ((refine rt_yes (i := 5) (oi := { dst := some 23, op := Go.Op.move (Go.Operand.tmp 1), type := 24, pos := "ref.go:86", after := #[], guard := none }) (v := ?_) rfl (by kernel_rfl) (by kernel_rfl) (by kernel_rfl) (fun _ _ _ h => h) rfl ?_ ?_); rotate_left; focus (intro W hW; (try dsimp only at hW); go_split_ands; go_simp; (try (simp (disch := omega) only [IntWalk.i64_in]; (try go_simp))); (try (split; (next => omega); (try go_simp))); try rfl; done))
        try simp only [Act.put, List.setIfInBounds_toArray, List.set_cons_zero, List.set_cons_succ]
        ((refine rt_yes (i := 6) (oi := { dst := some 24, op := Go.Op.move (Go.Operand.tmp 7), type := 3, pos := "ref.go:86", after := #[], guard := none }) (v := ?_) rfl (by kernel_rfl) (by kernel_rfl) (by kernel_rfl) (fun _ _ _ h => h) rfl ?_ ?_); rotate_left; focus (intro W hW; (try dsimp only at hW); go_split_ands; go_simp; (try (simp (disch := omega) only [IntWalk.i64_in]; (try go_simp))); (try (split; (next => omega); (try go_simp))); try rfl; done))
        try simp only [Act.put, List.setIfInBounds_toArray, List.set_cons_zero, List.set_cons_succ]
        ((refine rt_yes (i := 7) (oi := { dst := some 25, op := Go.Op.indexAddr 24 (Go.Operand.tmp 23) (Go.Operand.tmp 24), type := 0, pos := "ref.go:86", after := #[{ on := 5, ground := Go.Ground.data }, { on := 6, ground := Go.Ground.data }], guard := none }) (v := ?_) rfl (by kernel_rfl) (by kernel_rfl) (by kernel_rfl) (fun _ _ _ h => h) rfl ?_ ?_); rotate_left; focus (intro W hW; (try dsimp only at hW); go_split_ands; go_simp; (try (simp (disch := omega) only [IntWalk.i64_in]; (try go_simp))); (try (split; (next => omega); (try go_simp))); try rfl; done))
        try simp only [Act.put, List.setIfInBounds_toArray, List.set_cons_zero, List.set_cons_succ]
        ((refine rt_yes (i := 8) (oi := { dst := some 26, op := Go.Op.load 3 (Go.Operand.tmp 25), type := 3, pos := "ref.go:86", after := #[{ on := 7, ground := Go.Ground.data }], guard := none }) (v := ?_) rfl (by kernel_rfl) (by kernel_rfl) (by kernel_rfl) (fun _ _ _ h => h) rfl ?_ ?_); rotate_left; focus (intro W hW; (try dsimp only at hW); go_split_ands; go_simp; (try (simp (disch := omega) only [IntWalk.i64_in]; (try go_simp))); (try (split; (next => omega); (try go_simp))); try rfl; done))
        try simp only [Act.put, List.setIfInBounds_toArray, List.set_cons_zero, List.set_cons_succ]
        ((refine rt_yes (i := 9) (oi := { dst := some 27, op := Go.Op.binOp Go.BinOp.sub 3 (Go.Operand.tmp 22) (Go.Operand.tmp 26) 3, type := 3, pos := "ref.go:86", after := #[{ on := 4, ground := Go.Ground.data }, { on := 8, ground := Go.Ground.data }], guard := none }) (v := ?_) rfl (by kernel_rfl) (by kernel_rfl) (by kernel_rfl) (fun _ _ _ h => h) rfl ?_ ?_); rotate_left; focus (intro W hW; (try dsimp only at hW); go_split_ands; go_simp; (try (simp (disch := omega) only [IntWalk.i64_in]; (try go_simp))); (try (split; (next => omega); (try go_simp))); try rfl; done))
        try simp only [Act.put, List.setIfInBounds_toArray, List.set_cons_zero, List.set_cons_succ]
        -- ready: [10]
        have s0 : (fun W => W.cell? ⟨b, o + k, none⟩ = some (.int .i64 x) ∧ W.cell? ⟨b', o' + k, none⟩ = some (.int .i64 y)) wr.drew := ⟨a0, b0⟩
        refine rt_k (fun W => W.cell? ⟨b, o + k, none⟩ = some (.int .i64 x) ∧ W.cell? ⟨b', o' + k, none⟩ = some (.int .i64 y)) (i := 10) (oi := { dst := some 28, op := Go.Op.buildSlice 24 1 #[(0, Go.Operand.tmp 27)], type := 24, pos := "ref.go:86", after := #[{ on := 9, ground := Go.Ground.data }], guard := none }) (by kernel_rfl) s0 (fun _ h => h) rfl (by rfl) (fun K hK => ?_)
        go_simp
        refine hK _ _ ?_
        clear hK K
        try simp only [Act.put, List.setIfInBounds_toArray, List.set_cons_zero, List.set_cons_succ]
        -- ready: [11]
        have hc4 : Chg No wr (wr.drew.alloc (.cells #[.int .i64 (x - y)] 3)) := (Chg.refl No wr).drew.alloc _
        have s4 : (fun W => W.cell? ⟨b, o + k, none⟩ = some (.int .i64 x) ∧ W.cell? ⟨b', o' + k, none⟩ = some (.int .i64 y)) (wr.drew.alloc (.cells #[.int .i64 (x - y)] 3)) := ⟨hc4.cell a0 (not_no _), hc4.cell b0 (not_no _)⟩
        have hown4 := hown.keepFlat hc4 (fun _ _ h => h)
        refine rt_append_flat (α := Int) (fun W => W.cell? ⟨b, o + k, none⟩ = some (.int .i64 x) ∧ W.cell? ⟨b', o' + k, none⟩ = some (.int .i64 y)) (i := 11) (by kernel_rfl) s4 (fun _ h => h) rfl rfl Try.underlying24 vinfo_int rfl hown4 rfl rfl (Sl.lit1 (F := No) (y := x - y) rfl rfl (not_no _)) (by rw [Hacc.out]; simp; omega) (by rw [Hacc.out]; simp; omega) (by have := hc.size; have := hc4.size; simp; omega) ?_
        intro v5 w5 hown5 hg5
        have hc5 : Chg (OB (.slice A6 acc.length c6)) wr w5 := hc4.of_no.trans hg5.chg
        have hcw : Chg No w w5 := hc.old hc5 (fun k h => (hown.lt _ h).1)
        have s5 : (fun W => W.cell? ⟨b, o + k, none⟩ = some (.int .i64 x) ∧ W.cell? ⟨b', o' + k, none⟩ = some (.int .i64 y)) w5 := ⟨hc5.cell a0 hxb, hc5.cell b0 hyb⟩
        rw [← Hsn.out] at hown5
        try simp only [Act.put, List.setIfInBounds_toArray, List.set_cons_zero, List.set_cons_succ]
        -- ready: [12]
        refine rt_k (fun W => W.cell? ⟨b, o + k, none⟩ = some (.int .i64 x) ∧ W.cell? ⟨b', o' + k, none⟩ = some (.int .i64 y)) (i := 12) (oi := { dst := some 6, op := Go.Op.assign (Go.Operand.tmp 29), type := 24, pos := "ref.go:86", after := #[{ on := 11, ground := Go.Ground.data }, { on := 11, ground := Go.Ground.chain }, { on := 0, ground := Go.Ground.phase }, { on := 1, ground := Go.Ground.phase }, { on := 2, ground := Go.Ground.phase }, { on := 3, ground := Go.Ground.phase }, { on := 4, ground := Go.Ground.phase }, { on := 5, ground := Go.Ground.phase }, { on := 6, ground := Go.Ground.phase }, { on := 7, ground := Go.Ground.phase }, { on := 8, ground := Go.Ground.phase }, { on := 9, ground := Go.Ground.phase }, { on := 10, ground := Go.Ground.phase }, { on := 11, ground := Go.Ground.phase }], guard := none }) (by kernel_rfl) s5 (fun _ h => h) rfl (by rfl) (fun K hK => ?_)
        go_simp
        refine hK _ _ ?_
        clear hK K
        try simp only [Act.put, List.setIfInBounds_toArray, List.set_cons_zero, List.set_cons_succ]
        -- ready: []
        refine rt_done (by kernel_rfl)  ?_
        go_wp2_with (first | (with_reducible refine stop_append ?_) | (with_reducible refine stop_copy ?_) | (with_reducible refine stop_make ?_) | (with_reducible refine stop_lookup ?_) | (with_reducible refine stop_update ?_) | (with_reducible refine stop_slice ?_) | (with_reducible refine stop_range ?_) | (with_reducible refine stop_next ?_) | (with_reducible refine stop_convert ⟨_, rfl⟩ ?_) | (with_reducible refine stop_convertB ⟨_, _, _, rfl⟩ ?_) | (with_reducible refine stop_eqSlice ⟨_, _, rfl⟩ ?_))
        go_roundw
        case rel => exact ⟨k + 1, by omega, by go_num, hcw, hown5⟩
        case measure => simp [intOf]; omega
      · obtain rfl : k = xs.length := by omega
        rw [List.take_of_length_le (by have := Hzl.out; omega)] at hown
        obtain ⟨A6, c6, e6⟩ := hown.slice
        subst e6
        have Hown := Lib.hid hown
        clear hown
        go_wp2_with (first | (with_reducible refine stop_append ?_) | (with_reducible refine stop_copy ?_) | (with_reducible refine stop_make ?_) | (with_reducible refine stop_lookup ?_) | (with_reducible refine stop_update ?_) | (with_reducible refine stop_slice ?_) | (with_reducible refine stop_range ?_) | (with_reducible refine stop_next ?_) | (with_reducible refine stop_convert ⟨_, rfl⟩ ?_) | (with_reducible refine stop_convertB ⟨_, _, _, rfl⟩ ?_) | (with_reducible refine stop_eqSlice ⟨_, _, rfl⟩ ?_))
        go_ret2
        exact ⟨hc, .inl ⟨_, Hr.out, _, rfl, Hown.out.slFlat (G := Lt w.heap.size) (fun i hi f => by have := (Hown.out.lt i hi).1; simp only [Lt] at f; omega)⟩⟩
end Go.Proofs.Ytlpnbbjmcmjkpaa
