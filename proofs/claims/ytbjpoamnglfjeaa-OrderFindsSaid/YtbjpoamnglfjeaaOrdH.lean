/- The statement OrderKeeps, walked: row, SameRow. -/
import Derived.Test.YtbjpoamnglfjeaaOrdM
import Derived.Test.YtbjpoamnglfjeaaMor
set_option linter.unusedVariables false
set_option linter.unusedSimpArgs false
namespace Go.Proofs.Ytbjpoamnglfjeaa
open Go.RowKit Cb

theorem info_place : Info Try.prog 24 (.agg #[.int .i64 0, .int .i64 0]) 2 16 := by unfold Info; kernel_rfl
theorem at_row {sh : Nat} {st : OSt} (hI : Cb.Inv sh st) (k : Nat) (hk : k < (rowF st).length) : atF st k = some (rowF st)[k] := by
  have := hI.rowLen
  simp only [atF]
  rw [if_pos (by omega), Int.toNat_natCast, List.getElem?_eq_getElem hk]
set_option maxRecDepth 100000 in
set_option maxHeartbeats 2000000 in
theorem row_any {sh lo hi p : Nat} {st : OSt} {w : World} (h : Ord w lo hi p st) (hI : Cb.Inv sh st) :
    Calls Try.prog 22 #[.pointer (some ⟨p, 0, none⟩)] w fun e w' => ∃ v', e = .returned (.tuple #[v', .bool true]) ∧ Chg No w w' ∧ Sl (Lt w.heap.size) w' v' (rowF st) := by
  have H := Lib.hid (fun W (hW : Chg No w W) => h.keepNo hW)
  have HI := Lib.hid hI
  have hrl := hI.rowLen
  have htot := hI.tot
  rw [hI.olen] at hrl
  have Hat := Lib.hid (at_row hI)
  have Hlen := Lib.hid (olen_any h hI)
  rw [hI.olen, ← hrl] at Hlen
  clear h hI
  generalize rowF st = rs at *
  go_enter Try.func22, Try.ntmps22
  go_wp2_with (first | (with_reducible refine stop_append ?_) | (with_reducible refine stop_copy ?_) | (with_reducible refine stop_make ?_) | (with_reducible refine stop_lookup ?_) | (with_reducible refine stop_update ?_) | (with_reducible refine stop_slice ?_) | (with_reducible refine stop_range ?_) | (with_reducible refine stop_next ?_) | (with_reducible refine stop_convert ⟨_, rfl⟩ ?_) | (with_reducible refine stop_convertB ⟨_, _, _, rfl⟩ ?_) | (with_reducible refine stop_eqSlice ⟨_, _, rfl⟩ ?_))
  refine Hlen.out.mono ?_
  rintro e w1 ⟨rfl, hc1⟩
  go_wp2_with (first | (with_reducible refine stop_append ?_) | (with_reducible refine stop_copy ?_) | (with_reducible refine stop_make ?_) | (with_reducible refine stop_lookup ?_) | (with_reducible refine stop_update ?_) | (with_reducible refine stop_slice ?_) | (with_reducible refine stop_range ?_) | (with_reducible refine stop_next ?_) | (with_reducible refine stop_convert ⟨_, rfl⟩ ?_) | (with_reducible refine stop_convertB ⟨_, _, _, rfl⟩ ?_) | (with_reducible refine stop_eqSlice ⟨_, _, rfl⟩ ?_))
  go_loopw [4, 5, 6, 7, 10] (fun v4 _ _ _ v10 wr => ∃ k : Nat, k ≤ rs.length ∧ v10 = .int .i64 k ∧ Chg No w wr ∧ Cb.Own No wr w.heap.size 24 v4 (rs.take k)) (fun _ _ _ _ v10 _ => rs.length - (intOf v10).toNat)
  case atStart => exact ⟨0, by omega, rfl, hc1, Cb.Own.nil _ _ _ _⟩
  case round =>
    obtain ⟨k, hk, rfl, hcr, hown⟩ := hrel
    by_cases hlt : k < rs.length
    · have hat := Hat.out k hlt
      have hcall := at_any (H.out wr hcr) HI.out k
      rw [hat] at hcall
      have htk := List.take_succ_eq_append_getElem hlt
      clear hat
      generalize rs[k] = x at hcall htk
      obtain ⟨x, y⟩ := x
      have hlen : (rs.take k).length = k := by simp; omega
      generalize rs.take k = acc at hlen htk hown
      have Htk := Lib.hid htk
      have Hlen := Lib.hid hlen
      have Hcall := Lib.hid hcall
      have Hown := Lib.hid hown
      obtain ⟨A4, c4, rfl⟩ := hown.slice
      clear hown htk hlen hcall
      go_wp2_with (first | (with_reducible refine stop_append ?_) | (with_reducible refine stop_copy ?_) | (with_reducible refine stop_make ?_) | (with_reducible refine stop_lookup ?_) | (with_reducible refine stop_update ?_) | (with_reducible refine stop_slice ?_) | (with_reducible refine stop_range ?_) | (with_reducible refine stop_next ?_) | (with_reducible refine stop_convert ⟨_, rfl⟩ ?_) | (with_reducible refine stop_convertB ⟨_, _, _, rfl⟩ ?_) | (with_reducible refine stop_eqSlice ⟨_, _, rfl⟩ ?_))
      refine Hcall.out.mono ?_
      rintro e w3 ⟨hc3, ⟨z, hz, rfl⟩ | ⟨hz, _⟩⟩
      rotate_left
      · cases hz
      cases hz
      simp only
      have hca := hc3.alloc (.cells #[.int .i64 x, .int .i64 y] 36)
      have o5 := alloc_obj w3 (.cells #[.int .i64 x, .int .i64 y] 36)
      have e5 : (w3.alloc (.cells #[.int .i64 x, .int .i64 y] 36)).heap.size = w3.heap.size + 1 := by simp
      go_wp2_with (first | (with_reducible refine stop_append ?_) | (with_reducible refine stop_copy ?_) | (with_reducible refine stop_make ?_) | (with_reducible refine stop_lookup ?_) | (with_reducible refine stop_update ?_) | (with_reducible refine stop_slice ?_) | (with_reducible refine stop_range ?_) | (with_reducible refine stop_next ?_) | (with_reducible refine stop_convert ⟨_, rfl⟩ ?_) | (with_reducible refine stop_convertB ⟨_, _, _, rfl⟩ ?_) | (with_reducible refine stop_eqSlice ⟨_, _, rfl⟩ ?_))
      generalize w3.alloc (.cells #[.int .i64 x, .int .i64 y] 36) = w5 at *
      rw [← e5]
      have hown5 := (Hown.out.keepFlat hca (fun _ _ f => f)).alloc (.cells #[.int .i64 x, .int .i64 y] 24)
      refine step_append_flat (α := Int × Int) (ys := [(x, y)]) Try.underlying42 info_place rfl hown5 rfl rfl (Sl.lit1 (F := No) (y := (x, y)) rfl ⟨[_], [_], rfl, rfl, rfl⟩ (not_no _)) (by have := Hlen.out; simp; omega) (by have := Hlen.out; simp; omega) (by have := hcr.size; have := hca.size; simp; omega) ?_
      intro v7 w7 hown7 hg7
      have hc7 : Chg No w w7 := ((hcr.trans hca).alloc (.cells #[.int .i64 x, .int .i64 y] 24)).grew hg7 (fun i hi => .inr (Hown.out.lt i hi).1)
      rw [← Htk.out] at hown7
      have Hown7 := Lib.hid hown7
      clear hown7 hown5 hg7 o5 e5
      go_wp2_with (first | (with_reducible refine stop_append ?_) | (with_reducible refine stop_copy ?_) | (with_reducible refine stop_make ?_) | (with_reducible refine stop_lookup ?_) | (with_reducible refine stop_update ?_) | (with_reducible refine stop_slice ?_) | (with_reducible refine stop_range ?_) | (with_reducible refine stop_next ?_) | (with_reducible refine stop_convert ⟨_, rfl⟩ ?_) | (with_reducible refine stop_convertB ⟨_, _, _, rfl⟩ ?_) | (with_reducible refine stop_eqSlice ⟨_, _, rfl⟩ ?_))
      go_roundw
      case rel => exact ⟨k + 1, by omega, by go_num, hc7, Hown7.out⟩
      case measure => simp [intOf]; omega
    · obtain rfl : k = rs.length := by omega
      rw [List.take_length] at hown
      have Hown := Lib.hid hown
      obtain ⟨A4, c4, rfl⟩ := hown.slice
      clear hown
      go_wp2_with (first | (with_reducible refine stop_append ?_) | (with_reducible refine stop_copy ?_) | (with_reducible refine stop_make ?_) | (with_reducible refine stop_lookup ?_) | (with_reducible refine stop_update ?_) | (with_reducible refine stop_slice ?_) | (with_reducible refine stop_range ?_) | (with_reducible refine stop_next ?_) | (with_reducible refine stop_convert ⟨_, rfl⟩ ?_) | (with_reducible refine stop_convertB ⟨_, _, _, rfl⟩ ?_) | (with_reducible refine stop_eqSlice ⟨_, _, rfl⟩ ?_))
      go_ret2
      exact ⟨_, rfl, hcr, Hown.out.slFlat (fun i hi f => by have := (Hown.out.lt i hi).1; simp only [Lt] at f; omega)⟩
set_option maxRecDepth 100000 in
set_option maxHeartbeats 2000000 in
theorem samerow_any (F G : Nat → Prop) (v u : Value) (xs ys : List (Int × Int)) (w : World) (h : Sl F w v xs) (h' : Sl G w u ys) (hl : xs.length ≤ 1000000) (hl' : ys.length ≤ 1000000) :
    Calls Try.prog 23 #[v, u] w fun e w' => e = .returned (.bool (decide (xs = ys))) ∧ Chg No w w' := by
  obtain ⟨A, c, rfl⟩ := h.slice
  obtain ⟨B, d, rfl⟩ := h'.slice
  have H := Lib.hid h; have H' := Lib.hid h'
  clear h h'
  by_cases hlen : xs.length = ys.length
  · go_enter Try.func23, Try.ntmps23
    have Hlen := Lib.hid hlen
    rw [← hlen] at H' hl' ⊢
    clear hlen
    go_wp2_with (first | (with_reducible refine stop_append ?_) | (with_reducible refine stop_copy ?_) | (with_reducible refine stop_make ?_) | (with_reducible refine stop_lookup ?_) | (with_reducible refine stop_update ?_) | (with_reducible refine stop_slice ?_) | (with_reducible refine stop_range ?_) | (with_reducible refine stop_next ?_) | (with_reducible refine stop_convert ⟨_, rfl⟩ ?_) | (with_reducible refine stop_convertB ⟨_, _, _, rfl⟩ ?_) | (with_reducible refine stop_eqSlice ⟨_, _, rfl⟩ ?_))
    go_loopw [5] (fun v5 wr => ∃ k : Nat, k ≤ xs.length ∧ v5 = .int .i64 k ∧ Chg No w wr ∧ xs.take k = ys.take k) (fun v5 _ => xs.length - (intOf v5).toNat)
    case atStart => exact ⟨0, by omega, rfl, Chg.refl _ _, rfl⟩
    case round =>
      obtain ⟨k, hk, rfl, hc, he⟩ := hrel
      have He := Lib.hid he; clear he
      by_cases hlt : k < xs.length
      · have hlt' : k < ys.length := by have := Hlen.out; omega
        obtain ⟨b, o, dd, rfl, _, hbl, ⟨_, _, rfl, rfl, rfl⟩, ha⟩ := (H.out.keepNo hc).get k hlt
        have ha0 := ha 0 _ rfl
        have ha1 := ha 1 _ rfl
        have hgy : Sl G w (.slice B xs.length d) ys := H'.out
        obtain ⟨b', o', dd', rfl, _, hbl', ⟨_, _, rfl, rfl, rfl⟩, hb⟩ := (hgy.keepNo hc).get k hlt'
        have hb0 := hb 0 _ rfl
        have hb1 := hb 1 _ rfl
        simp only [show Rep.n (Int × Int) = 2 from rfl, Nat.add_zero] at ha0 hb0 ha1 hb1
        have hsx : xs.take (k + 1) = xs.take k ++ [xs[k]] := List.take_succ_eq_append_getElem hlt
        have hsy : ys.take (k + 1) = ys.take k ++ [ys[k]] := List.take_succ_eq_append_getElem hlt'
        have hxy : xs[k] ≠ ys[k] → xs ≠ ys := fun h e => h (by subst e; rfl)
        clear ha hb hgy
        generalize xs[k] = x at ha0 ha1 hsx hxy
        generalize ys[k] = y at hb0 hb1 hsy hxy
        obtain ⟨x1, x2⟩ := x
        obtain ⟨y1, y2⟩ := y
        have Hsx := Lib.hid hsx; have Hsy := Lib.hid hsy; have Hxy := Lib.hid hxy
        clear hsx hsy hxy
        simp only at ha0 ha1 hb0 hb1
        have hcase : (x1 = y1 ∧ x2 = y2) ∨ ((x1 == y1) = false ∧ (x1 != y1) = true ∧ (x1, x2) ≠ (y1, y2)) ∨ (x1 = y1 ∧ (x2 == y2) = false ∧ (x2 != y2) = true ∧ (x1, x2) ≠ (y1, y2)) := by
          by_cases e1 : x1 = y1
          · by_cases e2 : x2 = y2
            · exact .inl ⟨e1, e2⟩
            · exact .inr (.inr ⟨e1, by simpa using e2, by simpa using e2, by simp [e2]⟩)
          · exact .inr (.inl ⟨by simpa using e1, by simpa using e1, by simp [e1]⟩)
        rcases hcase with ⟨rfl, rfl⟩ | ⟨hq1, hq2, hq3⟩ | ⟨rfl, hq1, hq2, hq3⟩
        · go_wp2_with (first | (with_reducible refine stop_append ?_) | (with_reducible refine stop_copy ?_) | (with_reducible refine stop_make ?_) | (with_reducible refine stop_lookup ?_) | (with_reducible refine stop_update ?_) | (with_reducible refine stop_slice ?_) | (with_reducible refine stop_range ?_) | (with_reducible refine stop_next ?_) | (with_reducible refine stop_convert ⟨_, rfl⟩ ?_) | (with_reducible refine stop_convertB ⟨_, _, _, rfl⟩ ?_) | (with_reducible refine stop_eqSlice ⟨_, _, rfl⟩ ?_))
          refine reg_start (fun W => W.cell? ⟨b, o + k * 2, none⟩ = some (.int .i64 x1) ∧ W.cell? ⟨b, o + k * 2 + 1, none⟩ = some (.int .i64 x2) ∧ W.cell? ⟨b', o' + k * 2, none⟩ = some (.int .i64 x1) ∧ W.cell? ⟨b', o' + k * 2 + 1, none⟩ = some (.int .i64 x2)) (by kernel_rfl) ?_
          ((refine reg_yes (i := 0) (oi := { dst := some 17, op := Go.Op.move (Go.Operand.tmp 0), type := 42, pos := "ref.go:73", after := #[], guard := none }) (v := ?_) rfl (by kernel_rfl) (by kernel_rfl) (by kernel_rfl) (fun _ _ _ h => h) rfl ?_ ?_); rotate_left; focus (intro W hW; (try dsimp only at hW); go_split_ands; go_simp; (try (simp (disch := omega) only [IntWalk.i64_in]; (try go_simp))); (try (split; (next => omega); (try go_simp))); try rfl; done))
          try simp only [Act.put, List.setIfInBounds_toArray, List.set_cons_zero, List.set_cons_succ]
          ((refine reg_yes (i := 1) (oi := { dst := some 18, op := Go.Op.move (Go.Operand.tmp 5), type := 3, pos := "ref.go:73", after := #[], guard := none }) (v := ?_) rfl (by kernel_rfl) (by kernel_rfl) (by kernel_rfl) (fun _ _ _ h => h) rfl ?_ ?_); rotate_left; focus (intro W hW; (try dsimp only at hW); go_split_ands; go_simp; (try (simp (disch := omega) only [IntWalk.i64_in]; (try go_simp))); (try (split; (next => omega); (try go_simp))); try rfl; done))
          try simp only [Act.put, List.setIfInBounds_toArray, List.set_cons_zero, List.set_cons_succ]
          ((refine reg_yes (i := 2) (oi := { dst := some 19, op := Go.Op.indexAddr 42 (Go.Operand.tmp 17) (Go.Operand.tmp 18), type := 0, pos := "ref.go:73", after := #[{ on := 0, ground := Go.Ground.data }, { on := 1, ground := Go.Ground.data }], guard := none }) (v := ?_) rfl (by kernel_rfl) (by kernel_rfl) (by kernel_rfl) (fun _ _ _ h => h) rfl ?_ ?_); rotate_left; focus (intro W hW; (try dsimp only at hW); go_split_ands; go_simp; (try (simp (disch := omega) only [IntWalk.i64_in]; (try go_simp))); (try (split; (next => omega); (try go_simp))); try rfl; done))
          try simp only [Act.put, List.setIfInBounds_toArray, List.set_cons_zero, List.set_cons_succ]
          ((refine reg_yes (i := 3) (oi := { dst := some 20, op := Go.Op.load 24 (Go.Operand.tmp 19), type := 24, pos := "ref.go:73", after := #[{ on := 2, ground := Go.Ground.data }], guard := none }) (v := ?_) rfl (by kernel_rfl) (by kernel_rfl) (by kernel_rfl) (fun _ _ _ h => h) rfl ?_ ?_); rotate_left; focus (intro W hW; (try dsimp only at hW); go_split_ands; go_simp; (try (simp (disch := omega) only [IntWalk.i64_in]; (try go_simp))); (try (split; (next => omega); (try go_simp))); try rfl; done))
          try simp only [Act.put, List.setIfInBounds_toArray, List.set_cons_zero, List.set_cons_succ]
          ((refine reg_yes (i := 4) (oi := { dst := some 21, op := Go.Op.move (Go.Operand.tmp 1), type := 42, pos := "ref.go:73", after := #[], guard := none }) (v := ?_) rfl (by kernel_rfl) (by kernel_rfl) (by kernel_rfl) (fun _ _ _ h => h) rfl ?_ ?_); rotate_left; focus (intro W hW; (try dsimp only at hW); go_split_ands; go_simp; (try (simp (disch := omega) only [IntWalk.i64_in]; (try go_simp))); (try (split; (next => omega); (try go_simp))); try rfl; done))
          try simp only [Act.put, List.setIfInBounds_toArray, List.set_cons_zero, List.set_cons_succ]
          ((refine reg_yes (i := 5) (oi := { dst := some 22, op := Go.Op.move (Go.Operand.tmp 5), type := 3, pos := "ref.go:73", after := #[], guard := none }) (v := ?_) rfl (by kernel_rfl) (by kernel_rfl) (by kernel_rfl) (fun _ _ _ h => h) rfl ?_ ?_); rotate_left; focus (intro W hW; (try dsimp only at hW); go_split_ands; go_simp; (try (simp (disch := omega) only [IntWalk.i64_in]; (try go_simp))); (try (split; (next => omega); (try go_simp))); try rfl; done))
          try simp only [Act.put, List.setIfInBounds_toArray, List.set_cons_zero, List.set_cons_succ]
          ((refine reg_yes (i := 6) (oi := { dst := some 23, op := Go.Op.indexAddr 42 (Go.Operand.tmp 21) (Go.Operand.tmp 22), type := 0, pos := "ref.go:73", after := #[{ on := 4, ground := Go.Ground.data }, { on := 5, ground := Go.Ground.data }], guard := none }) (v := ?_) rfl (by kernel_rfl) (by kernel_rfl) (by kernel_rfl) (fun _ _ _ h => h) rfl ?_ ?_); rotate_left; focus (intro W hW; (try dsimp only at hW); go_split_ands; go_simp; (try (simp (disch := omega) only [IntWalk.i64_in]; (try go_simp))); (try (split; (next => omega); (try go_simp))); try rfl; done))
          try simp only [Act.put, List.setIfInBounds_toArray, List.set_cons_zero, List.set_cons_succ]
          ((refine reg_yes (i := 7) (oi := { dst := some 24, op := Go.Op.load 24 (Go.Operand.tmp 23), type := 24, pos := "ref.go:73", after := #[{ on := 6, ground := Go.Ground.data }], guard := none }) (v := ?_) rfl (by kernel_rfl) (by kernel_rfl) (by kernel_rfl) (fun _ _ _ h => h) rfl ?_ ?_); rotate_left; focus (intro W hW; (try dsimp only at hW); go_split_ands; go_simp; (try (simp (disch := omega) only [IntWalk.i64_in]; (try go_simp))); (try (split; (next => omega); (try go_simp))); try rfl; done))
          try simp only [Act.put, List.setIfInBounds_toArray, List.set_cons_zero, List.set_cons_succ]
          ((refine reg_yes (i := 8) (oi := { dst := some 25, op := Go.Op.binOp Go.BinOp.neq 24 (Go.Operand.tmp 20) (Go.Operand.tmp 24) 24, type := 4, pos := "ref.go:73", after := #[{ on := 3, ground := Go.Ground.data }, { on := 7, ground := Go.Ground.data }], guard := none }) (v := ?_) rfl (by kernel_rfl) (by kernel_rfl) (by kernel_rfl) (fun _ _ _ h => h) rfl ?_ ?_); rotate_left; focus (intro W hW; (try dsimp only at hW); go_split_ands; go_simp; (try (simp (disch := omega) only [IntWalk.i64_in]; (try go_simp))); (try (split; (next => omega); (try go_simp))); try rfl; done))
          try simp only [Act.put, List.setIfInBounds_toArray, List.set_cons_zero, List.set_cons_succ]
          -- ready: []
          refine reg_done (by kernel_rfl) (show (fun W => W.cell? ⟨b, o + k * 2, none⟩ = some (.int .i64 x1) ∧ W.cell? ⟨b, o + k * 2 + 1, none⟩ = some (.int .i64 x2) ∧ W.cell? ⟨b', o' + k * 2, none⟩ = some (.int .i64 x1) ∧ W.cell? ⟨b', o' + k * 2 + 1, none⟩ = some (.int .i64 x2)) wr.drew from ⟨ha0, ha1, hb0, hb1⟩) ?_
          have hcd := hc.drew
          go_wp2_with (first | (with_reducible refine stop_append ?_) | (with_reducible refine stop_copy ?_) | (with_reducible refine stop_make ?_) | (with_reducible refine stop_lookup ?_) | (with_reducible refine stop_update ?_) | (with_reducible refine stop_slice ?_) | (with_reducible refine stop_range ?_) | (with_reducible refine stop_next ?_) | (with_reducible refine stop_convert ⟨_, rfl⟩ ?_) | (with_reducible refine stop_convertB ⟨_, _, _, rfl⟩ ?_) | (with_reducible refine stop_eqSlice ⟨_, _, rfl⟩ ?_))
          go_roundw
          case rel => exact ⟨k + 1, by omega, by go_num, hcd, by rw [Hsx.out, Hsy.out, He.out]⟩
          case measure => simp [intOf]; omega
        · have Hr := Lib.hid (Hxy.out hq3)
          clear hq3
          go_wp2_with (first | (with_reducible refine stop_append ?_) | (with_reducible refine stop_copy ?_) | (with_reducible refine stop_make ?_) | (with_reducible refine stop_lookup ?_) | (with_reducible refine stop_update ?_) | (with_reducible refine stop_slice ?_) | (with_reducible refine stop_range ?_) | (with_reducible refine stop_next ?_) | (with_reducible refine stop_convert ⟨_, rfl⟩ ?_) | (with_reducible refine stop_convertB ⟨_, _, _, rfl⟩ ?_) | (with_reducible refine stop_eqSlice ⟨_, _, rfl⟩ ?_))
          refine reg_start (fun W => W.cell? ⟨b, o + k * 2, none⟩ = some (.int .i64 x1) ∧ W.cell? ⟨b, o + k * 2 + 1, none⟩ = some (.int .i64 x2) ∧ W.cell? ⟨b', o' + k * 2, none⟩ = some (.int .i64 y1) ∧ W.cell? ⟨b', o' + k * 2 + 1, none⟩ = some (.int .i64 y2)) (by kernel_rfl) ?_
          ((refine reg_yes (i := 0) (oi := { dst := some 17, op := Go.Op.move (Go.Operand.tmp 0), type := 42, pos := "ref.go:73", after := #[], guard := none }) (v := ?_) rfl (by kernel_rfl) (by kernel_rfl) (by kernel_rfl) (fun _ _ _ h => h) rfl ?_ ?_); rotate_left; focus (intro W hW; (try dsimp only at hW); go_split_ands; go_simp; (try (simp (disch := omega) only [IntWalk.i64_in]; (try go_simp))); (try (split; (next => omega); (try go_simp))); try rfl; done))
          try simp only [Act.put, List.setIfInBounds_toArray, List.set_cons_zero, List.set_cons_succ]
          ((refine reg_yes (i := 1) (oi := { dst := some 18, op := Go.Op.move (Go.Operand.tmp 5), type := 3, pos := "ref.go:73", after := #[], guard := none }) (v := ?_) rfl (by kernel_rfl) (by kernel_rfl) (by kernel_rfl) (fun _ _ _ h => h) rfl ?_ ?_); rotate_left; focus (intro W hW; (try dsimp only at hW); go_split_ands; go_simp; (try (simp (disch := omega) only [IntWalk.i64_in]; (try go_simp))); (try (split; (next => omega); (try go_simp))); try rfl; done))
          try simp only [Act.put, List.setIfInBounds_toArray, List.set_cons_zero, List.set_cons_succ]
          ((refine reg_yes (i := 2) (oi := { dst := some 19, op := Go.Op.indexAddr 42 (Go.Operand.tmp 17) (Go.Operand.tmp 18), type := 0, pos := "ref.go:73", after := #[{ on := 0, ground := Go.Ground.data }, { on := 1, ground := Go.Ground.data }], guard := none }) (v := ?_) rfl (by kernel_rfl) (by kernel_rfl) (by kernel_rfl) (fun _ _ _ h => h) rfl ?_ ?_); rotate_left; focus (intro W hW; (try dsimp only at hW); go_split_ands; go_simp; (try (simp (disch := omega) only [IntWalk.i64_in]; (try go_simp))); (try (split; (next => omega); (try go_simp))); try rfl; done))
          try simp only [Act.put, List.setIfInBounds_toArray, List.set_cons_zero, List.set_cons_succ]
          ((refine reg_yes (i := 3) (oi := { dst := some 20, op := Go.Op.load 24 (Go.Operand.tmp 19), type := 24, pos := "ref.go:73", after := #[{ on := 2, ground := Go.Ground.data }], guard := none }) (v := ?_) rfl (by kernel_rfl) (by kernel_rfl) (by kernel_rfl) (fun _ _ _ h => h) rfl ?_ ?_); rotate_left; focus (intro W hW; (try dsimp only at hW); go_split_ands; go_simp; (try (simp (disch := omega) only [IntWalk.i64_in]; (try go_simp))); (try (split; (next => omega); (try go_simp))); try rfl; done))
          try simp only [Act.put, List.setIfInBounds_toArray, List.set_cons_zero, List.set_cons_succ]
          ((refine reg_yes (i := 4) (oi := { dst := some 21, op := Go.Op.move (Go.Operand.tmp 1), type := 42, pos := "ref.go:73", after := #[], guard := none }) (v := ?_) rfl (by kernel_rfl) (by kernel_rfl) (by kernel_rfl) (fun _ _ _ h => h) rfl ?_ ?_); rotate_left; focus (intro W hW; (try dsimp only at hW); go_split_ands; go_simp; (try (simp (disch := omega) only [IntWalk.i64_in]; (try go_simp))); (try (split; (next => omega); (try go_simp))); try rfl; done))
          try simp only [Act.put, List.setIfInBounds_toArray, List.set_cons_zero, List.set_cons_succ]
          ((refine reg_yes (i := 5) (oi := { dst := some 22, op := Go.Op.move (Go.Operand.tmp 5), type := 3, pos := "ref.go:73", after := #[], guard := none }) (v := ?_) rfl (by kernel_rfl) (by kernel_rfl) (by kernel_rfl) (fun _ _ _ h => h) rfl ?_ ?_); rotate_left; focus (intro W hW; (try dsimp only at hW); go_split_ands; go_simp; (try (simp (disch := omega) only [IntWalk.i64_in]; (try go_simp))); (try (split; (next => omega); (try go_simp))); try rfl; done))
          try simp only [Act.put, List.setIfInBounds_toArray, List.set_cons_zero, List.set_cons_succ]
          ((refine reg_yes (i := 6) (oi := { dst := some 23, op := Go.Op.indexAddr 42 (Go.Operand.tmp 21) (Go.Operand.tmp 22), type := 0, pos := "ref.go:73", after := #[{ on := 4, ground := Go.Ground.data }, { on := 5, ground := Go.Ground.data }], guard := none }) (v := ?_) rfl (by kernel_rfl) (by kernel_rfl) (by kernel_rfl) (fun _ _ _ h => h) rfl ?_ ?_); rotate_left; focus (intro W hW; (try dsimp only at hW); go_split_ands; go_simp; (try (simp (disch := omega) only [IntWalk.i64_in]; (try go_simp))); (try (split; (next => omega); (try go_simp))); try rfl; done))
          try simp only [Act.put, List.setIfInBounds_toArray, List.set_cons_zero, List.set_cons_succ]
          ((refine reg_yes (i := 7) (oi := { dst := some 24, op := Go.Op.load 24 (Go.Operand.tmp 23), type := 24, pos := "ref.go:73", after := #[{ on := 6, ground := Go.Ground.data }], guard := none }) (v := ?_) rfl (by kernel_rfl) (by kernel_rfl) (by kernel_rfl) (fun _ _ _ h => h) rfl ?_ ?_); rotate_left; focus (intro W hW; (try dsimp only at hW); go_split_ands; go_simp; (try (simp (disch := omega) only [IntWalk.i64_in]; (try go_simp))); (try (split; (next => omega); (try go_simp))); try rfl; done))
          try simp only [Act.put, List.setIfInBounds_toArray, List.set_cons_zero, List.set_cons_succ]
          ((refine reg_yes (i := 8) (oi := { dst := some 25, op := Go.Op.binOp Go.BinOp.neq 24 (Go.Operand.tmp 20) (Go.Operand.tmp 24) 24, type := 4, pos := "ref.go:73", after := #[{ on := 3, ground := Go.Ground.data }, { on := 7, ground := Go.Ground.data }], guard := none }) (v := ?_) rfl (by kernel_rfl) (by kernel_rfl) (by kernel_rfl) (fun _ _ _ h => h) rfl ?_ ?_); rotate_left; focus (intro W hW; (try dsimp only at hW); go_split_ands; go_simp; (try (simp (disch := omega) only [IntWalk.i64_in]; (try go_simp))); (try (split; (next => omega); (try go_simp))); try rfl; done))
          try simp only [Act.put, List.setIfInBounds_toArray, List.set_cons_zero, List.set_cons_succ]
          -- ready: []
          refine reg_done (by kernel_rfl) (show (fun W => W.cell? ⟨b, o + k * 2, none⟩ = some (.int .i64 x1) ∧ W.cell? ⟨b, o + k * 2 + 1, none⟩ = some (.int .i64 x2) ∧ W.cell? ⟨b', o' + k * 2, none⟩ = some (.int .i64 y1) ∧ W.cell? ⟨b', o' + k * 2 + 1, none⟩ = some (.int .i64 y2)) wr.drew from ⟨ha0, ha1, hb0, hb1⟩) ?_
          have hcd := hc.drew
          go_wp2_with (first | (with_reducible refine stop_append ?_) | (with_reducible refine stop_copy ?_) | (with_reducible refine stop_make ?_) | (with_reducible refine stop_lookup ?_) | (with_reducible refine stop_update ?_) | (with_reducible refine stop_slice ?_) | (with_reducible refine stop_range ?_) | (with_reducible refine stop_next ?_) | (with_reducible refine stop_convert ⟨_, rfl⟩ ?_) | (with_reducible refine stop_convertB ⟨_, _, _, rfl⟩ ?_) | (with_reducible refine stop_eqSlice ⟨_, _, rfl⟩ ?_))
          go_ret
          exact ⟨by simp [Hr.out], hcd⟩
        · have Hr := Lib.hid (Hxy.out hq3)
          clear hq3
          go_wp2_with (first | (with_reducible refine stop_append ?_) | (with_reducible refine stop_copy ?_) | (with_reducible refine stop_make ?_) | (with_reducible refine stop_lookup ?_) | (with_reducible refine stop_update ?_) | (with_reducible refine stop_slice ?_) | (with_reducible refine stop_range ?_) | (with_reducible refine stop_next ?_) | (with_reducible refine stop_convert ⟨_, rfl⟩ ?_) | (with_reducible refine stop_convertB ⟨_, _, _, rfl⟩ ?_) | (with_reducible refine stop_eqSlice ⟨_, _, rfl⟩ ?_))
          refine reg_start (fun W => W.cell? ⟨b, o + k * 2, none⟩ = some (.int .i64 x1) ∧ W.cell? ⟨b, o + k * 2 + 1, none⟩ = some (.int .i64 x2) ∧ W.cell? ⟨b', o' + k * 2, none⟩ = some (.int .i64 x1) ∧ W.cell? ⟨b', o' + k * 2 + 1, none⟩ = some (.int .i64 y2)) (by kernel_rfl) ?_
          ((refine reg_yes (i := 0) (oi := { dst := some 17, op := Go.Op.move (Go.Operand.tmp 0), type := 42, pos := "ref.go:73", after := #[], guard := none }) (v := ?_) rfl (by kernel_rfl) (by kernel_rfl) (by kernel_rfl) (fun _ _ _ h => h) rfl ?_ ?_); rotate_left; focus (intro W hW; (try dsimp only at hW); go_split_ands; go_simp; (try (simp (disch := omega) only [IntWalk.i64_in]; (try go_simp))); (try (split; (next => omega); (try go_simp))); try rfl; done))
          try simp only [Act.put, List.setIfInBounds_toArray, List.set_cons_zero, List.set_cons_succ]
          ((refine reg_yes (i := 1) (oi := { dst := some 18, op := Go.Op.move (Go.Operand.tmp 5), type := 3, pos := "ref.go:73", after := #[], guard := none }) (v := ?_) rfl (by kernel_rfl) (by kernel_rfl) (by kernel_rfl) (fun _ _ _ h => h) rfl ?_ ?_); rotate_left; focus (intro W hW; (try dsimp only at hW); go_split_ands; go_simp; (try (simp (disch := omega) only [IntWalk.i64_in]; (try go_simp))); (try (split; (next => omega); (try go_simp))); try rfl; done))
          try simp only [Act.put, List.setIfInBounds_toArray, List.set_cons_zero, List.set_cons_succ]
          ((refine reg_yes (i := 2) (oi := { dst := some 19, op := Go.Op.indexAddr 42 (Go.Operand.tmp 17) (Go.Operand.tmp 18), type := 0, pos := "ref.go:73", after := #[{ on := 0, ground := Go.Ground.data }, { on := 1, ground := Go.Ground.data }], guard := none }) (v := ?_) rfl (by kernel_rfl) (by kernel_rfl) (by kernel_rfl) (fun _ _ _ h => h) rfl ?_ ?_); rotate_left; focus (intro W hW; (try dsimp only at hW); go_split_ands; go_simp; (try (simp (disch := omega) only [IntWalk.i64_in]; (try go_simp))); (try (split; (next => omega); (try go_simp))); try rfl; done))
          try simp only [Act.put, List.setIfInBounds_toArray, List.set_cons_zero, List.set_cons_succ]
          ((refine reg_yes (i := 3) (oi := { dst := some 20, op := Go.Op.load 24 (Go.Operand.tmp 19), type := 24, pos := "ref.go:73", after := #[{ on := 2, ground := Go.Ground.data }], guard := none }) (v := ?_) rfl (by kernel_rfl) (by kernel_rfl) (by kernel_rfl) (fun _ _ _ h => h) rfl ?_ ?_); rotate_left; focus (intro W hW; (try dsimp only at hW); go_split_ands; go_simp; (try (simp (disch := omega) only [IntWalk.i64_in]; (try go_simp))); (try (split; (next => omega); (try go_simp))); try rfl; done))
          try simp only [Act.put, List.setIfInBounds_toArray, List.set_cons_zero, List.set_cons_succ]
          ((refine reg_yes (i := 4) (oi := { dst := some 21, op := Go.Op.move (Go.Operand.tmp 1), type := 42, pos := "ref.go:73", after := #[], guard := none }) (v := ?_) rfl (by kernel_rfl) (by kernel_rfl) (by kernel_rfl) (fun _ _ _ h => h) rfl ?_ ?_); rotate_left; focus (intro W hW; (try dsimp only at hW); go_split_ands; go_simp; (try (simp (disch := omega) only [IntWalk.i64_in]; (try go_simp))); (try (split; (next => omega); (try go_simp))); try rfl; done))
          try simp only [Act.put, List.setIfInBounds_toArray, List.set_cons_zero, List.set_cons_succ]
          ((refine reg_yes (i := 5) (oi := { dst := some 22, op := Go.Op.move (Go.Operand.tmp 5), type := 3, pos := "ref.go:73", after := #[], guard := none }) (v := ?_) rfl (by kernel_rfl) (by kernel_rfl) (by kernel_rfl) (fun _ _ _ h => h) rfl ?_ ?_); rotate_left; focus (intro W hW; (try dsimp only at hW); go_split_ands; go_simp; (try (simp (disch := omega) only [IntWalk.i64_in]; (try go_simp))); (try (split; (next => omega); (try go_simp))); try rfl; done))
          try simp only [Act.put, List.setIfInBounds_toArray, List.set_cons_zero, List.set_cons_succ]
          ((refine reg_yes (i := 6) (oi := { dst := some 23, op := Go.Op.indexAddr 42 (Go.Operand.tmp 21) (Go.Operand.tmp 22), type := 0, pos := "ref.go:73", after := #[{ on := 4, ground := Go.Ground.data }, { on := 5, ground := Go.Ground.data }], guard := none }) (v := ?_) rfl (by kernel_rfl) (by kernel_rfl) (by kernel_rfl) (fun _ _ _ h => h) rfl ?_ ?_); rotate_left; focus (intro W hW; (try dsimp only at hW); go_split_ands; go_simp; (try (simp (disch := omega) only [IntWalk.i64_in]; (try go_simp))); (try (split; (next => omega); (try go_simp))); try rfl; done))
          try simp only [Act.put, List.setIfInBounds_toArray, List.set_cons_zero, List.set_cons_succ]
          ((refine reg_yes (i := 7) (oi := { dst := some 24, op := Go.Op.load 24 (Go.Operand.tmp 23), type := 24, pos := "ref.go:73", after := #[{ on := 6, ground := Go.Ground.data }], guard := none }) (v := ?_) rfl (by kernel_rfl) (by kernel_rfl) (by kernel_rfl) (fun _ _ _ h => h) rfl ?_ ?_); rotate_left; focus (intro W hW; (try dsimp only at hW); go_split_ands; go_simp; (try (simp (disch := omega) only [IntWalk.i64_in]; (try go_simp))); (try (split; (next => omega); (try go_simp))); try rfl; done))
          try simp only [Act.put, List.setIfInBounds_toArray, List.set_cons_zero, List.set_cons_succ]
          ((refine reg_yes (i := 8) (oi := { dst := some 25, op := Go.Op.binOp Go.BinOp.neq 24 (Go.Operand.tmp 20) (Go.Operand.tmp 24) 24, type := 4, pos := "ref.go:73", after := #[{ on := 3, ground := Go.Ground.data }, { on := 7, ground := Go.Ground.data }], guard := none }) (v := ?_) rfl (by kernel_rfl) (by kernel_rfl) (by kernel_rfl) (fun _ _ _ h => h) rfl ?_ ?_); rotate_left; focus (intro W hW; (try dsimp only at hW); go_split_ands; go_simp; (try (simp (disch := omega) only [IntWalk.i64_in]; (try go_simp))); (try (split; (next => omega); (try go_simp))); try rfl; done))
          try simp only [Act.put, List.setIfInBounds_toArray, List.set_cons_zero, List.set_cons_succ]
          -- ready: []
          refine reg_done (by kernel_rfl) (show (fun W => W.cell? ⟨b, o + k * 2, none⟩ = some (.int .i64 x1) ∧ W.cell? ⟨b, o + k * 2 + 1, none⟩ = some (.int .i64 x2) ∧ W.cell? ⟨b', o' + k * 2, none⟩ = some (.int .i64 x1) ∧ W.cell? ⟨b', o' + k * 2 + 1, none⟩ = some (.int .i64 y2)) wr.drew from ⟨ha0, ha1, hb0, hb1⟩) ?_
          have hcd := hc.drew
          go_wp2_with (first | (with_reducible refine stop_append ?_) | (with_reducible refine stop_copy ?_) | (with_reducible refine stop_make ?_) | (with_reducible refine stop_lookup ?_) | (with_reducible refine stop_update ?_) | (with_reducible refine stop_slice ?_) | (with_reducible refine stop_range ?_) | (with_reducible refine stop_next ?_) | (with_reducible refine stop_convert ⟨_, rfl⟩ ?_) | (with_reducible refine stop_convertB ⟨_, _, _, rfl⟩ ?_) | (with_reducible refine stop_eqSlice ⟨_, _, rfl⟩ ?_))
          go_ret
          exact ⟨by simp [Hr.out], hcd⟩
      · obtain rfl : k = xs.length := by omega
        have he := He.out
        rw [List.take_length, Hlen.out, List.take_length] at he
        have Heq := Lib.hid he
        clear he He
        go_wp2_with (first | (with_reducible refine stop_append ?_) | (with_reducible refine stop_copy ?_) | (with_reducible refine stop_make ?_) | (with_reducible refine stop_lookup ?_) | (with_reducible refine stop_update ?_) | (with_reducible refine stop_slice ?_) | (with_reducible refine stop_range ?_) | (with_reducible refine stop_next ?_) | (with_reducible refine stop_convert ⟨_, rfl⟩ ?_) | (with_reducible refine stop_convertB ⟨_, _, _, rfl⟩ ?_) | (with_reducible refine stop_eqSlice ⟨_, _, rfl⟩ ?_))
        go_ret
        exact ⟨by simp [Heq.out], hc⟩
  · have hne : ((xs.length : Int) != ys.length) = true := by simp; omega
    have hne2 : ((xs.length : Int) == ys.length) = false := by simp; omega
    have Hn := Lib.hid (show xs ≠ ys from fun e => hlen (by rw [e]))
    clear hlen
    go_enter Try.func23, Try.ntmps23
    go_wp2_with (first | (with_reducible refine stop_append ?_) | (with_reducible refine stop_copy ?_) | (with_reducible refine stop_make ?_) | (with_reducible refine stop_lookup ?_) | (with_reducible refine stop_update ?_) | (with_reducible refine stop_slice ?_) | (with_reducible refine stop_range ?_) | (with_reducible refine stop_next ?_) | (with_reducible refine stop_convert ⟨_, rfl⟩ ?_) | (with_reducible refine stop_convertB ⟨_, _, _, rfl⟩ ?_) | (with_reducible refine stop_eqSlice ⟨_, _, rfl⟩ ?_))
    go_ret
    exact ⟨by simp [Hn.out], Chg.refl _ _⟩
end Go.Proofs.Ytbjpoamnglfjeaa
