/- Walks of the document's object: Same, of the same. -/
import Derived.Test.YtnioljagmimojaaLawO
set_option linter.unusedVariables false
set_option linter.unusedSimpArgs false
namespace Go.Proofs.Ytnioljagmimojaa
open Go.RowKit Cb

set_option maxRecDepth 100000 in
set_option maxHeartbeats 1000000 in
theorem same_yes (F G : Nat → Prop) (id : Int) (vr vw ur uw : Value) (rs : List (Int × Int)) (ws : List (Int × ByteArray)) (w : World) (hr : Sl F w vr rs) (hw : Sl F w vw ws) (kr : Sl G w ur rs) (kw : Sl G w uw ws) (hrl : rs.length ≤ 1000) (hwl : ws.length ≤ 1000) :
    Calls Try.prog 17 #[.agg #[.int .i64 id, vr, vw], .agg #[.int .i64 id, ur, uw]] w fun e w' => e = .returned (.bool true) ∧ Chg No w w' := by
  obtain ⟨AR, cR, rfl⟩ := hr.slice
  obtain ⟨AW, cW, rfl⟩ := hw.slice
  obtain ⟨BR, dR, rfl⟩ := kr.slice
  obtain ⟨BW, dW, rfl⟩ := kw.slice
  have hc0 := ((Chg.refl No w).alloc (.cells #[.int .i64 id, .slice AR rs.length cR, .slice AW ws.length cW] 25)).alloc (.cells #[.int .i64 id, .slice BR rs.length dR, .slice BW ws.length dW] 25)
  have o2 := ((Chg.refl No _).alloc (.cells #[.int .i64 id, .slice BR rs.length dR, .slice BW ws.length dW] 25)).obj (alloc_obj w (.cells #[.int .i64 id, .slice AR rs.length cR, .slice AW ws.length cW] 25)) (not_no _)
  have o3 := alloc_obj (w.alloc (.cells #[.int .i64 id, .slice AR rs.length cR, .slice AW ws.length cW] 25)) (.cells #[.int .i64 id, .slice BR rs.length dR, .slice BW ws.length dW] 25)
  have hq : (w.alloc (.cells #[.int .i64 id, .slice AR rs.length cR, .slice AW ws.length cW] 25)).heap.size = w.heap.size + 1 := by simp
  rw [hq] at o3
  have hr := hr.keepNo hc0
  have hw := hw.keepNo hc0
  have kr := kr.keepNo hc0
  have kw := kw.keepNo hc0
  go_enter Try.func17, Try.ntmps17
  go_wp2_with (first | (with_reducible refine stop_append ?_) | (with_reducible refine stop_copy ?_) | (with_reducible refine stop_make ?_) | (with_reducible refine stop_lookup ?_) | (with_reducible refine stop_update ?_) | (with_reducible refine stop_slice ?_) | (with_reducible refine stop_range ?_) | (with_reducible refine stop_next ?_) | (with_reducible refine stop_convert ⟨_, rfl⟩ ?_) | (with_reducible refine stop_convertB ⟨_, _, _, rfl⟩ ?_) | (with_reducible refine stop_eqSlice ⟨_, _, rfl⟩ ?_))
  generalize (w.alloc (.cells #[.int .i64 id, .slice AR rs.length cR, .slice AW ws.length cW] 25)).alloc (.cells #[.int .i64 id, .slice BR rs.length dR, .slice BW ws.length dW] 25) = w0 at *
  generalize w.heap.size + 1 = q3 at *
  generalize w.heap.size = q2 at *
  have Hr := Lib.hid hr; have Hw := Lib.hid hw; have Kr := Lib.hid kr; have Kw := Lib.hid kw
  have O2 := Lib.hid o2; have O3 := Lib.hid o3
  clear hr hw kr kw o2 o3
  go_loopw [5] (fun v5 wr => ∃ k : Nat, k ≤ rs.length ∧ v5 = .int .i64 k ∧ Chg No w0 wr) (fun v5 _ => rs.length - (intOf v5).toNat)
  case atStart => exact ⟨0, by omega, rfl, Chg.refl _ _⟩
  case round =>
    obtain ⟨k, hk, rfl, hc1⟩ := hrel
    have b1 := cell_obj (i := 1) (hc1.obj O2.out (not_no _)) rfl
    have d1 := cell_obj (i := 1) (hc1.obj O3.out (not_no _)) rfl
    by_cases hlt : k < rs.length
    · obtain ⟨b, o, d, rfl, _, hbl, ⟨_, _, rfl, rfl, rfl⟩, ha⟩ := (Hr.out.keepNo hc1).get k hlt
      have ha0 := ha 0 _ rfl
      have ha1 := ha 1 _ rfl
      obtain ⟨b', o', d', rfl, _, hbl', ⟨_, _, rfl, rfl, rfl⟩, ha'⟩ := (Kr.out.keepNo hc1).get k hlt
      have ka0 := ha' 0 _ rfl
      have ka1 := ha' 1 _ rfl
      simp only [show Rep.n (Int × Int) = 2 from rfl, Nat.add_zero] at ha0 ha1 ka0 ka1
      clear ha ha'
      generalize rs[k] = x at ha0 ha1 ka0 ka1
      obtain ⟨f, g⟩ := x
      simp only at ha0 ha1 ka0 ka1
      go_wp2_with (first | (with_reducible refine stop_append ?_) | (with_reducible refine stop_copy ?_) | (with_reducible refine stop_make ?_) | (with_reducible refine stop_lookup ?_) | (with_reducible refine stop_update ?_) | (with_reducible refine stop_slice ?_) | (with_reducible refine stop_range ?_) | (with_reducible refine stop_next ?_) | (with_reducible refine stop_convert ⟨_, rfl⟩ ?_) | (with_reducible refine stop_convertB ⟨_, _, _, rfl⟩ ?_) | (with_reducible refine stop_eqSlice ⟨_, _, rfl⟩ ?_))
      have hS : (fun W => W.cell? ⟨q2, 1, none⟩ = some (.slice (some ⟨b, o, none⟩) rs.length cR) ∧ W.cell? ⟨q3, 1, none⟩ = some (.slice (some ⟨b', o', none⟩) rs.length dR) ∧ W.cell? ⟨b, o + k * 2, none⟩ = some (.int .i64 f) ∧ W.cell? ⟨b, o + k * 2 + 1, none⟩ = some (.int .i64 g) ∧ W.cell? ⟨b', o' + k * 2, none⟩ = some (.int .i64 f) ∧ W.cell? ⟨b', o' + k * 2 + 1, none⟩ = some (.int .i64 g)) wr.drew := ⟨b1, d1, ha0, ha1, ka0, ka1⟩
      refine reg_start (fun W => W.cell? ⟨q2, 1, none⟩ = some (.slice (some ⟨b, o, none⟩) rs.length cR) ∧ W.cell? ⟨q3, 1, none⟩ = some (.slice (some ⟨b', o', none⟩) rs.length dR) ∧ W.cell? ⟨b, o + k * 2, none⟩ = some (.int .i64 f) ∧ W.cell? ⟨b, o + k * 2 + 1, none⟩ = some (.int .i64 g) ∧ W.cell? ⟨b', o' + k * 2, none⟩ = some (.int .i64 f) ∧ W.cell? ⟨b', o' + k * 2 + 1, none⟩ = some (.int .i64 g)) (by kernel_rfl) ?_
      ((refine reg_yes (i := 0) (oi := { dst := some 37, op := Go.Op.fieldAddr 25 (Go.Operand.tmp 2) 1, type := 0, pos := "ref.go:165", after := #[], guard := none }) (v := ?_) rfl (by kernel_rfl) (by kernel_rfl) (by kernel_rfl) (fun _ _ _ h => h) rfl ?_ ?_); rotate_left; focus (intro W hW; (try dsimp only at hW); go_split_ands; go_simp; (try (simp (disch := omega) only [IntWalk.i64_in]; (try go_simp))); (try (split; (next => omega); (try go_simp))); try rfl; done))
      try simp only [Act.put, List.setIfInBounds_toArray, List.set_cons_zero, List.set_cons_succ]
      ((refine reg_yes (i := 1) (oi := { dst := some 38, op := Go.Op.load 22 (Go.Operand.tmp 37), type := 22, pos := "ref.go:165", after := #[{ on := 0, ground := Go.Ground.data }], guard := none }) (v := ?_) rfl (by kernel_rfl) (by kernel_rfl) (by kernel_rfl) (fun _ _ _ h => h) rfl ?_ ?_); rotate_left; focus (intro W hW; (try dsimp only at hW); go_split_ands; go_simp; (try (simp (disch := omega) only [IntWalk.i64_in]; (try go_simp))); (try (split; (next => omega); (try go_simp))); try rfl; done))
      try simp only [Act.put, List.setIfInBounds_toArray, List.set_cons_zero, List.set_cons_succ]
      ((refine reg_yes (i := 2) (oi := { dst := some 39, op := Go.Op.move (Go.Operand.tmp 5), type := 3, pos := "ref.go:165", after := #[], guard := none }) (v := ?_) rfl (by kernel_rfl) (by kernel_rfl) (by kernel_rfl) (fun _ _ _ h => h) rfl ?_ ?_); rotate_left; focus (intro W hW; (try dsimp only at hW); go_split_ands; go_simp; (try (simp (disch := omega) only [IntWalk.i64_in]; (try go_simp))); (try (split; (next => omega); (try go_simp))); try rfl; done))
      try simp only [Act.put, List.setIfInBounds_toArray, List.set_cons_zero, List.set_cons_succ]
      ((refine reg_yes (i := 3) (oi := { dst := some 40, op := Go.Op.indexAddr 22 (Go.Operand.tmp 38) (Go.Operand.tmp 39), type := 0, pos := "ref.go:165", after := #[{ on := 1, ground := Go.Ground.data }, { on := 2, ground := Go.Ground.data }], guard := none }) (v := ?_) rfl (by kernel_rfl) (by kernel_rfl) (by kernel_rfl) (fun _ _ _ h => h) rfl ?_ ?_); rotate_left; focus (intro W hW; (try dsimp only at hW); go_split_ands; go_simp; (try (simp (disch := omega) only [IntWalk.i64_in]; (try go_simp))); (try (split; (next => omega); (try go_simp))); try rfl; done))
      try simp only [Act.put, List.setIfInBounds_toArray, List.set_cons_zero, List.set_cons_succ]
      ((refine reg_yes (i := 4) (oi := { dst := some 41, op := Go.Op.load 52 (Go.Operand.tmp 40), type := 52, pos := "ref.go:165", after := #[{ on := 3, ground := Go.Ground.data }], guard := none }) (v := ?_) rfl (by kernel_rfl) (by kernel_rfl) (by kernel_rfl) (fun _ _ _ h => h) rfl ?_ ?_); rotate_left; focus (intro W hW; (try dsimp only at hW); go_split_ands; go_simp; (try (simp (disch := omega) only [IntWalk.i64_in]; (try go_simp))); (try (split; (next => omega); (try go_simp))); try rfl; done))
      try simp only [Act.put, List.setIfInBounds_toArray, List.set_cons_zero, List.set_cons_succ]
      ((refine reg_yes (i := 5) (oi := { dst := some 42, op := Go.Op.fieldAddr 25 (Go.Operand.tmp 3) 1, type := 0, pos := "ref.go:165", after := #[], guard := none }) (v := ?_) rfl (by kernel_rfl) (by kernel_rfl) (by kernel_rfl) (fun _ _ _ h => h) rfl ?_ ?_); rotate_left; focus (intro W hW; (try dsimp only at hW); go_split_ands; go_simp; (try (simp (disch := omega) only [IntWalk.i64_in]; (try go_simp))); (try (split; (next => omega); (try go_simp))); try rfl; done))
      try simp only [Act.put, List.setIfInBounds_toArray, List.set_cons_zero, List.set_cons_succ]
      ((refine reg_yes (i := 6) (oi := { dst := some 43, op := Go.Op.load 22 (Go.Operand.tmp 42), type := 22, pos := "ref.go:165", after := #[{ on := 5, ground := Go.Ground.data }], guard := none }) (v := ?_) rfl (by kernel_rfl) (by kernel_rfl) (by kernel_rfl) (fun _ _ _ h => h) rfl ?_ ?_); rotate_left; focus (intro W hW; (try dsimp only at hW); go_split_ands; go_simp; (try (simp (disch := omega) only [IntWalk.i64_in]; (try go_simp))); (try (split; (next => omega); (try go_simp))); try rfl; done))
      try simp only [Act.put, List.setIfInBounds_toArray, List.set_cons_zero, List.set_cons_succ]
      ((refine reg_yes (i := 7) (oi := { dst := some 44, op := Go.Op.move (Go.Operand.tmp 5), type := 3, pos := "ref.go:165", after := #[], guard := none }) (v := ?_) rfl (by kernel_rfl) (by kernel_rfl) (by kernel_rfl) (fun _ _ _ h => h) rfl ?_ ?_); rotate_left; focus (intro W hW; (try dsimp only at hW); go_split_ands; go_simp; (try (simp (disch := omega) only [IntWalk.i64_in]; (try go_simp))); (try (split; (next => omega); (try go_simp))); try rfl; done))
      try simp only [Act.put, List.setIfInBounds_toArray, List.set_cons_zero, List.set_cons_succ]
      ((refine reg_yes (i := 8) (oi := { dst := some 45, op := Go.Op.indexAddr 22 (Go.Operand.tmp 43) (Go.Operand.tmp 44), type := 0, pos := "ref.go:165", after := #[{ on := 6, ground := Go.Ground.data }, { on := 7, ground := Go.Ground.data }], guard := none }) (v := ?_) rfl (by kernel_rfl) (by kernel_rfl) (by kernel_rfl) (fun _ _ _ h => h) rfl ?_ ?_); rotate_left; focus (intro W hW; (try dsimp only at hW); go_split_ands; go_simp; (try (simp (disch := omega) only [IntWalk.i64_in]; (try go_simp))); (try (split; (next => omega); (try go_simp))); try rfl; done))
      try simp only [Act.put, List.setIfInBounds_toArray, List.set_cons_zero, List.set_cons_succ]
      ((refine reg_yes (i := 9) (oi := { dst := some 46, op := Go.Op.load 52 (Go.Operand.tmp 45), type := 52, pos := "ref.go:165", after := #[{ on := 8, ground := Go.Ground.data }], guard := none }) (v := ?_) rfl (by kernel_rfl) (by kernel_rfl) (by kernel_rfl) (fun _ _ _ h => h) rfl ?_ ?_); rotate_left; focus (intro W hW; (try dsimp only at hW); go_split_ands; go_simp; (try (simp (disch := omega) only [IntWalk.i64_in]; (try go_simp))); (try (split; (next => omega); (try go_simp))); try rfl; done))
      try simp only [Act.put, List.setIfInBounds_toArray, List.set_cons_zero, List.set_cons_succ]
      ((refine reg_yes (i := 10) (oi := { dst := some 47, op := Go.Op.binOp Go.BinOp.neq 52 (Go.Operand.tmp 41) (Go.Operand.tmp 46) 52, type := 4, pos := "ref.go:165", after := #[{ on := 4, ground := Go.Ground.data }, { on := 9, ground := Go.Ground.data }], guard := none }) (v := ?_) rfl (by kernel_rfl) (by kernel_rfl) (by kernel_rfl) (fun _ _ _ h => h) rfl ?_ ?_); rotate_left; focus (intro W hW; (try dsimp only at hW); go_split_ands; go_simp; (try (simp (disch := omega) only [IntWalk.i64_in]; (try go_simp))); (try (split; (next => omega); (try go_simp))); try rfl; done))
      try simp only [Act.put, List.setIfInBounds_toArray, List.set_cons_zero, List.set_cons_succ]
      -- ready: []
      refine reg_done (by kernel_rfl) hS ?_
      have hc2 := hc1.drew
      go_wp2_with (first | (with_reducible refine stop_append ?_) | (with_reducible refine stop_copy ?_) | (with_reducible refine stop_make ?_) | (with_reducible refine stop_lookup ?_) | (with_reducible refine stop_update ?_) | (with_reducible refine stop_slice ?_) | (with_reducible refine stop_range ?_) | (with_reducible refine stop_next ?_) | (with_reducible refine stop_convert ⟨_, rfl⟩ ?_) | (with_reducible refine stop_convertB ⟨_, _, _, rfl⟩ ?_) | (with_reducible refine stop_eqSlice ⟨_, _, rfl⟩ ?_))
      go_roundw
      case rel => exact ⟨k + 1, by omega, by go_num, hc2⟩
      case measure => simp [intOf]; omega
    · obtain rfl : k = rs.length := by omega
      have b2 := cell_obj (i := 2) (hc1.obj O2.out (not_no _)) rfl
      have d2 := cell_obj (i := 2) (hc1.obj O3.out (not_no _)) rfl
      have hc1' := hc1
      clear hlt
      go_wp2_with (first | (with_reducible refine stop_append ?_) | (with_reducible refine stop_copy ?_) | (with_reducible refine stop_make ?_) | (with_reducible refine stop_lookup ?_) | (with_reducible refine stop_update ?_) | (with_reducible refine stop_slice ?_) | (with_reducible refine stop_range ?_) | (with_reducible refine stop_next ?_) | (with_reducible refine stop_convert ⟨_, rfl⟩ ?_) | (with_reducible refine stop_convertB ⟨_, _, _, rfl⟩ ?_) | (with_reducible refine stop_eqSlice ⟨_, _, rfl⟩ ?_))
      go_loopw [6] (fun v6 wr => ∃ k : Nat, k ≤ ws.length ∧ v6 = .int .i64 k ∧ Chg No w0 wr) (fun v6 _ => ws.length - (intOf v6).toNat)
      case atStart => exact ⟨0, by omega, rfl, hc1'⟩
      case round =>
        obtain ⟨k, hk, rfl, hc1⟩ := hrel
        clear b1 d1 b2 d2 hc1'
        have b2 := cell_obj (i := 2) (hc1.obj O2.out (not_no _)) rfl
        have d2 := cell_obj (i := 2) (hc1.obj O3.out (not_no _)) rfl
        by_cases hlt : k < ws.length
        · obtain ⟨b, o, d, rfl, _, hbl, ⟨_, _, rfl, rfl, rfl⟩, ha⟩ := (Hw.out.keepNo hc1).get k hlt
          have ha0 := ha 0 _ rfl
          have ha1 := ha 1 _ rfl
          obtain ⟨b', o', d', rfl, _, hbl', ⟨_, _, rfl, rfl, rfl⟩, ha'⟩ := (Kw.out.keepNo hc1).get k hlt
          have ka0 := ha' 0 _ rfl
          have ka1 := ha' 1 _ rfl
          simp only [show Rep.n (Int × ByteArray) = 2 from rfl, Nat.add_zero] at ha0 ha1 ka0 ka1
          clear ha ha'
          generalize ws[k] = x at ha0 ha1 ka0 ka1
          obtain ⟨f, g⟩ := x
          simp only at ha0 ha1 ka0 ka1
          go_wp2_with (first | (with_reducible refine stop_append ?_) | (with_reducible refine stop_copy ?_) | (with_reducible refine stop_make ?_) | (with_reducible refine stop_lookup ?_) | (with_reducible refine stop_update ?_) | (with_reducible refine stop_slice ?_) | (with_reducible refine stop_range ?_) | (with_reducible refine stop_next ?_) | (with_reducible refine stop_convert ⟨_, rfl⟩ ?_) | (with_reducible refine stop_convertB ⟨_, _, _, rfl⟩ ?_) | (with_reducible refine stop_eqSlice ⟨_, _, rfl⟩ ?_))
          have hT : (fun W => W.cell? ⟨q2, 2, none⟩ = some (.slice (some ⟨b, o, none⟩) ws.length cW) ∧ W.cell? ⟨q3, 2, none⟩ = some (.slice (some ⟨b', o', none⟩) ws.length dW) ∧ W.cell? ⟨b, o + k * 2, none⟩ = some (.int .i64 f) ∧ W.cell? ⟨b, o + k * 2 + 1, none⟩ = some (.string g) ∧ W.cell? ⟨b', o' + k * 2, none⟩ = some (.int .i64 f) ∧ W.cell? ⟨b', o' + k * 2 + 1, none⟩ = some (.string g)) wr.drew := ⟨b2, d2, ha0, ha1, ka0, ka1⟩
          refine reg_start (fun W => W.cell? ⟨q2, 2, none⟩ = some (.slice (some ⟨b, o, none⟩) ws.length cW) ∧ W.cell? ⟨q3, 2, none⟩ = some (.slice (some ⟨b', o', none⟩) ws.length dW) ∧ W.cell? ⟨b, o + k * 2, none⟩ = some (.int .i64 f) ∧ W.cell? ⟨b, o + k * 2 + 1, none⟩ = some (.string g) ∧ W.cell? ⟨b', o' + k * 2, none⟩ = some (.int .i64 f) ∧ W.cell? ⟨b', o' + k * 2 + 1, none⟩ = some (.string g)) (by kernel_rfl) ?_
          ((refine reg_yes (i := 0) (oi := { dst := some 55, op := Go.Op.fieldAddr 25 (Go.Operand.tmp 2) 2, type := 0, pos := "ref.go:170", after := #[], guard := none }) (v := ?_) rfl (by kernel_rfl) (by kernel_rfl) (by kernel_rfl) (fun _ _ _ h => h) rfl ?_ ?_); rotate_left; focus (intro W hW; (try dsimp only at hW); go_split_ands; go_simp; (try (simp (disch := omega) only [IntWalk.i64_in]; (try go_simp))); (try (split; (next => omega); (try go_simp))); try rfl; done))
          try simp only [Act.put, List.setIfInBounds_toArray, List.set_cons_zero, List.set_cons_succ]
          ((refine reg_yes (i := 1) (oi := { dst := some 56, op := Go.Op.load 23 (Go.Operand.tmp 55), type := 23, pos := "ref.go:170", after := #[{ on := 0, ground := Go.Ground.data }], guard := none }) (v := ?_) rfl (by kernel_rfl) (by kernel_rfl) (by kernel_rfl) (fun _ _ _ h => h) rfl ?_ ?_); rotate_left; focus (intro W hW; (try dsimp only at hW); go_split_ands; go_simp; (try (simp (disch := omega) only [IntWalk.i64_in]; (try go_simp))); (try (split; (next => omega); (try go_simp))); try rfl; done))
          try simp only [Act.put, List.setIfInBounds_toArray, List.set_cons_zero, List.set_cons_succ]
          ((refine reg_yes (i := 2) (oi := { dst := some 57, op := Go.Op.move (Go.Operand.tmp 6), type := 3, pos := "ref.go:170", after := #[], guard := none }) (v := ?_) rfl (by kernel_rfl) (by kernel_rfl) (by kernel_rfl) (fun _ _ _ h => h) rfl ?_ ?_); rotate_left; focus (intro W hW; (try dsimp only at hW); go_split_ands; go_simp; (try (simp (disch := omega) only [IntWalk.i64_in]; (try go_simp))); (try (split; (next => omega); (try go_simp))); try rfl; done))
          try simp only [Act.put, List.setIfInBounds_toArray, List.set_cons_zero, List.set_cons_succ]
          ((refine reg_yes (i := 3) (oi := { dst := some 58, op := Go.Op.indexAddr 23 (Go.Operand.tmp 56) (Go.Operand.tmp 57), type := 0, pos := "ref.go:170", after := #[{ on := 1, ground := Go.Ground.data }, { on := 2, ground := Go.Ground.data }], guard := none }) (v := ?_) rfl (by kernel_rfl) (by kernel_rfl) (by kernel_rfl) (fun _ _ _ h => h) rfl ?_ ?_); rotate_left; focus (intro W hW; (try dsimp only at hW); go_split_ands; go_simp; (try (simp (disch := omega) only [IntWalk.i64_in]; (try go_simp))); (try (split; (next => omega); (try go_simp))); try rfl; done))
          try simp only [Act.put, List.setIfInBounds_toArray, List.set_cons_zero, List.set_cons_succ]
          ((refine reg_yes (i := 4) (oi := { dst := some 59, op := Go.Op.load 59 (Go.Operand.tmp 58), type := 59, pos := "ref.go:170", after := #[{ on := 3, ground := Go.Ground.data }], guard := none }) (v := ?_) rfl (by kernel_rfl) (by kernel_rfl) (by kernel_rfl) (fun _ _ _ h => h) rfl ?_ ?_); rotate_left; focus (intro W hW; (try dsimp only at hW); go_split_ands; go_simp; (try (simp (disch := omega) only [IntWalk.i64_in]; (try go_simp))); (try (split; (next => omega); (try go_simp))); try rfl; done))
          try simp only [Act.put, List.setIfInBounds_toArray, List.set_cons_zero, List.set_cons_succ]
          ((refine reg_yes (i := 5) (oi := { dst := some 60, op := Go.Op.fieldAddr 25 (Go.Operand.tmp 3) 2, type := 0, pos := "ref.go:170", after := #[], guard := none }) (v := ?_) rfl (by kernel_rfl) (by kernel_rfl) (by kernel_rfl) (fun _ _ _ h => h) rfl ?_ ?_); rotate_left; focus (intro W hW; (try dsimp only at hW); go_split_ands; go_simp; (try (simp (disch := omega) only [IntWalk.i64_in]; (try go_simp))); (try (split; (next => omega); (try go_simp))); try rfl; done))
          try simp only [Act.put, List.setIfInBounds_toArray, List.set_cons_zero, List.set_cons_succ]
          ((refine reg_yes (i := 6) (oi := { dst := some 61, op := Go.Op.load 23 (Go.Operand.tmp 60), type := 23, pos := "ref.go:170", after := #[{ on := 5, ground := Go.Ground.data }], guard := none }) (v := ?_) rfl (by kernel_rfl) (by kernel_rfl) (by kernel_rfl) (fun _ _ _ h => h) rfl ?_ ?_); rotate_left; focus (intro W hW; (try dsimp only at hW); go_split_ands; go_simp; (try (simp (disch := omega) only [IntWalk.i64_in]; (try go_simp))); (try (split; (next => omega); (try go_simp))); try rfl; done))
          try simp only [Act.put, List.setIfInBounds_toArray, List.set_cons_zero, List.set_cons_succ]
          ((refine reg_yes (i := 7) (oi := { dst := some 62, op := Go.Op.move (Go.Operand.tmp 6), type := 3, pos := "ref.go:170", after := #[], guard := none }) (v := ?_) rfl (by kernel_rfl) (by kernel_rfl) (by kernel_rfl) (fun _ _ _ h => h) rfl ?_ ?_); rotate_left; focus (intro W hW; (try dsimp only at hW); go_split_ands; go_simp; (try (simp (disch := omega) only [IntWalk.i64_in]; (try go_simp))); (try (split; (next => omega); (try go_simp))); try rfl; done))
          try simp only [Act.put, List.setIfInBounds_toArray, List.set_cons_zero, List.set_cons_succ]
          ((refine reg_yes (i := 8) (oi := { dst := some 63, op := Go.Op.indexAddr 23 (Go.Operand.tmp 61) (Go.Operand.tmp 62), type := 0, pos := "ref.go:170", after := #[{ on := 6, ground := Go.Ground.data }, { on := 7, ground := Go.Ground.data }], guard := none }) (v := ?_) rfl (by kernel_rfl) (by kernel_rfl) (by kernel_rfl) (fun _ _ _ h => h) rfl ?_ ?_); rotate_left; focus (intro W hW; (try dsimp only at hW); go_split_ands; go_simp; (try (simp (disch := omega) only [IntWalk.i64_in]; (try go_simp))); (try (split; (next => omega); (try go_simp))); try rfl; done))
          try simp only [Act.put, List.setIfInBounds_toArray, List.set_cons_zero, List.set_cons_succ]
          ((refine reg_yes (i := 9) (oi := { dst := some 64, op := Go.Op.load 59 (Go.Operand.tmp 63), type := 59, pos := "ref.go:170", after := #[{ on := 8, ground := Go.Ground.data }], guard := none }) (v := ?_) rfl (by kernel_rfl) (by kernel_rfl) (by kernel_rfl) (fun _ _ _ h => h) rfl ?_ ?_); rotate_left; focus (intro W hW; (try dsimp only at hW); go_split_ands; go_simp; (try (simp (disch := omega) only [IntWalk.i64_in]; (try go_simp))); (try (split; (next => omega); (try go_simp))); try rfl; done))
          try simp only [Act.put, List.setIfInBounds_toArray, List.set_cons_zero, List.set_cons_succ]
          ((refine reg_yes (i := 10) (oi := { dst := some 65, op := Go.Op.binOp Go.BinOp.neq 59 (Go.Operand.tmp 59) (Go.Operand.tmp 64) 59, type := 4, pos := "ref.go:170", after := #[{ on := 4, ground := Go.Ground.data }, { on := 9, ground := Go.Ground.data }], guard := none }) (v := ?_) rfl (by kernel_rfl) (by kernel_rfl) (by kernel_rfl) (fun _ _ _ h => h) rfl ?_ ?_); rotate_left; focus (intro W hW; (try dsimp only at hW); go_split_ands; go_simp; (try (simp (disch := omega) only [IntWalk.i64_in]; (try go_simp))); (try (split; (next => omega); (try go_simp))); try rfl; done))
          try simp only [Act.put, List.setIfInBounds_toArray, List.set_cons_zero, List.set_cons_succ]
          -- ready: []
          refine reg_done (by kernel_rfl) hT ?_
          have hc2 := hc1.drew
          go_wp2_with (first | (with_reducible refine stop_append ?_) | (with_reducible refine stop_copy ?_) | (with_reducible refine stop_make ?_) | (with_reducible refine stop_lookup ?_) | (with_reducible refine stop_update ?_) | (with_reducible refine stop_slice ?_) | (with_reducible refine stop_range ?_) | (with_reducible refine stop_next ?_) | (with_reducible refine stop_convert ⟨_, rfl⟩ ?_) | (with_reducible refine stop_convertB ⟨_, _, _, rfl⟩ ?_) | (with_reducible refine stop_eqSlice ⟨_, _, rfl⟩ ?_))
          go_roundw
          case rel => exact ⟨k + 1, by omega, by go_num, hc2⟩
          case measure => simp [intOf]; omega
        · obtain rfl : k = ws.length := by omega
          have hcw := hc0.trans hc1
          clear hlt
          go_wp2_with (first | (with_reducible refine stop_append ?_) | (with_reducible refine stop_copy ?_) | (with_reducible refine stop_make ?_) | (with_reducible refine stop_lookup ?_) | (with_reducible refine stop_update ?_) | (with_reducible refine stop_slice ?_) | (with_reducible refine stop_range ?_) | (with_reducible refine stop_next ?_) | (with_reducible refine stop_convert ⟨_, rfl⟩ ?_) | (with_reducible refine stop_convertB ⟨_, _, _, rfl⟩ ?_) | (with_reducible refine stop_eqSlice ⟨_, _, rfl⟩ ?_))
          go_ret
          exact ⟨rfl, hcw⟩
end Go.Proofs.Ytnioljagmimojaa
