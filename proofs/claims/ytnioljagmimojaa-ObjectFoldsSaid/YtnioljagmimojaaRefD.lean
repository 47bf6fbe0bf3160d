/- Walks of the document's object: Data. -/
import Derived.Test.YtnioljagmimojaaRefO
set_option linter.unusedVariables false
set_option linter.unusedSimpArgs false
namespace Go.Proofs.Ytnioljagmimojaa
open Go.RowKit Cb

theorem num_pos (n : Int) (h : 0 ≤ n ∧ n ≤ 4611686018427387904) : ∃ s : ByteArray, s = ⟨(encNat n.toNat).toArray⟩ ∧ s.size ≤ 9 ∧ ∀ w, Calls Try.prog 37 #[.int .i64 n] w fun e w' => e = .returned (.string s) ∧ Chg No w w' := by
  refine ⟨_, rfl, size_enc rfl (by omega), fun w => ?_⟩
  have := refnum_any n w
  unfold numS str at this
  rwa [if_pos h] at this
theorem text_pos (s : ByteArray) (h : s.size ≤ 4611686018427387904) : ∃ t : ByteArray, t = ⟨(encText s).toArray⟩ ∧ t.size ≤ 9 + s.size ∧ ∀ w, Calls Try.prog 38 #[.string s] w fun e w' => e = .returned (.string t) ∧ Chg No w w' := by
  refine ⟨_, rfl, ?_, fun w => reftext_any s w h⟩
  have := encNat_len9 s.size h
  have hl : s.data.toList.length = s.size := by rw [Array.length_toList]; rfl
  show (encText s).toArray.size ≤ _
  simp only [List.size_toArray, encText, List.length_append]
  omega
set_option maxRecDepth 100000 in
set_option maxHeartbeats 1000000 in
theorem refdata_no (F : Nat → Prop) (id : Int) (vr vw : Value) (rs : List (Int × Int)) (ws : List (Int × ByteArray)) (w : World) (hr : Sl F w vr rs) (hw : Sl F w vw ws) (hb : rightB id rs ws = false) :
    Calls Try.prog 14 #[.agg #[.int .i64 id, vr, vw]] w fun e w' => e = .returned (.tuple #[.string ⟨#[]⟩, .int .i64 1]) ∧ Chg No w w' := by
  have hc0 := (Chg.refl No w).alloc (.cells #[.int .i64 id, vr, vw] 25)
  have hcall := refright_any F id vr vw rs ws _ (hr.keepNo hc0) (hw.keepNo hc0)
  rw [hb] at hcall
  obtain ⟨AR, cR, rfl⟩ := hr.slice
  obtain ⟨AW, cW, rfl⟩ := hw.slice
  clear hr hw hb
  go_enter Try.func14, Try.ntmps14
  go_wp2_with (first | (with_reducible refine stop_append ?_) | (with_reducible refine stop_copy ?_) | (with_reducible refine stop_make ?_) | (with_reducible refine stop_lookup ?_) | (with_reducible refine stop_update ?_) | (with_reducible refine stop_slice ?_) | (with_reducible refine stop_range ?_) | (with_reducible refine stop_next ?_) | (with_reducible refine stop_convert ⟨_, rfl⟩ ?_) | (with_reducible refine stop_convertB ⟨_, _, _, rfl⟩ ?_) | (with_reducible refine stop_eqSlice ⟨_, _, rfl⟩ ?_))
  refine hcall.mono ?_
  rintro e w1 ⟨rfl, hc1⟩
  go_wp2_with (first | (with_reducible refine stop_append ?_) | (with_reducible refine stop_copy ?_) | (with_reducible refine stop_make ?_) | (with_reducible refine stop_lookup ?_) | (with_reducible refine stop_update ?_) | (with_reducible refine stop_slice ?_) | (with_reducible refine stop_range ?_) | (with_reducible refine stop_next ?_) | (with_reducible refine stop_convert ⟨_, rfl⟩ ?_) | (with_reducible refine stop_convertB ⟨_, _, _, rfl⟩ ?_) | (with_reducible refine stop_eqSlice ⟨_, _, rfl⟩ ?_))
  go_ret2
  exact ⟨rfl, hc0.trans hc1⟩
set_option maxRecDepth 100000 in
set_option maxHeartbeats 1000000 in
theorem refdata_yes (F : Nat → Prop) (id : Int) (vr vw : Value) (rs : List (Int × Int)) (ws : List (Int × ByteArray)) (w : World) (hr : Sl F w vr rs) (hw : Sl F w vw ws) (hb : rightB id rs ws = true) :
    Calls Try.prog 14 #[.agg #[.int .i64 id, vr, vw]] w fun e w' => e = .returned (.tuple #[str (encTx id rs ws), .int .i64 0]) ∧ Chg No w w' := by
  obtain ⟨hid, hrs, hrl, hws, hwl⟩ := rightB_iff hb
  have hc0 := (Chg.refl No w).alloc (.cells #[.int .i64 id, vr, vw] 25)
  have ho := alloc_obj w (.cells #[.int .i64 id, vr, vw] 25)
  have hr := hr.keepNo hc0
  have hw := hw.keepNo hc0
  have hcall := refright_any F id vr vw rs ws _ hr hw
  rw [hb] at hcall
  obtain ⟨AR, cR, rfl⟩ := hr.slice
  obtain ⟨AW, cW, rfl⟩ := hw.slice
  have Hcall := Lib.hid hcall
  have Hrs := Lib.hid hrs; have Hws := Lib.hid hws
  clear hb hcall hrs hws
  go_enter Try.func14, Try.ntmps14
  go_wp2_with (first | (with_reducible refine stop_append ?_) | (with_reducible refine stop_copy ?_) | (with_reducible refine stop_make ?_) | (with_reducible refine stop_lookup ?_) | (with_reducible refine stop_update ?_) | (with_reducible refine stop_slice ?_) | (with_reducible refine stop_range ?_) | (with_reducible refine stop_next ?_) | (with_reducible refine stop_convert ⟨_, rfl⟩ ?_) | (with_reducible refine stop_convertB ⟨_, _, _, rfl⟩ ?_) | (with_reducible refine stop_eqSlice ⟨_, _, rfl⟩ ?_))
  refine Hcall.out.mono ?_
  rintro e w1 ⟨rfl, hc1⟩
  have ho1 := hc1.obj ho (not_no _)
  have hc01 := hc0.trans hc1
  have hr1 := hr.keepNo hc1
  have hw1 := hw.keepNo hc1
  have q0 := cell_obj (i := 0) ho1 rfl
  have q1 := cell_obj (i := 1) ho1 rfl
  have q2 := cell_obj (i := 2) ho1 rfl
  clear Hcall ho ho1 hc0 hc1 hr hw
  generalize w.alloc (.cells #[.int .i64 id, .slice AR rs.length cR, .slice AW ws.length cW] 25) = w0 at *
  generalize w.heap.size = q at *
  go_wp2_with (first | (with_reducible refine stop_append ?_) | (with_reducible refine stop_copy ?_) | (with_reducible refine stop_make ?_) | (with_reducible refine stop_lookup ?_) | (with_reducible refine stop_update ?_) | (with_reducible refine stop_slice ?_) | (with_reducible refine stop_range ?_) | (with_reducible refine stop_next ?_) | (with_reducible refine stop_convert ⟨_, rfl⟩ ?_) | (with_reducible refine stop_convertB ⟨_, _, _, rfl⟩ ?_) | (with_reducible refine stop_eqSlice ⟨_, _, rfl⟩ ?_))
  obtain ⟨si, hsi, hsi9, ci⟩ := num_pos id (by omega)
  obtain ⟨sl, hsl, hsl9, cl⟩ := num_pos (rs.length : Int) (by omega)
  have Hsi := Lib.hid hsi; have Hsl := Lib.hid hsl
  clear hsi hsl
  refine pl_start (fun W => Chg No w1.drew W ∧ W.cell? ⟨q, 0, none⟩ = some (.int .i64 id) ∧ W.cell? ⟨q, 1, none⟩ = some (.slice AR rs.length cR)) (by kernel_rfl) (by kernel_rfl) ⟨Chg.refl _ _, q0, q1⟩ ?_
  ((refine pl_yes (i := 0) (oi := { dst := some 10, op := Go.Op.fieldAddr 25 (Go.Operand.tmp 1) 0, type := 0, pos := "ref.go:50", after := #[], guard := none }) (v := ?_) rfl (by kernel_rfl) (by kernel_rfl) rfl ?_ ?_); rotate_left; focus (intro W hW; (try dsimp only at hW); go_split_ands; go_simp; (try (simp (disch := omega) only [IntWalk.i64_in]; (try go_simp))); (try (split; (next => omega); (try go_simp))); try rfl; done))
  try simp only [Act.put, List.setIfInBounds_toArray, List.set_cons_zero, List.set_cons_succ]
  ((refine pl_yes (i := 1) (oi := { dst := some 11, op := Go.Op.load 3 (Go.Operand.tmp 10), type := 3, pos := "ref.go:50", after := #[{ on := 0, ground := Go.Ground.data }], guard := none }) (v := ?_) rfl (by kernel_rfl) (by kernel_rfl) rfl ?_ ?_); rotate_left; focus (intro W hW; (try dsimp only at hW); go_split_ands; go_simp; (try (simp (disch := omega) only [IntWalk.i64_in]; (try go_simp))); (try (split; (next => omega); (try go_simp))); try rfl; done))
  try simp only [Act.put, List.setIfInBounds_toArray, List.set_cons_zero, List.set_cons_succ]
  ((refine pl_yes (i := 3) (oi := { dst := some 13, op := Go.Op.fieldAddr 25 (Go.Operand.tmp 1) 1, type := 0, pos := "ref.go:50", after := #[], guard := none }) (v := ?_) rfl (by kernel_rfl) (by kernel_rfl) rfl ?_ ?_); rotate_left; focus (intro W hW; (try dsimp only at hW); go_split_ands; go_simp; (try (simp (disch := omega) only [IntWalk.i64_in]; (try go_simp))); (try (split; (next => omega); (try go_simp))); try rfl; done))
  try simp only [Act.put, List.setIfInBounds_toArray, List.set_cons_zero, List.set_cons_succ]
  ((refine pl_yes (i := 4) (oi := { dst := some 14, op := Go.Op.load 22 (Go.Operand.tmp 13), type := 22, pos := "ref.go:50", after := #[{ on := 3, ground := Go.Ground.data }], guard := none }) (v := ?_) rfl (by kernel_rfl) (by kernel_rfl) rfl ?_ ?_); rotate_left; focus (intro W hW; (try dsimp only at hW); go_split_ands; go_simp; (try (simp (disch := omega) only [IntWalk.i64_in]; (try go_simp))); (try (split; (next => omega); (try go_simp))); try rfl; done))
  try simp only [Act.put, List.setIfInBounds_toArray, List.set_cons_zero, List.set_cons_succ]
  ((refine pl_yes (i := 5) (oi := { dst := some 15, op := Go.Op.call { callee := Go.Callee.builtin Go.Builtin.len, args := #[Go.Operand.tmp 14], argTypes := #[22] }, type := 3, pos := "ref.go:50", after := #[{ on := 4, ground := Go.Ground.data }], guard := none }) (v := ?_) rfl (by kernel_rfl) (by kernel_rfl) rfl ?_ ?_); rotate_left; focus (intro W hW; (try dsimp only at hW); go_split_ands; go_simp; (try (simp (disch := omega) only [IntWalk.i64_in]; (try go_simp))); (try (split; (next => omega); (try go_simp))); try rfl; done))
  try simp only [Act.put, List.setIfInBounds_toArray, List.set_cons_zero, List.set_cons_succ]
  -- ready: [2]
  refine pl_call (i := 2) (oi := { dst := some 12, op := Go.Op.call { callee := Go.Callee.value (Go.Operand.func 37), args := #[Go.Operand.tmp 11], argTypes := #[3] }, type := 9, pos := "ref.go:50", after := #[{ on := 1, ground := Go.Ground.data }], guard := none }) (.string si) rfl (by kernel_rfl) (by kernel_rfl) rfl (by exact (fun W hW => (ci W).mono (fun e w' h => ⟨h.1, hW.1.trans h.2, h.2.cell hW.2.1 (not_no _), h.2.cell hW.2.2 (not_no _)⟩))) (fun W => by kernel_rfl) ?_
  try simp only [Act.put, List.setIfInBounds_toArray, List.set_cons_zero, List.set_cons_succ]
  -- ready: [6]
  refine pl_call (i := 6) (oi := { dst := some 16, op := Go.Op.call { callee := Go.Callee.value (Go.Operand.func 37), args := #[Go.Operand.tmp 15], argTypes := #[3] }, type := 9, pos := "ref.go:50", after := #[{ on := 5, ground := Go.Ground.data }, { on := 2, ground := Go.Ground.chain }], guard := none }) (.string sl) rfl (by kernel_rfl) (by kernel_rfl) rfl (by exact (fun W hW => (cl W).mono (fun e w' h => ⟨h.1, hW.1.trans h.2, h.2.cell hW.2.1 (not_no _), h.2.cell hW.2.2 (not_no _)⟩))) (fun W => by kernel_rfl) ?_
  try simp only [Act.put, List.setIfInBounds_toArray, List.set_cons_zero, List.set_cons_succ]
  ((refine pl_yes (i := 7) (oi := { dst := some 17, op := Go.Op.binOp Go.BinOp.add 9 (Go.Operand.tmp 12) (Go.Operand.tmp 16) 9, type := 9, pos := "ref.go:50", after := #[{ on := 2, ground := Go.Ground.data }, { on := 6, ground := Go.Ground.data }], guard := none }) (v := ?_) rfl (by kernel_rfl) (by kernel_rfl) rfl ?_ ?_); rotate_left; focus (intro W hW; (try dsimp only at hW); go_split_ands; go_simp; (try (simp (disch := omega) only [IntWalk.i64_in]; (try go_simp))); (try (split; (next => omega); (try go_simp))); try rfl; done))
  try simp only [Act.put, List.setIfInBounds_toArray, List.set_cons_zero, List.set_cons_succ]
  ((refine pl_yes (i := 8) (oi := { dst := some 4, op := Go.Op.assign (Go.Operand.tmp 17), type := 9, pos := "ref.go:50", after := #[{ on := 7, ground := Go.Ground.data }, { on := 6, ground := Go.Ground.chain }, { on := 0, ground := Go.Ground.phase }, { on := 1, ground := Go.Ground.phase }, { on := 2, ground := Go.Ground.phase }, { on := 3, ground := Go.Ground.phase }, { on := 4, ground := Go.Ground.phase }, { on := 5, ground := Go.Ground.phase }, { on := 6, ground := Go.Ground.phase }, { on := 7, ground := Go.Ground.phase }], guard := none }) (v := ?_) rfl (by kernel_rfl) (by kernel_rfl) rfl ?_ ?_); rotate_left; focus (intro W hW; (try dsimp only at hW); go_split_ands; go_simp; (try (simp (disch := omega) only [IntWalk.i64_in]; (try go_simp))); (try (split; (next => omega); (try go_simp))); try rfl; done))
  try simp only [Act.put, List.setIfInBounds_toArray, List.set_cons_zero, List.set_cons_succ]
  -- ready: []
  refine pl_done (by kernel_rfl)  ?_
  rintro w2 ⟨hc2, _, _⟩
  obtain ⟨s0, hs0⟩ : ∃ s0, s0 = si ++ sl := ⟨_, rfl⟩
  have hs0e : s0 = ⟨(encs [id, (rs.length : Int)]).toArray⟩ := by rw [hs0, Hsi.out, Hsl.out, ba_append]; simp [encs]
  rw [← hs0]
  have Hs0 := Lib.hid hs0e
  clear hs0 hs0e ci cl hsi9 hsl9
  have hc2 := (Chg.refl No w1).drew.trans hc2
  have hl0 := encs_len [id, (rs.length : Int)] (by simp; omega)
  generalize hE0 : encs [id, (rs.length : Int)] = E0 at Hs0 hl0
  have HE0 := Lib.hid hE0; clear hE0
  have p1 := hc2.cell q1 (not_no _)
  clear q0 p1
  go_wp2_with (first | (with_reducible refine stop_append ?_) | (with_reducible refine stop_copy ?_) | (with_reducible refine stop_make ?_) | (with_reducible refine stop_lookup ?_) | (with_reducible refine stop_update ?_) | (with_reducible refine stop_slice ?_) | (with_reducible refine stop_range ?_) | (with_reducible refine stop_next ?_) | (with_reducible refine stop_convert ⟨_, rfl⟩ ?_) | (with_reducible refine stop_convertB ⟨_, _, _, rfl⟩ ?_) | (with_reducible refine stop_eqSlice ⟨_, _, rfl⟩ ?_))
  go_loopw [4, 5] (fun v4 v5 wr => ∃ (k : Nat) (s : ByteArray), k ≤ rs.length ∧ v5 = .int .i64 k ∧ v4 = .string s ∧ s = ⟨(E0 ++ ((rs.take k).map encR).flatten).toArray⟩ ∧ Chg No w1 wr) (fun _ v5 _ => rs.length - (intOf v5).toNat)
  case atStart => exact ⟨0, s0, by omega, rfl, rfl, by simpa using Hs0.out, hc2⟩
  case round =>
    obtain ⟨k, s, hk, rfl, rfl, hs, hc3⟩ := hrel
    have hpl := flatten_le encR (rs.take k) 18 (fun x hx => encR_len x (by have := Hrs.out x (List.mem_of_mem_take hx); omega) (by have := Hrs.out x (List.mem_of_mem_take hx); omega))
    rw [List.length_take] at hpl
    have hss : s.size ≤ 1000 := by rw [hs]; show (_ : List UInt8).toArray.size ≤ _; simp only [List.size_toArray, List.length_append, List.length_cons, List.length_nil] at hl0 ⊢; omega
    have Hs := Lib.hid hs; clear hs
    have p1 := hc3.cell q1 (not_no _)
    by_cases hlt : k < rs.length
    · obtain ⟨b, o, d, rfl, _, hbl, ⟨d1, d2, rfl, rfl, rfl⟩, ha⟩ := (hr1.keepNo hc3).get k hlt
      have ha0 := ha 0 _ rfl
      have ha1 := ha 1 _ rfl
      simp only [show Rep.n (Int × Int) = 2 from rfl, Nat.add_zero] at ha0 ha1
      have hrk := Hrs.out _ (List.getElem_mem hlt)
      have Hsn := Lib.hid (map_snoc encR rs k hlt)
      clear ha
      generalize rs[k] = x at ha0 ha1 hrk Hsn
      obtain ⟨f, ver⟩ := x
      simp only at ha0 ha1 hrk
      obtain ⟨⟨hf0, hf1⟩, hv0, hv1⟩ := hrk
      obtain ⟨sf, hsf, hsf9, cf⟩ := num_pos f (by omega)
      obtain ⟨sv, hsv, hsv9, cv⟩ := num_pos ver (by omega)
      have Hsf := Lib.hid hsf; have Hsv := Lib.hid hsv
      have Cf := Lib.hid cf; have Cv := Lib.hid cv
      clear hsf hsv cf cv hr1 hw1 hpl
      go_wp2_with (first | (with_reducible refine stop_append ?_) | (with_reducible refine stop_copy ?_) | (with_reducible refine stop_make ?_) | (with_reducible refine stop_lookup ?_) | (with_reducible refine stop_update ?_) | (with_reducible refine stop_slice ?_) | (with_reducible refine stop_range ?_) | (with_reducible refine stop_next ?_) | (with_reducible refine stop_convert ⟨_, rfl⟩ ?_) | (with_reducible refine stop_convertB ⟨_, _, _, rfl⟩ ?_) | (with_reducible refine stop_eqSlice ⟨_, _, rfl⟩ ?_))
      have hsvs : (s ++ sf).size = s.size + sf.size := by simp
      refine pl_start (fun W => Chg No wr.drew W ∧ W.cell? ⟨q, 1, none⟩ = some (.slice (some ⟨b, o, none⟩) rs.length cR) ∧ W.cell? ⟨b, o + k * 2, none⟩ = some (.int .i64 f) ∧ W.cell? ⟨b, o + k * 2 + 1, none⟩ = some (.int .i64 ver)) (by kernel_rfl) (by kernel_rfl) ⟨Chg.refl _ _, p1, ha0, ha1⟩ ?_
      ((refine pl_yes (i := 0) (oi := { dst := some 25, op := Go.Op.move (Go.Operand.tmp 4), type := 9, pos := "ref.go:52", after := #[], guard := none }) (v := ?_) rfl (by kernel_rfl) (by kernel_rfl) rfl ?_ ?_); rotate_left; focus (intro W hW; (try dsimp only at hW); go_split_ands; go_simp; (try (simp (disch := omega) only [IntWalk.i64_in]; (try go_simp))); (try (split; (next => omega); (try go_simp))); try rfl; done))
      try simp only [Act.put, List.setIfInBounds_toArray, List.set_cons_zero, List.set_cons_succ]
      ((refine pl_yes (i := 1) (oi := { dst := some 26, op := Go.Op.fieldAddr 25 (Go.Operand.tmp 1) 1, type := 0, pos := "ref.go:52", after := #[], guard := none }) (v := ?_) rfl (by kernel_rfl) (by kernel_rfl) rfl ?_ ?_); rotate_left; focus (intro W hW; (try dsimp only at hW); go_split_ands; go_simp; (try (simp (disch := omega) only [IntWalk.i64_in]; (try go_simp))); (try (split; (next => omega); (try go_simp))); try rfl; done))
      try simp only [Act.put, List.setIfInBounds_toArray, List.set_cons_zero, List.set_cons_succ]
      ((refine pl_yes (i := 2) (oi := { dst := some 27, op := Go.Op.load 22 (Go.Operand.tmp 26), type := 22, pos := "ref.go:52", after := #[{ on := 1, ground := Go.Ground.data }], guard := none }) (v := ?_) rfl (by kernel_rfl) (by kernel_rfl) rfl ?_ ?_); rotate_left; focus (intro W hW; (try dsimp only at hW); go_split_ands; go_simp; (try (simp (disch := omega) only [IntWalk.i64_in]; (try go_simp))); (try (split; (next => omega); (try go_simp))); try rfl; done))
      try simp only [Act.put, List.setIfInBounds_toArray, List.set_cons_zero, List.set_cons_succ]
      ((refine pl_yes (i := 3) (oi := { dst := some 28, op := Go.Op.move (Go.Operand.tmp 5), type := 3, pos := "ref.go:52", after := #[], guard := none }) (v := ?_) rfl (by kernel_rfl) (by kernel_rfl) rfl ?_ ?_); rotate_left; focus (intro W hW; (try dsimp only at hW); go_split_ands; go_simp; (try (simp (disch := omega) only [IntWalk.i64_in]; (try go_simp))); (try (split; (next => omega); (try go_simp))); try rfl; done))
      try simp only [Act.put, List.setIfInBounds_toArray, List.set_cons_zero, List.set_cons_succ]
      ((refine pl_yes (i := 4) (oi := { dst := some 29, op := Go.Op.indexAddr 22 (Go.Operand.tmp 27) (Go.Operand.tmp 28), type := 0, pos := "ref.go:52", after := #[{ on := 2, ground := Go.Ground.data }, { on := 3, ground := Go.Ground.data }], guard := none }) (v := ?_) rfl (by kernel_rfl) (by kernel_rfl) rfl ?_ ?_); rotate_left; focus (intro W hW; (try dsimp only at hW); go_split_ands; go_simp; (try (simp (disch := omega) only [IntWalk.i64_in]; (try go_simp))); (try (split; (next => omega); (try go_simp))); try rfl; done))
      try simp only [Act.put, List.setIfInBounds_toArray, List.set_cons_zero, List.set_cons_succ]
      ((refine pl_yes (i := 5) (oi := { dst := some 30, op := Go.Op.fieldAddr 52 (Go.Operand.tmp 29) 0, type := 0, pos := "ref.go:52", after := #[{ on := 4, ground := Go.Ground.data }], guard := none }) (v := ?_) rfl (by kernel_rfl) (by kernel_rfl) rfl ?_ ?_); rotate_left; focus (intro W hW; (try dsimp only at hW); go_split_ands; go_simp; (try (simp (disch := omega) only [IntWalk.i64_in]; (try go_simp))); (try (split; (next => omega); (try go_simp))); try rfl; done))
      try simp only [Act.put, List.setIfInBounds_toArray, List.set_cons_zero, List.set_cons_succ]
      ((refine pl_yes (i := 6) (oi := { dst := some 31, op := Go.Op.load 3 (Go.Operand.tmp 30), type := 3, pos := "ref.go:52", after := #[{ on := 5, ground := Go.Ground.data }], guard := none }) (v := ?_) rfl (by kernel_rfl) (by kernel_rfl) rfl ?_ ?_); rotate_left; focus (intro W hW; (try dsimp only at hW); go_split_ands; go_simp; (try (simp (disch := omega) only [IntWalk.i64_in]; (try go_simp))); (try (split; (next => omega); (try go_simp))); try rfl; done))
      try simp only [Act.put, List.setIfInBounds_toArray, List.set_cons_zero, List.set_cons_succ]
      ((refine pl_yes (i := 9) (oi := { dst := some 34, op := Go.Op.fieldAddr 25 (Go.Operand.tmp 1) 1, type := 0, pos := "ref.go:52", after := #[], guard := none }) (v := ?_) rfl (by kernel_rfl) (by kernel_rfl) rfl ?_ ?_); rotate_left; focus (intro W hW; (try dsimp only at hW); go_split_ands; go_simp; (try (simp (disch := omega) only [IntWalk.i64_in]; (try go_simp))); (try (split; (next => omega); (try go_simp))); try rfl; done))
      try simp only [Act.put, List.setIfInBounds_toArray, List.set_cons_zero, List.set_cons_succ]
      ((refine pl_yes (i := 10) (oi := { dst := some 35, op := Go.Op.load 22 (Go.Operand.tmp 34), type := 22, pos := "ref.go:52", after := #[{ on := 9, ground := Go.Ground.data }], guard := none }) (v := ?_) rfl (by kernel_rfl) (by kernel_rfl) rfl ?_ ?_); rotate_left; focus (intro W hW; (try dsimp only at hW); go_split_ands; go_simp; (try (simp (disch := omega) only [IntWalk.i64_in]; (try go_simp))); (try (split; (next => omega); (try go_simp))); try rfl; done))
      try simp only [Act.put, List.setIfInBounds_toArray, List.set_cons_zero, List.set_cons_succ]
      ((refine pl_yes (i := 11) (oi := { dst := some 36, op := Go.Op.move (Go.Operand.tmp 5), type := 3, pos := "ref.go:52", after := #[], guard := none }) (v := ?_) rfl (by kernel_rfl) (by kernel_rfl) rfl ?_ ?_); rotate_left; focus (intro W hW; (try dsimp only at hW); go_split_ands; go_simp; (try (simp (disch := omega) only [IntWalk.i64_in]; (try go_simp))); (try (split; (next => omega); (try go_simp))); try rfl; done))
      try simp only [Act.put, List.setIfInBounds_toArray, List.set_cons_zero, List.set_cons_succ]
      ((refine pl_yes (i := 12) (oi := { dst := some 37, op := Go.Op.indexAddr 22 (Go.Operand.tmp 35) (Go.Operand.tmp 36), type := 0, pos := "ref.go:52", after := #[{ on := 10, ground := Go.Ground.data }, { on := 11, ground := Go.Ground.data }], guard := none }) (v := ?_) rfl (by kernel_rfl) (by kernel_rfl) rfl ?_ ?_); rotate_left; focus (intro W hW; (try dsimp only at hW); go_split_ands; go_simp; (try (simp (disch := omega) only [IntWalk.i64_in]; (try go_simp))); (try (split; (next => omega); (try go_simp))); try rfl; done))
      try simp only [Act.put, List.setIfInBounds_toArray, List.set_cons_zero, List.set_cons_succ]
      ((refine pl_yes (i := 13) (oi := { dst := some 38, op := Go.Op.fieldAddr 52 (Go.Operand.tmp 37) 1, type := 0, pos := "ref.go:52", after := #[{ on := 12, ground := Go.Ground.data }], guard := none }) (v := ?_) rfl (by kernel_rfl) (by kernel_rfl) rfl ?_ ?_); rotate_left; focus (intro W hW; (try dsimp only at hW); go_split_ands; go_simp; (try (simp (disch := omega) only [IntWalk.i64_in]; (try go_simp))); (try (split; (next => omega); (try go_simp))); try rfl; done))
      try simp only [Act.put, List.setIfInBounds_toArray, List.set_cons_zero, List.set_cons_succ]
      ((refine pl_yes (i := 14) (oi := { dst := some 39, op := Go.Op.load 3 (Go.Operand.tmp 38), type := 3, pos := "ref.go:52", after := #[{ on := 13, ground := Go.Ground.data }], guard := none }) (v := ?_) rfl (by kernel_rfl) (by kernel_rfl) rfl ?_ ?_); rotate_left; focus (intro W hW; (try dsimp only at hW); go_split_ands; go_simp; (try (simp (disch := omega) only [IntWalk.i64_in]; (try go_simp))); (try (split; (next => omega); (try go_simp))); try rfl; done))
      try simp only [Act.put, List.setIfInBounds_toArray, List.set_cons_zero, List.set_cons_succ]
      -- ready: [7]
      refine pl_call (i := 7) (oi := { dst := some 32, op := Go.Op.call { callee := Go.Callee.value (Go.Operand.func 37), args := #[Go.Operand.tmp 31], argTypes := #[3] }, type := 9, pos := "ref.go:52", after := #[{ on := 6, ground := Go.Ground.data }], guard := none }) (.string sf) rfl (by kernel_rfl) (by kernel_rfl) rfl (by exact (fun W hW => (Cf.out W).mono (fun e w' h => ⟨h.1, hW.1.trans h.2, h.2.cell hW.2.1 (not_no _), h.2.cell hW.2.2.1 (not_no _), h.2.cell hW.2.2.2 (not_no _)⟩))) (fun W => by kernel_rfl) ?_
      try simp only [Act.put, List.setIfInBounds_toArray, List.set_cons_zero, List.set_cons_succ]
      ((refine pl_yes (i := 8) (oi := { dst := some 33, op := Go.Op.binOp Go.BinOp.add 9 (Go.Operand.tmp 25) (Go.Operand.tmp 32) 9, type := 9, pos := "ref.go:52", after := #[{ on := 0, ground := Go.Ground.data }, { on := 7, ground := Go.Ground.data }], guard := none }) (v := ?_) rfl (by kernel_rfl) (by kernel_rfl) rfl ?_ ?_); rotate_left; focus (intro W hW; (try dsimp only at hW); go_split_ands; go_simp; (try (simp (disch := omega) only [IntWalk.i64_in]; (try go_simp))); (try (split; (next => omega); (try go_simp))); try rfl; done))
      try simp only [Act.put, List.setIfInBounds_toArray, List.set_cons_zero, List.set_cons_succ]
      -- ready: [15]
      refine pl_call (i := 15) (oi := { dst := some 40, op := Go.Op.call { callee := Go.Callee.value (Go.Operand.func 37), args := #[Go.Operand.tmp 39], argTypes := #[3] }, type := 9, pos := "ref.go:52", after := #[{ on := 14, ground := Go.Ground.data }, { on := 7, ground := Go.Ground.chain }], guard := none }) (.string sv) rfl (by kernel_rfl) (by kernel_rfl) rfl (by exact (fun W hW => (Cv.out W).mono (fun e w' h => ⟨h.1, hW.1.trans h.2, h.2.cell hW.2.1 (not_no _), h.2.cell hW.2.2.1 (not_no _), h.2.cell hW.2.2.2 (not_no _)⟩))) (fun W => by kernel_rfl) ?_
      try simp only [Act.put, List.setIfInBounds_toArray, List.set_cons_zero, List.set_cons_succ]
      ((refine pl_yes (i := 16) (oi := { dst := some 41, op := Go.Op.binOp Go.BinOp.add 9 (Go.Operand.tmp 33) (Go.Operand.tmp 40) 9, type := 9, pos := "ref.go:52", after := #[{ on := 8, ground := Go.Ground.data }, { on := 15, ground := Go.Ground.data }], guard := none }) (v := ?_) rfl (by kernel_rfl) (by kernel_rfl) rfl ?_ ?_); rotate_left; focus (intro W hW; (try dsimp only at hW); go_split_ands; go_simp; (try (simp (disch := omega) only [IntWalk.i64_in]; (try go_simp))); (try (split; (next => omega); (try go_simp))); try rfl; done))
      try simp only [Act.put, List.setIfInBounds_toArray, List.set_cons_zero, List.set_cons_succ]
      ((refine pl_yes (i := 17) (oi := { dst := some 4, op := Go.Op.assign (Go.Operand.tmp 41), type := 9, pos := "ref.go:52", after := #[{ on := 16, ground := Go.Ground.data }, { on := 15, ground := Go.Ground.chain }, { on := 0, ground := Go.Ground.phase }, { on := 1, ground := Go.Ground.phase }, { on := 2, ground := Go.Ground.phase }, { on := 3, ground := Go.Ground.phase }, { on := 4, ground := Go.Ground.phase }, { on := 5, ground := Go.Ground.phase }, { on := 6, ground := Go.Ground.phase }, { on := 7, ground := Go.Ground.phase }, { on := 8, ground := Go.Ground.phase }, { on := 9, ground := Go.Ground.phase }, { on := 10, ground := Go.Ground.phase }, { on := 11, ground := Go.Ground.phase }, { on := 12, ground := Go.Ground.phase }, { on := 13, ground := Go.Ground.phase }, { on := 14, ground := Go.Ground.phase }, { on := 15, ground := Go.Ground.phase }, { on := 16, ground := Go.Ground.phase }], guard := none }) (v := ?_) rfl (by kernel_rfl) (by kernel_rfl) rfl ?_ ?_); rotate_left; focus (intro W hW; (try dsimp only at hW); go_split_ands; go_simp; (try (simp (disch := omega) only [IntWalk.i64_in]; (try go_simp))); (try (split; (next => omega); (try go_simp))); try rfl; done))
      try simp only [Act.put, List.setIfInBounds_toArray, List.set_cons_zero, List.set_cons_succ]
      -- ready: []
      refine pl_done (by kernel_rfl)  ?_
      rintro w4 ⟨hc4, _, _, _⟩
      have hc4 := hc3.trans ((Chg.refl No wr).drew.trans hc4)
      go_wp2_with (first | (with_reducible refine stop_append ?_) | (with_reducible refine stop_copy ?_) | (with_reducible refine stop_make ?_) | (with_reducible refine stop_lookup ?_) | (with_reducible refine stop_update ?_) | (with_reducible refine stop_slice ?_) | (with_reducible refine stop_range ?_) | (with_reducible refine stop_next ?_) | (with_reducible refine stop_convert ⟨_, rfl⟩ ?_) | (with_reducible refine stop_convertB ⟨_, _, _, rfl⟩ ?_) | (with_reducible refine stop_eqSlice ⟨_, _, rfl⟩ ?_))
      go_roundw
      case rel => exact ⟨k + 1, s ++ sf ++ sv, by omega, by go_num, rfl, by rw [Hsn.out, Hs.out, Hsf.out, Hsv.out, ba_append, ba_append]; simp [encR, encs], hc4⟩
      case measure => simp [intOf]; omega
    · obtain rfl : k = rs.length := by omega
      rw [List.take_length] at Hs
      have p2 := hc3.cell q2 (not_no _)
      obtain ⟨sm, hsm, hsm9, cm⟩ := num_pos (ws.length : Int) (by omega)
      have Hsm := Lib.hid hsm; have Cm := Lib.hid cm
      have hcat : ¬ (9223372036854775807 < s.size + sm.size) := by omega
      clear hsm cm hr1 hlt hpl
      go_wp2_with (first | (with_reducible refine stop_append ?_) | (with_reducible refine stop_copy ?_) | (with_reducible refine stop_make ?_) | (with_reducible refine stop_lookup ?_) | (with_reducible refine stop_update ?_) | (with_reducible refine stop_slice ?_) | (with_reducible refine stop_range ?_) | (with_reducible refine stop_next ?_) | (with_reducible refine stop_convert ⟨_, rfl⟩ ?_) | (with_reducible refine stop_convertB ⟨_, _, _, rfl⟩ ?_) | (with_reducible refine stop_eqSlice ⟨_, _, rfl⟩ ?_))
      refine (Cm.out _).mono ?_
      rintro e w5 ⟨rfl, hc5⟩
      have hc5 := hc3.trans hc5
      go_wp2_with (first | (with_reducible refine stop_append ?_) | (with_reducible refine stop_copy ?_) | (with_reducible refine stop_make ?_) | (with_reducible refine stop_lookup ?_) | (with_reducible refine stop_update ?_) | (with_reducible refine stop_slice ?_) | (with_reducible refine stop_range ?_) | (with_reducible refine stop_next ?_) | (with_reducible refine stop_convert ⟨_, rfl⟩ ?_) | (with_reducible refine stop_convertB ⟨_, _, _, rfl⟩ ?_) | (with_reducible refine stop_eqSlice ⟨_, _, rfl⟩ ?_))
      obtain ⟨s1, hs1⟩ : ∃ s1, s1 = s ++ sm := ⟨_, rfl⟩
      have hs1s : s1.size ≤ 1009 := by rw [hs1, ByteArray.size_append]; omega
      rw [← hs1]
      have Hs1 := Lib.hid hs1; clear hs1 hcat
      have p3 := hc5.cell q2 (not_no _)
      go_loopw [4, 6] (fun v4 v6 wr => ∃ (k : Nat) (s : ByteArray), k ≤ ws.length ∧ v6 = .int .i64 k ∧ v4 = .string s ∧ s = s1 ++ ⟨((ws.take k).map encW).flatten.toArray⟩ ∧ Chg No w1 wr) (fun _ v6 _ => ws.length - (intOf v6).toNat)
      case atStart => exact ⟨0, s1, by omega, rfl, rfl, by rw [ByteArray.ext_iff, ByteArray.data_append]; simp, hc5⟩
      case round =>
        obtain ⟨k, s2, hk, rfl, rfl, hs2, hc6⟩ := hrel
        have hpl := flatten_le encW (ws.take k) 70000 (fun x hx => encW_len x (by have := Hws.out x (List.mem_of_mem_take hx); omega) (by have := Hws.out x (List.mem_of_mem_take hx); omega))
        rw [List.length_take] at hpl
        have hss2 : s2.size ≤ 2000000 := by rw [hs2, ByteArray.size_append]; show s1.size + (_ : List UInt8).toArray.size ≤ _; simp only [List.size_toArray]; omega
        have Hs2 := Lib.hid hs2; clear hs2
        have p4 := hc6.cell q2 (not_no _)
        clear p1 p2 p3
        by_cases hlt : k < ws.length
        · obtain ⟨b, o, d, rfl, _, hbl, ⟨d1, d2, rfl, rfl, rfl⟩, ha⟩ := (hw1.keepNo hc6).get k hlt
          have ha0 := ha 0 _ rfl
          have ha1 := ha 1 _ rfl
          simp only [show Rep.n (Int × ByteArray) = 2 from rfl, Nat.add_zero] at ha0 ha1
          have hwk := Hws.out _ (List.getElem_mem hlt)
          have Hsn := Lib.hid (map_snoc encW ws k hlt)
          clear ha
          generalize ws[k] = x at ha0 ha1 hwk Hsn
          obtain ⟨f, val⟩ := x
          simp only at ha0 ha1 hwk
          obtain ⟨⟨hf0, hf1⟩, hvs⟩ := hwk
          obtain ⟨sf, hsf, hsf9, cf⟩ := num_pos f (by omega)
          obtain ⟨sv, hsv, hsv9, cv⟩ := text_pos val (by omega)
          have Hsf := Lib.hid hsf; have Hsv := Lib.hid hsv
          have Cf := Lib.hid cf; have Cv := Lib.hid cv
          clear hsf hsv cf cv hw1 hpl
          go_wp2_with (first | (with_reducible refine stop_append ?_) | (with_reducible refine stop_copy ?_) | (with_reducible refine stop_make ?_) | (with_reducible refine stop_lookup ?_) | (with_reducible refine stop_update ?_) | (with_reducible refine stop_slice ?_) | (with_reducible refine stop_range ?_) | (with_reducible refine stop_next ?_) | (with_reducible refine stop_convert ⟨_, rfl⟩ ?_) | (with_reducible refine stop_convertB ⟨_, _, _, rfl⟩ ?_) | (with_reducible refine stop_eqSlice ⟨_, _, rfl⟩ ?_))
          have hsvs : (s2 ++ sf).size = s2.size + sf.size := by simp
          refine pl_start (fun W => Chg No wr.drew W ∧ W.cell? ⟨q, 2, none⟩ = some (.slice (some ⟨b, o, none⟩) ws.length cW) ∧ W.cell? ⟨b, o + k * 2, none⟩ = some (.int .i64 f) ∧ W.cell? ⟨b, o + k * 2 + 1, none⟩ = some (.string val)) (by kernel_rfl) (by kernel_rfl) ⟨Chg.refl _ _, p4, ha0, ha1⟩ ?_
          ((refine pl_yes (i := 0) (oi := { dst := some 55, op := Go.Op.move (Go.Operand.tmp 4), type := 9, pos := "ref.go:56", after := #[], guard := none }) (v := ?_) rfl (by kernel_rfl) (by kernel_rfl) rfl ?_ ?_); rotate_left; focus (intro W hW; (try dsimp only at hW); go_split_ands; go_simp; (try (simp (disch := omega) only [IntWalk.i64_in]; (try go_simp))); (try (split; (next => omega); (try go_simp))); try rfl; done))
          try simp only [Act.put, List.setIfInBounds_toArray, List.set_cons_zero, List.set_cons_succ]
          ((refine pl_yes (i := 1) (oi := { dst := some 56, op := Go.Op.fieldAddr 25 (Go.Operand.tmp 1) 2, type := 0, pos := "ref.go:56", after := #[], guard := none }) (v := ?_) rfl (by kernel_rfl) (by kernel_rfl) rfl ?_ ?_); rotate_left; focus (intro W hW; (try dsimp only at hW); go_split_ands; go_simp; (try (simp (disch := omega) only [IntWalk.i64_in]; (try go_simp))); (try (split; (next => omega); (try go_simp))); try rfl; done))
          try simp only [Act.put, List.setIfInBounds_toArray, List.set_cons_zero, List.set_cons_succ]
          ((refine pl_yes (i := 2) (oi := { dst := some 57, op := Go.Op.load 23 (Go.Operand.tmp 56), type := 23, pos := "ref.go:56", after := #[{ on := 1, ground := Go.Ground.data }], guard := none }) (v := ?_) rfl (by kernel_rfl) (by kernel_rfl) rfl ?_ ?_); rotate_left; focus (intro W hW; (try dsimp only at hW); go_split_ands; go_simp; (try (simp (disch := omega) only [IntWalk.i64_in]; (try go_simp))); (try (split; (next => omega); (try go_simp))); try rfl; done))
          try simp only [Act.put, List.setIfInBounds_toArray, List.set_cons_zero, List.set_cons_succ]
          ((refine pl_yes (i := 3) (oi := { dst := some 58, op := Go.Op.move (Go.Operand.tmp 6), type := 3, pos := "ref.go:56", after := #[], guard := none }) (v := ?_) rfl (by kernel_rfl) (by kernel_rfl) rfl ?_ ?_); rotate_left; focus (intro W hW; (try dsimp only at hW); go_split_ands; go_simp; (try (simp (disch := omega) only [IntWalk.i64_in]; (try go_simp))); (try (split; (next => omega); (try go_simp))); try rfl; done))
          try simp only [Act.put, List.setIfInBounds_toArray, List.set_cons_zero, List.set_cons_succ]
          ((refine pl_yes (i := 4) (oi := { dst := some 59, op := Go.Op.indexAddr 23 (Go.Operand.tmp 57) (Go.Operand.tmp 58), type := 0, pos := "ref.go:56", after := #[{ on := 2, ground := Go.Ground.data }, { on := 3, ground := Go.Ground.data }], guard := none }) (v := ?_) rfl (by kernel_rfl) (by kernel_rfl) rfl ?_ ?_); rotate_left; focus (intro W hW; (try dsimp only at hW); go_split_ands; go_simp; (try (simp (disch := omega) only [IntWalk.i64_in]; (try go_simp))); (try (split; (next => omega); (try go_simp))); try rfl; done))
          try simp only [Act.put, List.setIfInBounds_toArray, List.set_cons_zero, List.set_cons_succ]
          ((refine pl_yes (i := 5) (oi := { dst := some 60, op := Go.Op.fieldAddr 59 (Go.Operand.tmp 59) 0, type := 0, pos := "ref.go:56", after := #[{ on := 4, ground := Go.Ground.data }], guard := none }) (v := ?_) rfl (by kernel_rfl) (by kernel_rfl) rfl ?_ ?_); rotate_left; focus (intro W hW; (try dsimp only at hW); go_split_ands; go_simp; (try (simp (disch := omega) only [IntWalk.i64_in]; (try go_simp))); (try (split; (next => omega); (try go_simp))); try rfl; done))
          try simp only [Act.put, List.setIfInBounds_toArray, List.set_cons_zero, List.set_cons_succ]
          ((refine pl_yes (i := 6) (oi := { dst := some 61, op := Go.Op.load 3 (Go.Operand.tmp 60), type := 3, pos := "ref.go:56", after := #[{ on := 5, ground := Go.Ground.data }], guard := none }) (v := ?_) rfl (by kernel_rfl) (by kernel_rfl) rfl ?_ ?_); rotate_left; focus (intro W hW; (try dsimp only at hW); go_split_ands; go_simp; (try (simp (disch := omega) only [IntWalk.i64_in]; (try go_simp))); (try (split; (next => omega); (try go_simp))); try rfl; done))
          try simp only [Act.put, List.setIfInBounds_toArray, List.set_cons_zero, List.set_cons_succ]
          ((refine pl_yes (i := 9) (oi := { dst := some 64, op := Go.Op.fieldAddr 25 (Go.Operand.tmp 1) 2, type := 0, pos := "ref.go:56", after := #[], guard := none }) (v := ?_) rfl (by kernel_rfl) (by kernel_rfl) rfl ?_ ?_); rotate_left; focus (intro W hW; (try dsimp only at hW); go_split_ands; go_simp; (try (simp (disch := omega) only [IntWalk.i64_in]; (try go_simp))); (try (split; (next => omega); (try go_simp))); try rfl; done))
          try simp only [Act.put, List.setIfInBounds_toArray, List.set_cons_zero, List.set_cons_succ]
          ((refine pl_yes (i := 10) (oi := { dst := some 65, op := Go.Op.load 23 (Go.Operand.tmp 64), type := 23, pos := "ref.go:56", after := #[{ on := 9, ground := Go.Ground.data }], guard := none }) (v := ?_) rfl (by kernel_rfl) (by kernel_rfl) rfl ?_ ?_); rotate_left; focus (intro W hW; (try dsimp only at hW); go_split_ands; go_simp; (try (simp (disch := omega) only [IntWalk.i64_in]; (try go_simp))); (try (split; (next => omega); (try go_simp))); try rfl; done))
          try simp only [Act.put, List.setIfInBounds_toArray, List.set_cons_zero, List.set_cons_succ]
          ((refine pl_yes (i := 11) (oi := { dst := some 66, op := Go.Op.move (Go.Operand.tmp 6), type := 3, pos := "ref.go:56", after := #[], guard := none }) (v := ?_) rfl (by kernel_rfl) (by kernel_rfl) rfl ?_ ?_); rotate_left; focus (intro W hW; (try dsimp only at hW); go_split_ands; go_simp; (try (simp (disch := omega) only [IntWalk.i64_in]; (try go_simp))); (try (split; (next => omega); (try go_simp))); try rfl; done))
          try simp only [Act.put, List.setIfInBounds_toArray, List.set_cons_zero, List.set_cons_succ]
          ((refine pl_yes (i := 12) (oi := { dst := some 67, op := Go.Op.indexAddr 23 (Go.Operand.tmp 65) (Go.Operand.tmp 66), type := 0, pos := "ref.go:56", after := #[{ on := 10, ground := Go.Ground.data }, { on := 11, ground := Go.Ground.data }], guard := none }) (v := ?_) rfl (by kernel_rfl) (by kernel_rfl) rfl ?_ ?_); rotate_left; focus (intro W hW; (try dsimp only at hW); go_split_ands; go_simp; (try (simp (disch := omega) only [IntWalk.i64_in]; (try go_simp))); (try (split; (next => omega); (try go_simp))); try rfl; done))
          try simp only [Act.put, List.setIfInBounds_toArray, List.set_cons_zero, List.set_cons_succ]
          ((refine pl_yes (i := 13) (oi := { dst := some 68, op := Go.Op.fieldAddr 59 (Go.Operand.tmp 67) 1, type := 0, pos := "ref.go:56", after := #[{ on := 12, ground := Go.Ground.data }], guard := none }) (v := ?_) rfl (by kernel_rfl) (by kernel_rfl) rfl ?_ ?_); rotate_left; focus (intro W hW; (try dsimp only at hW); go_split_ands; go_simp; (try (simp (disch := omega) only [IntWalk.i64_in]; (try go_simp))); (try (split; (next => omega); (try go_simp))); try rfl; done))
          try simp only [Act.put, List.setIfInBounds_toArray, List.set_cons_zero, List.set_cons_succ]
          ((refine pl_yes (i := 14) (oi := { dst := some 69, op := Go.Op.load 9 (Go.Operand.tmp 68), type := 9, pos := "ref.go:56", after := #[{ on := 13, ground := Go.Ground.data }], guard := none }) (v := ?_) rfl (by kernel_rfl) (by kernel_rfl) rfl ?_ ?_); rotate_left; focus (intro W hW; (try dsimp only at hW); go_split_ands; go_simp; (try (simp (disch := omega) only [IntWalk.i64_in]; (try go_simp))); (try (split; (next => omega); (try go_simp))); try rfl; done))
          try simp only [Act.put, List.setIfInBounds_toArray, List.set_cons_zero, List.set_cons_succ]
          -- ready: [7]
          refine pl_call (i := 7) (oi := { dst := some 62, op := Go.Op.call { callee := Go.Callee.value (Go.Operand.func 37), args := #[Go.Operand.tmp 61], argTypes := #[3] }, type := 9, pos := "ref.go:56", after := #[{ on := 6, ground := Go.Ground.data }], guard := none }) (.string sf) rfl (by kernel_rfl) (by kernel_rfl) rfl (by exact (fun W hW => (Cf.out W).mono (fun e w' h => ⟨h.1, hW.1.trans h.2, h.2.cell hW.2.1 (not_no _), h.2.cell hW.2.2.1 (not_no _), h.2.cell hW.2.2.2 (not_no _)⟩))) (fun W => by kernel_rfl) ?_
          try simp only [Act.put, List.setIfInBounds_toArray, List.set_cons_zero, List.set_cons_succ]
          ((refine pl_yes (i := 8) (oi := { dst := some 63, op := Go.Op.binOp Go.BinOp.add 9 (Go.Operand.tmp 55) (Go.Operand.tmp 62) 9, type := 9, pos := "ref.go:56", after := #[{ on := 0, ground := Go.Ground.data }, { on := 7, ground := Go.Ground.data }], guard := none }) (v := ?_) rfl (by kernel_rfl) (by kernel_rfl) rfl ?_ ?_); rotate_left; focus (intro W hW; (try dsimp only at hW); go_split_ands; go_simp; (try (simp (disch := omega) only [IntWalk.i64_in]; (try go_simp))); (try (split; (next => omega); (try go_simp))); try rfl; done))
          try simp only [Act.put, List.setIfInBounds_toArray, List.set_cons_zero, List.set_cons_succ]
          -- ready: [15]
          refine pl_call (i := 15) (oi := { dst := some 70, op := Go.Op.call { callee := Go.Callee.value (Go.Operand.func 38), args := #[Go.Operand.tmp 69], argTypes := #[9] }, type := 9, pos := "ref.go:56", after := #[{ on := 14, ground := Go.Ground.data }, { on := 7, ground := Go.Ground.chain }], guard := none }) (.string sv) rfl (by kernel_rfl) (by kernel_rfl) rfl (by exact (fun W hW => (Cv.out W).mono (fun e w' h => ⟨h.1, hW.1.trans h.2, h.2.cell hW.2.1 (not_no _), h.2.cell hW.2.2.1 (not_no _), h.2.cell hW.2.2.2 (not_no _)⟩))) (fun W => by kernel_rfl) ?_
          try simp only [Act.put, List.setIfInBounds_toArray, List.set_cons_zero, List.set_cons_succ]
          ((refine pl_yes (i := 16) (oi := { dst := some 71, op := Go.Op.binOp Go.BinOp.add 9 (Go.Operand.tmp 63) (Go.Operand.tmp 70) 9, type := 9, pos := "ref.go:56", after := #[{ on := 8, ground := Go.Ground.data }, { on := 15, ground := Go.Ground.data }], guard := none }) (v := ?_) rfl (by kernel_rfl) (by kernel_rfl) rfl ?_ ?_); rotate_left; focus (intro W hW; (try dsimp only at hW); go_split_ands; go_simp; (try (simp (disch := omega) only [IntWalk.i64_in]; (try go_simp))); (try (split; (next => omega); (try go_simp))); try rfl; done))
          try simp only [Act.put, List.setIfInBounds_toArray, List.set_cons_zero, List.set_cons_succ]
          ((refine pl_yes (i := 17) (oi := { dst := some 4, op := Go.Op.assign (Go.Operand.tmp 71), type := 9, pos := "ref.go:56", after := #[{ on := 16, ground := Go.Ground.data }, { on := 15, ground := Go.Ground.chain }, { on := 0, ground := Go.Ground.phase }, { on := 1, ground := Go.Ground.phase }, { on := 2, ground := Go.Ground.phase }, { on := 3, ground := Go.Ground.phase }, { on := 4, ground := Go.Ground.phase }, { on := 5, ground := Go.Ground.phase }, { on := 6, ground := Go.Ground.phase }, { on := 7, ground := Go.Ground.phase }, { on := 8, ground := Go.Ground.phase }, { on := 9, ground := Go.Ground.phase }, { on := 10, ground := Go.Ground.phase }, { on := 11, ground := Go.Ground.phase }, { on := 12, ground := Go.Ground.phase }, { on := 13, ground := Go.Ground.phase }, { on := 14, ground := Go.Ground.phase }, { on := 15, ground := Go.Ground.phase }, { on := 16, ground := Go.Ground.phase }], guard := none }) (v := ?_) rfl (by kernel_rfl) (by kernel_rfl) rfl ?_ ?_); rotate_left; focus (intro W hW; (try dsimp only at hW); go_split_ands; go_simp; (try (simp (disch := omega) only [IntWalk.i64_in]; (try go_simp))); (try (split; (next => omega); (try go_simp))); try rfl; done))
          try simp only [Act.put, List.setIfInBounds_toArray, List.set_cons_zero, List.set_cons_succ]
          -- ready: []
          refine pl_done (by kernel_rfl)  ?_
          rintro w7 ⟨hc7, _, _, _⟩
          have hc7 := hc6.trans ((Chg.refl No wr).drew.trans hc7)
          go_wp2_with (first | (with_reducible refine stop_append ?_) | (with_reducible refine stop_copy ?_) | (with_reducible refine stop_make ?_) | (with_reducible refine stop_lookup ?_) | (with_reducible refine stop_update ?_) | (with_reducible refine stop_slice ?_) | (with_reducible refine stop_range ?_) | (with_reducible refine stop_next ?_) | (with_reducible refine stop_convert ⟨_, rfl⟩ ?_) | (with_reducible refine stop_convertB ⟨_, _, _, rfl⟩ ?_) | (with_reducible refine stop_eqSlice ⟨_, _, rfl⟩ ?_))
          go_roundw
          case rel => exact ⟨k + 1, s2 ++ sf ++ sv, by omega, by go_num, rfl, by rw [Hsn.out, Hs2.out, Hsf.out, Hsv.out, ByteArray.append_assoc, ByteArray.append_assoc]; congr 1; rw [ba_append, ba_append]; simp [encW, encs], hc7⟩
          case measure => simp [intOf]; omega
        · obtain rfl : k = ws.length := by omega
          rw [List.take_length] at Hs2
          have hfin : Value.string s2 = str (encTx id rs ws) := by
            rw [Hs2.out, Hs1.out, Hs.out, Hsm.out, ba_append, ba_append, ← HE0.out]; simp [str, encTx, encs]
          have Hfin := Lib.hid hfin
          have hcw := hc01.trans hc6
          clear hfin hw1 hlt hpl
          go_wp2_with (first | (with_reducible refine stop_append ?_) | (with_reducible refine stop_copy ?_) | (with_reducible refine stop_make ?_) | (with_reducible refine stop_lookup ?_) | (with_reducible refine stop_update ?_) | (with_reducible refine stop_slice ?_) | (with_reducible refine stop_range ?_) | (with_reducible refine stop_next ?_) | (with_reducible refine stop_convert ⟨_, rfl⟩ ?_) | (with_reducible refine stop_convertB ⟨_, _, _, rfl⟩ ?_) | (with_reducible refine stop_eqSlice ⟨_, _, rfl⟩ ?_))
          go_ret2
          exact ⟨by rw [← Hfin.out]; rfl, hcw⟩
end Go.Proofs.Ytnioljagmimojaa
