/- Walks of the document's object: written. -/
import Derived.Test.YtnioljagmimojaaRefG
set_option linter.unusedVariables false
set_option linter.unusedSimpArgs false
namespace Go.Proofs.Ytnioljagmimojaa
open Go.RowKit Cb

def stepW (c : RCell) (acc : List RCell × Bool) (x : RCell) : List RCell × Bool :=
  let a := if acc.2 = false ∧ c.1 ≤ x.1 then (acc.1 ++ [c], true) else acc
  if x.1 = c.1 then a else (a.1 ++ [x], a.2)
theorem stepW_no {c x : RCell} {acc : List RCell × Bool} (h : ¬ (acc.2 = false ∧ c.1 ≤ x.1)) : stepW c acc x = if x.1 = c.1 then acc else (acc.1 ++ [x], acc.2) := by
  unfold stepW; rw [if_neg h]
theorem stepW_yes {c x : RCell} {acc : List RCell × Bool} (h : acc.2 = false ∧ c.1 ≤ x.1) : stepW c acc x = if x.1 = c.1 then (acc.1 ++ [c], true) else (acc.1 ++ [c] ++ [x], true) := by
  unfold stepW; rw [if_pos h]
def endW (c : RCell) (acc : List RCell × Bool) : List RCell := if acc.2 then acc.1 else acc.1 ++ [c]
def newC (l : List RCell) (x : Int × ByteArray) : RCell := (x.1, (getL l x.1).2.1 + 1, x.2)
def writtenL (l : List RCell) (x : Int × ByteArray) : List RCell := endW (newC l x) (l.foldl (stepW (newC l x)) ([], false))
theorem foldW_snoc (c : RCell) (l : List RCell) (k : Nat) (h : k < l.length) : (l.take (k + 1)).foldl (stepW c) ([], false) = stepW c ((l.take k).foldl (stepW c) ([], false)) l[k] := by
  rw [List.take_succ_eq_append_getElem h, List.foldl_append]; rfl
theorem rcell_cs (F : Nat → Prop) (w : World) (x : RCell) : Rep.cs F w x [.int .i64 x.1, .int .i64 x.2.1, .string x.2.2] := ⟨[.int .i64 x.1], [.int .i64 x.2.1, .string x.2.2], rfl, rfl, [.int .i64 x.2.1], [.string x.2.2], rfl, rfl, rfl⟩
set_option maxRecDepth 100000 in
set_option maxHeartbeats 4000000 in
theorem written_any (F : Nat → Prop) (v : Value) (l : List RCell) (wf : Int) (wv : ByteArray) (w : World) (h : Sl F w v l) (hl : l.length ≤ 100000) (hv0 : 0 ≤ (getL l wf).2.1) (hv1 : (getL l wf).2.1 ≤ 1000000000) :
    Calls Try.prog 57 #[v, .agg #[.int .i64 wf, .string wv]] w fun e w' => ∃ v', e = .returned v' ∧ Chg No w w' ∧ Sl (Lt w.heap.size) w' v' (writtenL l (wf, wv)) := by
  obtain ⟨A, cA, rfl⟩ := h.slice
  have hcr : ∃ c, c = newC l (wf, wv) := ⟨_, rfl⟩
  obtain ⟨c, hc⟩ := hcr
  obtain ⟨ver, hver⟩ : ∃ n, n = (getL l wf).2.1 := ⟨_, rfl⟩
  rw [← hver] at hv0 hv1
  have hc1 : c = (wf, ver + 1, wv) := by rw [hc, hver]; rfl
  have gt : ∀ W, Chg No w W → Calls Try.prog 30 #[.slice A l.length cA, .int .i64 wf] W fun e w' => (∃ a b, e = .returned (.agg #[.int .i64 a, .int .i64 ver, .string b])) ∧ Chg No W w' := fun W hW =>
    (getref_any F _ l wf W (h.keepNo hW) (by omega)).mono (fun e w' ⟨he, hc⟩ => ⟨⟨(getL l wf).1, (getL l wf).2.2, he.trans (by rw [hver]; rfl)⟩, hc⟩)
  have H := Lib.hid h; have Hc := Lib.hid hc; have Gt := Lib.hid gt
  clear h hc gt hver
  have o3 := alloc_obj w (.cells #[.int .i64 wf, .string wv] 59)
  have hc0 := (Chg.refl No w).alloc (.cells #[.int .i64 wf, .string wv] 59)
  go_enter Try.func57, Try.ntmps57
  go_wp2_with (first | (with_reducible refine stop_append ?_) | (with_reducible refine stop_copy ?_) | (with_reducible refine stop_make ?_) | (with_reducible refine stop_lookup ?_) | (with_reducible refine stop_update ?_) | (with_reducible refine stop_slice ?_) | (with_reducible refine stop_range ?_) | (with_reducible refine stop_next ?_) | (with_reducible refine stop_convert ⟨_, rfl⟩ ?_) | (with_reducible refine stop_convertB ⟨_, _, _, rfl⟩ ?_) | (with_reducible refine stop_eqSlice ⟨_, _, rfl⟩ ?_))
  generalize w.alloc (.cells #[.int .i64 wf, .string wv] 59) = w0 at *
  obtain ⟨q3, hq⟩ : ∃ q, q = w.heap.size := ⟨_, rfl⟩
  rw [← hq] at o3 ⊢
  have hq3 : w.heap.size ≤ q3 := by omega
  have hq3l := lt_of_heap o3
  clear hq
  have hS : ∀ W, Chg No w0 W → (fun W => W.cell? ⟨q3, 0, none⟩ = some (.int .i64 wf) ∧ W.cell? ⟨q3, 1, none⟩ = some (.string wv)) W := fun W hW => ⟨cell_obj (hW.obj o3 (not_no _)) rfl, cell_obj (hW.obj o3 (not_no _)) rfl⟩
  have HS := Lib.hid hS
  clear hS
  have cd := (Chg.refl No w0).drew
  refine rt_start (fun W => W.cell? ⟨q3, 0, none⟩ = some (.int .i64 wf) ∧ W.cell? ⟨q3, 1, none⟩ = some (.string wv)) (by kernel_rfl) ?_
  ((refine rt_yes (i := 0) (oi := { dst := some 9, op := Go.Op.fieldAddr 59 (Go.Operand.tmp 3) 0, type := 0, pos := "ref.go:117", after := #[], guard := none }) (v := ?_) rfl (by kernel_rfl) (by kernel_rfl) (by kernel_rfl) (fun _ _ _ h => h) rfl ?_ ?_); rotate_left; focus (intro W hW; (try dsimp only at hW); go_split_ands; go_simp; (try (simp (disch := omega) only [IntWalk.i64_in]; (try go_simp))); (try (split; (next => omega); (try go_simp))); try rfl; done))
  try simp only [Act.put, List.setIfInBounds_toArray, List.set_cons_zero, List.set_cons_succ]
  ((refine rt_yes (i := 1) (oi := { dst := some 10, op := Go.Op.load 3 (Go.Operand.tmp 9), type := 3, pos := "ref.go:117", after := #[{ on := 0, ground := Go.Ground.data }], guard := none }) (v := ?_) rfl (by kernel_rfl) (by kernel_rfl) (by kernel_rfl) (fun _ _ _ h => h) rfl ?_ ?_); rotate_left; focus (intro W hW; (try dsimp only at hW); go_split_ands; go_simp; (try (simp (disch := omega) only [IntWalk.i64_in]; (try go_simp))); (try (split; (next => omega); (try go_simp))); try rfl; done))
  try simp only [Act.put, List.setIfInBounds_toArray, List.set_cons_zero, List.set_cons_succ]
  ((refine rt_yes (i := 2) (oi := { dst := some 11, op := Go.Op.move (Go.Operand.tmp 0), type := 67, pos := "ref.go:117", after := #[], guard := none }) (v := ?_) rfl (by kernel_rfl) (by kernel_rfl) (by kernel_rfl) (fun _ _ _ h => h) rfl ?_ ?_); rotate_left; focus (intro W hW; (try dsimp only at hW); go_split_ands; go_simp; (try (simp (disch := omega) only [IntWalk.i64_in]; (try go_simp))); (try (split; (next => omega); (try go_simp))); try rfl; done))
  try simp only [Act.put, List.setIfInBounds_toArray, List.set_cons_zero, List.set_cons_succ]
  ((refine rt_yes (i := 3) (oi := { dst := some 12, op := Go.Op.fieldAddr 59 (Go.Operand.tmp 3) 0, type := 0, pos := "ref.go:117", after := #[], guard := none }) (v := ?_) rfl (by kernel_rfl) (by kernel_rfl) (by kernel_rfl) (fun _ _ _ h => h) rfl ?_ ?_); rotate_left; focus (intro W hW; (try dsimp only at hW); go_split_ands; go_simp; (try (simp (disch := omega) only [IntWalk.i64_in]; (try go_simp))); (try (split; (next => omega); (try go_simp))); try rfl; done))
  try simp only [Act.put, List.setIfInBounds_toArray, List.set_cons_zero, List.set_cons_succ]
  ((refine rt_yes (i := 4) (oi := { dst := some 13, op := Go.Op.load 3 (Go.Operand.tmp 12), type := 3, pos := "ref.go:117", after := #[{ on := 3, ground := Go.Ground.data }], guard := none }) (v := ?_) rfl (by kernel_rfl) (by kernel_rfl) (by kernel_rfl) (fun _ _ _ h => h) rfl ?_ ?_); rotate_left; focus (intro W hW; (try dsimp only at hW); go_split_ands; go_simp; (try (simp (disch := omega) only [IntWalk.i64_in]; (try go_simp))); (try (split; (next => omega); (try go_simp))); try rfl; done))
  try simp only [Act.put, List.setIfInBounds_toArray, List.set_cons_zero, List.set_cons_succ]
  ((refine rt_yes (i := 8) (oi := { dst := some 17, op := Go.Op.fieldAddr 59 (Go.Operand.tmp 3) 1, type := 0, pos := "ref.go:117", after := #[], guard := none }) (v := ?_) rfl (by kernel_rfl) (by kernel_rfl) (by kernel_rfl) (fun _ _ _ h => h) rfl ?_ ?_); rotate_left; focus (intro W hW; (try dsimp only at hW); go_split_ands; go_simp; (try (simp (disch := omega) only [IntWalk.i64_in]; (try go_simp))); (try (split; (next => omega); (try go_simp))); try rfl; done))
  try simp only [Act.put, List.setIfInBounds_toArray, List.set_cons_zero, List.set_cons_succ]
  ((refine rt_yes (i := 9) (oi := { dst := some 18, op := Go.Op.load 9 (Go.Operand.tmp 17), type := 9, pos := "ref.go:117", after := #[{ on := 8, ground := Go.Ground.data }], guard := none }) (v := ?_) rfl (by kernel_rfl) (by kernel_rfl) (by kernel_rfl) (fun _ _ _ h => h) rfl ?_ ?_); rotate_left; focus (intro W hW; (try dsimp only at hW); go_split_ands; go_simp; (try (simp (disch := omega) only [IntWalk.i64_in]; (try go_simp))); (try (split; (next => omega); (try go_simp))); try rfl; done))
  try simp only [Act.put, List.setIfInBounds_toArray, List.set_cons_zero, List.set_cons_succ]
  -- ready: [5, 11]
  refine rt_two (i := 5) (j := 11) (oi := { dst := some 14, op := Go.Op.call { callee := Go.Callee.value (Go.Operand.func 30), args := #[Go.Operand.tmp 11, Go.Operand.tmp 13], argTypes := #[67, 3] }, type := 71, pos := "ref.go:117", after := #[{ on := 2, ground := Go.Ground.data }, { on := 4, ground := Go.Ground.data }], guard := none }) (oj := { dst := some 5, op := Go.Op.alloc 71, type := 0, pos := "ref.go:117", after := #[], guard := none }) (by kernel_rfl) (HS.out _ cd) rfl rfl rfl rfl (fun K hK => ?_) (fun K hK => ?_)
  rotate_left
  focus
    go_simp
    refine hK _ _ ?_
    clear hK K
    try simp only [Act.put, List.setIfInBounds_toArray, List.set_cons_zero, List.set_cons_succ]
    -- ready: [5]
    have o5 := (Chg.refl No (w0.alloc (.cells #[.int .i64 0, .int .i64 0, .string ⟨#[]⟩] 71))).drew.obj (alloc_obj w0 (.cells #[.int .i64 0, .int .i64 0, .string ⟨#[]⟩] 71)) (not_no _)
    have cdA : Chg No w0 (w0.alloc (.cells #[.int .i64 0, .int .i64 0, .string ⟨#[]⟩] 71)).drew := ((Chg.refl No w0).alloc (.cells #[.int .i64 0, .int .i64 0, .string ⟨#[]⟩] 71)).drew
    generalize w0.alloc (.cells #[.int .i64 0, .int .i64 0, .string ⟨#[]⟩] 71) = wB at *
    obtain ⟨q5, hq⟩ : ∃ q, q = w0.heap.size := ⟨_, rfl⟩
    rw [← hq] at o5 ⊢
    have hq5 : w0.heap.size ≤ q5 := by omega
    clear hq
    refine rt_k (fun W => W.cell? ⟨q3, 0, none⟩ = some (.int .i64 wf) ∧ W.cell? ⟨q3, 1, none⟩ = some (.string wv)) (i := 5) (oi := { dst := some 14, op := Go.Op.call { callee := Go.Callee.value (Go.Operand.func 30), args := #[Go.Operand.tmp 11, Go.Operand.tmp 13], argTypes := #[67, 3] }, type := 71, pos := "ref.go:117", after := #[{ on := 2, ground := Go.Ground.data }, { on := 4, ground := Go.Ground.data }], guard := none }) (by kernel_rfl) (HS.out _ cdA) (fun _ h => h) rfl (by rfl) (fun K hK => ?_)
    go_simp
    refine (Gt.out _ (hc0.trans cdA)).mono ?_
    rintro e w7 ⟨⟨ga, gb, rfl⟩, hc7⟩
    have cd7 := cdA.trans hc7
    have o5 := hc7.obj o5 (not_no _)
    clear hc7 cdA
    refine hK _ _ ?_
    clear hK K
    try simp only [Act.put, List.setIfInBounds_toArray, List.set_cons_zero, List.set_cons_succ]
    ((refine rt_yes (i := 6) (oi := { dst := some 15, op := Go.Op.field 71 (Go.Operand.tmp 14) 1, type := 3, pos := "ref.go:117", after := #[{ on := 5, ground := Go.Ground.data }], guard := none }) (v := ?_) rfl (by kernel_rfl) (by kernel_rfl) (by kernel_rfl) (fun _ _ _ h => h) rfl ?_ ?_); rotate_left; focus (intro W hW; (try dsimp only at hW); go_split_ands; go_simp; (try (simp (disch := omega) only [IntWalk.i64_in]; (try go_simp))); (try (split; (next => omega); (try go_simp))); try rfl; done))
    try simp only [Act.put, List.setIfInBounds_toArray, List.set_cons_zero, List.set_cons_succ]
    ((refine rt_yes (i := 7) (oi := { dst := some 16, op := Go.Op.binOp Go.BinOp.add 3 (Go.Operand.tmp 15) (Go.Operand.const (Go.Value.int Go.IntKind.i64 1)) 3, type := 3, pos := "ref.go:117", after := #[{ on := 6, ground := Go.Ground.data }], guard := none }) (v := ?_) rfl (by kernel_rfl) (by kernel_rfl) (by kernel_rfl) (fun _ _ _ h => h) rfl ?_ ?_); rotate_left; focus (intro W hW; (try dsimp only at hW); go_split_ands; go_simp; (try (simp (disch := omega) only [IntWalk.i64_in]; (try go_simp))); (try (split; (next => omega); (try go_simp))); try rfl; done))
    try simp only [Act.put, List.setIfInBounds_toArray, List.set_cons_zero, List.set_cons_succ]
    ((refine rt_yes (i := 10) (oi := { dst := some 19, op := Go.Op.build 71 #[(0, Go.Operand.tmp 10), (1, Go.Operand.tmp 16), (2, Go.Operand.tmp 18)], type := 71, pos := "ref.go:117", after := #[{ on := 1, ground := Go.Ground.data }, { on := 7, ground := Go.Ground.data }, { on := 9, ground := Go.Ground.data }], guard := none }) (v := ?_) rfl (by kernel_rfl) (by kernel_rfl) (by kernel_rfl) (fun _ _ _ h => h) rfl ?_ ?_); rotate_left; focus (intro W hW; (try dsimp only at hW); go_split_ands; go_simp; (try (simp (disch := omega) only [IntWalk.i64_in]; (try go_simp))); (try (split; (next => omega); (try go_simp))); try rfl; done))
    try simp only [Act.put, List.setIfInBounds_toArray, List.set_cons_zero, List.set_cons_succ]
    -- ready: [12]
    have z0 := cell_obj (i := 0) o5 rfl
    have z1 := cell_obj (i := 1) o5 rfl
    have z2 := cell_obj (i := 2) o5 rfl
    have f0 := free_obj (i := 0) o5
    have f1 := free_obj (i := 1) o5
    have f2 := free_obj (i := 2) o5
    refine rt_k (fun W => W.cell? ⟨q3, 0, none⟩ = some (.int .i64 wf) ∧ W.cell? ⟨q3, 1, none⟩ = some (.string wv)) (i := 12) (oi := { dst := none, op := Go.Op.store 71 (Go.Operand.tmp 5) (Go.Operand.tmp 19), type := 0, pos := "ref.go:117", after := #[{ on := 11, ground := Go.Ground.data }, { on := 10, ground := Go.Ground.data }, { on := 5, ground := Go.Ground.chain }, { on := 0, ground := Go.Ground.phase }, { on := 1, ground := Go.Ground.phase }, { on := 2, ground := Go.Ground.phase }, { on := 3, ground := Go.Ground.phase }, { on := 4, ground := Go.Ground.phase }, { on := 5, ground := Go.Ground.phase }, { on := 6, ground := Go.Ground.phase }, { on := 7, ground := Go.Ground.phase }, { on := 8, ground := Go.Ground.phase }, { on := 9, ground := Go.Ground.phase }, { on := 10, ground := Go.Ground.phase }, { on := 11, ground := Go.Ground.phase }], guard := none }) (by kernel_rfl) (HS.out _ cd7) (fun _ h => h) rfl (by rfl) (fun K hK => ?_)
    go_simp
    refine hK _ _ ?_
    clear hK K
    try simp only [Act.put, List.setIfInBounds_toArray, List.set_cons_zero, List.set_cons_succ]
    -- ready: []
    refine rt_done (by kernel_rfl)  ?_
    obtain ⟨p5, hcu⟩ := store3 o5 (.int .i64 wf) (.int .i64 (ver + 1)) (.string wv)
    have hcu : Chg No w0 (((w7.setCell ⟨q5, 0, none⟩ (.int .i64 wf)).setCell ⟨q5, 1, none⟩ (.int .i64 (ver + 1))).setCell ⟨q5, 2, none⟩ (.string wv)) := cd7.old hcu (fun i h => by simp only [At] at h; omega)
    clear z0 z1 z2 f0 f1 f2 o5 cd7
    generalize (((w7.setCell ⟨q5, 0, none⟩ (.int .i64 wf)).setCell ⟨q5, 1, none⟩ (.int .i64 (ver + 1))).setCell ⟨q5, 2, none⟩ (.string wv)) = u at p5 hcu ⊢
  rotate_left
  focus
    go_simp
    refine (Gt.out _ (hc0.trans cd)).mono ?_
    rintro e w6 ⟨⟨ga, gb, rfl⟩, hc6⟩
    have cd6 := cd.trans hc6
    clear hc6
    refine hK _ _ ?_
    clear hK K
    try simp only [Act.put, List.setIfInBounds_toArray, List.set_cons_zero, List.set_cons_succ]
    ((refine rt_yes (i := 6) (oi := { dst := some 15, op := Go.Op.field 71 (Go.Operand.tmp 14) 1, type := 3, pos := "ref.go:117", after := #[{ on := 5, ground := Go.Ground.data }], guard := none }) (v := ?_) rfl (by kernel_rfl) (by kernel_rfl) (by kernel_rfl) (fun _ _ _ h => h) rfl ?_ ?_); rotate_left; focus (intro W hW; (try dsimp only at hW); go_split_ands; go_simp; (try (simp (disch := omega) only [IntWalk.i64_in]; (try go_simp))); (try (split; (next => omega); (try go_simp))); try rfl; done))
    try simp only [Act.put, List.setIfInBounds_toArray, List.set_cons_zero, List.set_cons_succ]
    ((refine rt_yes (i := 7) (oi := { dst := some 16, op := Go.Op.binOp Go.BinOp.add 3 (Go.Operand.tmp 15) (Go.Operand.const (Go.Value.int Go.IntKind.i64 1)) 3, type := 3, pos := "ref.go:117", after := #[{ on := 6, ground := Go.Ground.data }], guard := none }) (v := ?_) rfl (by kernel_rfl) (by kernel_rfl) (by kernel_rfl) (fun _ _ _ h => h) rfl ?_ ?_); rotate_left; focus (intro W hW; (try dsimp only at hW); go_split_ands; go_simp; (try (simp (disch := omega) only [IntWalk.i64_in]; (try go_simp))); (try (split; (next => omega); (try go_simp))); try rfl; done))
    try simp only [Act.put, List.setIfInBounds_toArray, List.set_cons_zero, List.set_cons_succ]
    ((refine rt_yes (i := 10) (oi := { dst := some 19, op := Go.Op.build 71 #[(0, Go.Operand.tmp 10), (1, Go.Operand.tmp 16), (2, Go.Operand.tmp 18)], type := 71, pos := "ref.go:117", after := #[{ on := 1, ground := Go.Ground.data }, { on := 7, ground := Go.Ground.data }, { on := 9, ground := Go.Ground.data }], guard := none }) (v := ?_) rfl (by kernel_rfl) (by kernel_rfl) (by kernel_rfl) (fun _ _ _ h => h) rfl ?_ ?_); rotate_left; focus (intro W hW; (try dsimp only at hW); go_split_ands; go_simp; (try (simp (disch := omega) only [IntWalk.i64_in]; (try go_simp))); (try (split; (next => omega); (try go_simp))); try rfl; done))
    try simp only [Act.put, List.setIfInBounds_toArray, List.set_cons_zero, List.set_cons_succ]
    -- ready: [11]
    refine rt_k (fun W => W.cell? ⟨q3, 0, none⟩ = some (.int .i64 wf) ∧ W.cell? ⟨q3, 1, none⟩ = some (.string wv)) (i := 11) (oi := { dst := some 5, op := Go.Op.alloc 71, type := 0, pos := "ref.go:117", after := #[], guard := none }) (by kernel_rfl) (HS.out _ cd6) (fun _ h => h) rfl (by rfl) (fun K hK => ?_)
    go_simp
    refine hK _ _ ?_
    clear hK K
    try simp only [Act.put, List.setIfInBounds_toArray, List.set_cons_zero, List.set_cons_succ]
    -- ready: [12]
    have o5 := alloc_obj w6 (.cells #[.int .i64 0, .int .i64 0, .string ⟨#[]⟩] 71)
    have cd7 := cd6.alloc (.cells #[.int .i64 0, .int .i64 0, .string ⟨#[]⟩] 71)
    have hq5 : w0.heap.size ≤ w6.heap.size := cd6.size
    generalize w6.alloc (.cells #[.int .i64 0, .int .i64 0, .string ⟨#[]⟩] 71) = w7 at *
    generalize w6.heap.size = q5 at *
    have z0 := cell_obj (i := 0) o5 rfl
    have z1 := cell_obj (i := 1) o5 rfl
    have z2 := cell_obj (i := 2) o5 rfl
    have f0 := free_obj (i := 0) o5
    have f1 := free_obj (i := 1) o5
    have f2 := free_obj (i := 2) o5
    refine rt_k (fun W => W.cell? ⟨q3, 0, none⟩ = some (.int .i64 wf) ∧ W.cell? ⟨q3, 1, none⟩ = some (.string wv)) (i := 12) (oi := { dst := none, op := Go.Op.store 71 (Go.Operand.tmp 5) (Go.Operand.tmp 19), type := 0, pos := "ref.go:117", after := #[{ on := 11, ground := Go.Ground.data }, { on := 10, ground := Go.Ground.data }, { on := 5, ground := Go.Ground.chain }, { on := 0, ground := Go.Ground.phase }, { on := 1, ground := Go.Ground.phase }, { on := 2, ground := Go.Ground.phase }, { on := 3, ground := Go.Ground.phase }, { on := 4, ground := Go.Ground.phase }, { on := 5, ground := Go.Ground.phase }, { on := 6, ground := Go.Ground.phase }, { on := 7, ground := Go.Ground.phase }, { on := 8, ground := Go.Ground.phase }, { on := 9, ground := Go.Ground.phase }, { on := 10, ground := Go.Ground.phase }, { on := 11, ground := Go.Ground.phase }], guard := none }) (by kernel_rfl) (HS.out _ cd7) (fun _ h => h) rfl (by rfl) (fun K hK => ?_)
    go_simp
    refine hK _ _ ?_
    clear hK K
    try simp only [Act.put, List.setIfInBounds_toArray, List.set_cons_zero, List.set_cons_succ]
    -- ready: []
    refine rt_done (by kernel_rfl)  ?_
    obtain ⟨p5, hcu⟩ := store3 o5 (.int .i64 wf) (.int .i64 (ver + 1)) (.string wv)
    have hcu : Chg No w0 (((w7.setCell ⟨q5, 0, none⟩ (.int .i64 wf)).setCell ⟨q5, 1, none⟩ (.int .i64 (ver + 1))).setCell ⟨q5, 2, none⟩ (.string wv)) := cd7.old hcu (fun i h => by simp only [At] at h; omega)
    clear z0 z1 z2 f0 f1 f2 o5 cd7 cd6
    generalize (((w7.setCell ⟨q5, 0, none⟩ (.int .i64 wf)).setCell ⟨q5, 1, none⟩ (.int .i64 (ver + 1))).setCell ⟨q5, 2, none⟩ (.string wv)) = u at p5 hcu ⊢
  all_goals
    clear cd HS Gt
    have hc0u := hc0.trans hcu
    have p3 := hcu.obj o3 (not_no _)
    have hq5l := lt_of_heap p5
    have hq3u := lt_of_heap p3
    go_wp2_with (first | (with_reducible refine stop_append ?_) | (with_reducible refine stop_copy ?_) | (with_reducible refine stop_make ?_) | (with_reducible refine stop_lookup ?_) | (with_reducible refine stop_update ?_) | (with_reducible refine stop_slice ?_) | (with_reducible refine stop_range ?_) | (with_reducible refine stop_next ?_) | (with_reducible refine stop_convert ⟨_, rfl⟩ ?_) | (with_reducible refine stop_convertB ⟨_, _, _, rfl⟩ ?_) | (with_reducible refine stop_eqSlice ⟨_, _, rfl⟩ ?_))
    go_loopw [6, 7, 8] (fun v6 v7 v8 wr => ∃ (k : Nat) (v : Value) (o : List RCell) (d : Bool), k ≤ l.length ∧ v8 = .int .i64 k ∧ v7 = .bool d ∧ v6 = v ∧ (l.take k).foldl (stepW c) ([], false) = (o, d) ∧ o.length ≤ 2 * k ∧ Own No wr u.heap.size 71 v o ∧ Chg No u wr) (fun _ _ v8 _ => l.length - (intOf v8).toNat)
    case atStart => exact ⟨0, _, [], false, by omega, rfl, rfl, rfl, rfl, by simp, Own.nil _ _ _ _, Chg.refl _ _⟩
    case round =>
      obtain ⟨k, vo, o, d, hk, rfl, rfl, rfl, hfo, hol, hown, hcr⟩ := hrel
      have Hfo := Lib.hid hfo; have Hown := Lib.hid hown
      clear hfo hown
      have p3r := hcr.obj p3 (not_no _)
      have p5r := hcr.obj p5 (not_no _)
      have hbase : u.heap.size ≤ wr.heap.size := hcr.size
      by_cases hlt : k < l.length
      · obtain ⟨b, of, dd, rfl, _, hbl, ⟨_, _, rfl, rfl, _, _, rfl, rfl, rfl⟩, ha⟩ := H.out.get k hlt
        have ha0 := ha 0 _ rfl
        have ha1 := ha 1 _ rfl
        have ha2 := ha 2 _ rfl
        simp only [show Rep.n RCell = 3 from rfl, Nat.add_zero] at ha0 ha1 ha2
        have Hsn := Lib.hid (foldW_snoc c l k hlt)
        clear ha
        generalize l[k] = x at ha0 ha1 ha2 Hsn
        obtain ⟨x0, x1, x2⟩ := x
        simp only at ha0 ha1 ha2
        have hel : ∀ W, Chg No u W → W.cell? ⟨b, of + k * 3, none⟩ = some (.int .i64 x0) ∧ W.cell? ⟨b, of + k * 3 + 1, none⟩ = some (.int .i64 x1) ∧ W.cell? ⟨b, of + k * 3 + 2, none⟩ = some (.string x2) ∧ W.cell? ⟨q3, 0, none⟩ = some (.int .i64 wf) ∧ W.cell? ⟨q5, 0, none⟩ = some (.int .i64 wf) ∧ W.cell? ⟨q5, 1, none⟩ = some (.int .i64 (ver + 1)) ∧ W.cell? ⟨q5, 2, none⟩ = some (.string wv) := fun W hW =>
          ⟨(hc0u.trans hW).cell ha0 (not_no _), (hc0u.trans hW).cell ha1 (not_no _), (hc0u.trans hW).cell ha2 (not_no _), cell_obj (hW.obj p3 (not_no _)) rfl, cell_obj (hW.obj p5 (not_no _)) rfl, cell_obj (hW.obj p5 (not_no _)) rfl, cell_obj (hW.obj p5 (not_no _)) rfl⟩
        have Hel := Lib.hid hel
        clear hel ha0 ha1 ha2
        have hS7 : ∀ W, Chg No u W → (fun W => W.cell? ⟨q3, 0, none⟩ = some (.int .i64 wf) ∧ W.cell? ⟨b, of + k * 3, none⟩ = some (.int .i64 x0)) W := fun W hW => ⟨(Hel.out W hW).2.2.2.1, (Hel.out W hW).1⟩
        have HS7 := Lib.hid hS7
        clear hS7
        have hcase : (d = true) ∨ (d = false ∧ wf ≤ x0) ∨ (d = false ∧ ¬ wf ≤ x0) := by
          cases d
          · by_cases h : wf ≤ x0
            · exact .inr (.inl ⟨rfl, h⟩)
            · exact .inr (.inr ⟨rfl, h⟩)
          · exact .inl rfl
        have hcd := hcr.drew
        rcases hcase with rfl | ⟨rfl, hge⟩ | ⟨rfl, hge⟩
        focus
          go_wp2_with (first | (with_reducible refine stop_append ?_) | (with_reducible refine stop_copy ?_) | (with_reducible refine stop_make ?_) | (with_reducible refine stop_lookup ?_) | (with_reducible refine stop_update ?_) | (with_reducible refine stop_slice ?_) | (with_reducible refine stop_range ?_) | (with_reducible refine stop_next ?_) | (with_reducible refine stop_convert ⟨_, rfl⟩ ?_) | (with_reducible refine stop_convertB ⟨_, _, _, rfl⟩ ?_) | (with_reducible refine stop_eqSlice ⟨_, _, rfl⟩ ?_))
          refine reg_start (fun W => W.cell? ⟨q3, 0, none⟩ = some (.int .i64 wf) ∧ W.cell? ⟨b, of + k * 3, none⟩ = some (.int .i64 x0)) (by kernel_rfl) ?_
          ((refine reg_yes (i := 0) (oi := { dst := some 26, op := Go.Op.move (Go.Operand.tmp 7), type := 4, pos := "ref.go:121", after := #[], guard := none }) (v := ?_) rfl (by kernel_rfl) (by kernel_rfl) (by kernel_rfl) (fun _ _ _ h => h) rfl ?_ ?_); rotate_left; focus (intro W hW; (try dsimp only at hW); go_split_ands; go_simp; (try (simp (disch := omega) only [IntWalk.i64_in]; (try go_simp))); (try (split; (next => omega); (try go_simp))); try rfl; done))
          try simp only [Act.put, List.setIfInBounds_toArray, List.set_cons_zero, List.set_cons_succ]
          ((refine reg_yes (i := 1) (oi := { dst := some 27, op := Go.Op.unOp Go.UnOp.not 4 (Go.Operand.tmp 26), type := 4, pos := "ref.go:121", after := #[{ on := 0, ground := Go.Ground.data }], guard := none }) (v := ?_) rfl (by kernel_rfl) (by kernel_rfl) (by kernel_rfl) (fun _ _ _ h => h) rfl ?_ ?_); rotate_left; focus (intro W hW; (try dsimp only at hW); go_split_ands; go_simp; (try (simp (disch := omega) only [IntWalk.i64_in]; (try go_simp))); (try (split; (next => omega); (try go_simp))); try rfl; done))
          try simp only [Act.put, List.setIfInBounds_toArray, List.set_cons_zero, List.set_cons_succ]
          ((refine reg_yes (i := 2) (oi := { dst := some 28, op := Go.Op.move (Go.Operand.tmp 27), type := 4, pos := "ref.go:121", after := #[{ on := 1, ground := Go.Ground.data }], guard := none }) (v := ?_) rfl (by kernel_rfl) (by kernel_rfl) (by kernel_rfl) (fun _ _ _ h => h) rfl ?_ ?_); rotate_left; focus (intro W hW; (try dsimp only at hW); go_split_ands; go_simp; (try (simp (disch := omega) only [IntWalk.i64_in]; (try go_simp))); (try (split; (next => omega); (try go_simp))); try rfl; done))
          try simp only [Act.put, List.setIfInBounds_toArray, List.set_cons_zero, List.set_cons_succ]
          first | (refine reg_no (i := 3) (oi := { dst := some 29, op := Go.Op.move (Go.Operand.tmp 0), type := 67, pos := "ref.go:121", after := #[{ on := 2, ground := Go.Ground.guard }], guard := some (2, true) }) rfl (by kernel_rfl) (by kernel_rfl) (by kernel_rfl) (fun _ _ _ h => h) rfl ?_) | ((refine reg_yes (i := 3) (oi := { dst := some 29, op := Go.Op.move (Go.Operand.tmp 0), type := 67, pos := "ref.go:121", after := #[{ on := 2, ground := Go.Ground.guard }], guard := some (2, true) }) (v := ?_) rfl (by kernel_rfl) (by kernel_rfl) (by kernel_rfl) (fun _ _ _ h => h) rfl ?_ ?_); rotate_left; focus (intro W hW; (try dsimp only at hW); go_split_ands; go_simp; (try (simp (disch := omega) only [IntWalk.i64_in]; (try go_simp))); (try (split; (next => omega); (try go_simp))); try rfl; done))
          try simp only [Act.put, List.setIfInBounds_toArray, List.set_cons_zero, List.set_cons_succ]
          first | (refine reg_no (i := 4) (oi := { dst := some 30, op := Go.Op.move (Go.Operand.tmp 8), type := 3, pos := "ref.go:121", after := #[{ on := 2, ground := Go.Ground.guard }], guard := some (2, true) }) rfl (by kernel_rfl) (by kernel_rfl) (by kernel_rfl) (fun _ _ _ h => h) rfl ?_) | ((refine reg_yes (i := 4) (oi := { dst := some 30, op := Go.Op.move (Go.Operand.tmp 8), type := 3, pos := "ref.go:121", after := #[{ on := 2, ground := Go.Ground.guard }], guard := some (2, true) }) (v := ?_) rfl (by kernel_rfl) (by kernel_rfl) (by kernel_rfl) (fun _ _ _ h => h) rfl ?_ ?_); rotate_left; focus (intro W hW; (try dsimp only at hW); go_split_ands; go_simp; (try (simp (disch := omega) only [IntWalk.i64_in]; (try go_simp))); (try (split; (next => omega); (try go_simp))); try rfl; done))
          try simp only [Act.put, List.setIfInBounds_toArray, List.set_cons_zero, List.set_cons_succ]
          first | (refine reg_no (i := 5) (oi := { dst := some 31, op := Go.Op.indexAddr 67 (Go.Operand.tmp 29) (Go.Operand.tmp 30), type := 0, pos := "ref.go:121", after := #[{ on := 3, ground := Go.Ground.data }, { on := 4, ground := Go.Ground.data }, { on := 2, ground := Go.Ground.guard }], guard := some (2, true) }) rfl (by kernel_rfl) (by kernel_rfl) (by kernel_rfl) (fun _ _ _ h => h) rfl ?_) | ((refine reg_yes (i := 5) (oi := { dst := some 31, op := Go.Op.indexAddr 67 (Go.Operand.tmp 29) (Go.Operand.tmp 30), type := 0, pos := "ref.go:121", after := #[{ on := 3, ground := Go.Ground.data }, { on := 4, ground := Go.Ground.data }, { on := 2, ground := Go.Ground.guard }], guard := some (2, true) }) (v := ?_) rfl (by kernel_rfl) (by kernel_rfl) (by kernel_rfl) (fun _ _ _ h => h) rfl ?_ ?_); rotate_left; focus (intro W hW; (try dsimp only at hW); go_split_ands; go_simp; (try (simp (disch := omega) only [IntWalk.i64_in]; (try go_simp))); (try (split; (next => omega); (try go_simp))); try rfl; done))
          try simp only [Act.put, List.setIfInBounds_toArray, List.set_cons_zero, List.set_cons_succ]
          first | (refine reg_no (i := 6) (oi := { dst := some 32, op := Go.Op.fieldAddr 71 (Go.Operand.tmp 31) 0, type := 0, pos := "ref.go:121", after := #[{ on := 5, ground := Go.Ground.data }, { on := 2, ground := Go.Ground.guard }], guard := some (2, true) }) rfl (by kernel_rfl) (by kernel_rfl) (by kernel_rfl) (fun _ _ _ h => h) rfl ?_) | ((refine reg_yes (i := 6) (oi := { dst := some 32, op := Go.Op.fieldAddr 71 (Go.Operand.tmp 31) 0, type := 0, pos := "ref.go:121", after := #[{ on := 5, ground := Go.Ground.data }, { on := 2, ground := Go.Ground.guard }], guard := some (2, true) }) (v := ?_) rfl (by kernel_rfl) (by kernel_rfl) (by kernel_rfl) (fun _ _ _ h => h) rfl ?_ ?_); rotate_left; focus (intro W hW; (try dsimp only at hW); go_split_ands; go_simp; (try (simp (disch := omega) only [IntWalk.i64_in]; (try go_simp))); (try (split; (next => omega); (try go_simp))); try rfl; done))
          try simp only [Act.put, List.setIfInBounds_toArray, List.set_cons_zero, List.set_cons_succ]
          first | (refine reg_no (i := 7) (oi := { dst := some 33, op := Go.Op.load 3 (Go.Operand.tmp 32), type := 3, pos := "ref.go:121", after := #[{ on := 6, ground := Go.Ground.data }, { on := 2, ground := Go.Ground.guard }], guard := some (2, true) }) rfl (by kernel_rfl) (by kernel_rfl) (by kernel_rfl) (fun _ _ _ h => h) rfl ?_) | ((refine reg_yes (i := 7) (oi := { dst := some 33, op := Go.Op.load 3 (Go.Operand.tmp 32), type := 3, pos := "ref.go:121", after := #[{ on := 6, ground := Go.Ground.data }, { on := 2, ground := Go.Ground.guard }], guard := some (2, true) }) (v := ?_) rfl (by kernel_rfl) (by kernel_rfl) (by kernel_rfl) (fun _ _ _ h => h) rfl ?_ ?_); rotate_left; focus (intro W hW; (try dsimp only at hW); go_split_ands; go_simp; (try (simp (disch := omega) only [IntWalk.i64_in]; (try go_simp))); (try (split; (next => omega); (try go_simp))); try rfl; done))
          try simp only [Act.put, List.setIfInBounds_toArray, List.set_cons_zero, List.set_cons_succ]
          first | (refine reg_no (i := 8) (oi := { dst := some 34, op := Go.Op.fieldAddr 59 (Go.Operand.tmp 3) 0, type := 0, pos := "ref.go:121", after := #[{ on := 2, ground := Go.Ground.guard }], guard := some (2, true) }) rfl (by kernel_rfl) (by kernel_rfl) (by kernel_rfl) (fun _ _ _ h => h) rfl ?_) | ((refine reg_yes (i := 8) (oi := { dst := some 34, op := Go.Op.fieldAddr 59 (Go.Operand.tmp 3) 0, type := 0, pos := "ref.go:121", after := #[{ on := 2, ground := Go.Ground.guard }], guard := some (2, true) }) (v := ?_) rfl (by kernel_rfl) (by kernel_rfl) (by kernel_rfl) (fun _ _ _ h => h) rfl ?_ ?_); rotate_left; focus (intro W hW; (try dsimp only at hW); go_split_ands; go_simp; (try (simp (disch := omega) only [IntWalk.i64_in]; (try go_simp))); (try (split; (next => omega); (try go_simp))); try rfl; done))
          try simp only [Act.put, List.setIfInBounds_toArray, List.set_cons_zero, List.set_cons_succ]
          first | (refine reg_no (i := 9) (oi := { dst := some 35, op := Go.Op.load 3 (Go.Operand.tmp 34), type := 3, pos := "ref.go:121", after := #[{ on := 8, ground := Go.Ground.data }, { on := 2, ground := Go.Ground.guard }], guard := some (2, true) }) rfl (by kernel_rfl) (by kernel_rfl) (by kernel_rfl) (fun _ _ _ h => h) rfl ?_) | ((refine reg_yes (i := 9) (oi := { dst := some 35, op := Go.Op.load 3 (Go.Operand.tmp 34), type := 3, pos := "ref.go:121", after := #[{ on := 8, ground := Go.Ground.data }, { on := 2, ground := Go.Ground.guard }], guard := some (2, true) }) (v := ?_) rfl (by kernel_rfl) (by kernel_rfl) (by kernel_rfl) (fun _ _ _ h => h) rfl ?_ ?_); rotate_left; focus (intro W hW; (try dsimp only at hW); go_split_ands; go_simp; (try (simp (disch := omega) only [IntWalk.i64_in]; (try go_simp))); (try (split; (next => omega); (try go_simp))); try rfl; done))
          try simp only [Act.put, List.setIfInBounds_toArray, List.set_cons_zero, List.set_cons_succ]
          first | (refine reg_no (i := 10) (oi := { dst := some 36, op := Go.Op.binOp Go.BinOp.geq 3 (Go.Operand.tmp 33) (Go.Operand.tmp 35) 3, type := 4, pos := "ref.go:121", after := #[{ on := 7, ground := Go.Ground.data }, { on := 9, ground := Go.Ground.data }, { on := 2, ground := Go.Ground.guard }], guard := some (2, true) }) rfl (by kernel_rfl) (by kernel_rfl) (by kernel_rfl) (fun _ _ _ h => h) rfl ?_) | ((refine reg_yes (i := 10) (oi := { dst := some 36, op := Go.Op.binOp Go.BinOp.geq 3 (Go.Operand.tmp 33) (Go.Operand.tmp 35) 3, type := 4, pos := "ref.go:121", after := #[{ on := 7, ground := Go.Ground.data }, { on := 9, ground := Go.Ground.data }, { on := 2, ground := Go.Ground.guard }], guard := some (2, true) }) (v := ?_) rfl (by kernel_rfl) (by kernel_rfl) (by kernel_rfl) (fun _ _ _ h => h) rfl ?_ ?_); rotate_left; focus (intro W hW; (try dsimp only at hW); go_split_ands; go_simp; (try (simp (disch := omega) only [IntWalk.i64_in]; (try go_simp))); (try (split; (next => omega); (try go_simp))); try rfl; done))
          try simp only [Act.put, List.setIfInBounds_toArray, List.set_cons_zero, List.set_cons_succ]
          ((refine reg_yes (i := 11) (oi := { dst := some 37, op := Go.Op.pick (Go.Operand.tmp 28) (Go.Operand.tmp 36) (Go.Operand.const (Go.Value.bool false)), type := 4, pos := "ref.go:121", after := #[{ on := 2, ground := Go.Ground.data }, { on := 10, ground := Go.Ground.data }], guard := none }) (v := ?_) rfl (by kernel_rfl) (by kernel_rfl) (by kernel_rfl) (fun _ _ _ h => h) rfl ?_ ?_); rotate_left; focus (intro W hW; (try dsimp only at hW); go_split_ands; go_simp; (try (simp (disch := omega) only [IntWalk.i64_in]; (try go_simp))); (try (split; (next => omega); (try go_simp))); try rfl; done))
          try simp only [Act.put, List.setIfInBounds_toArray, List.set_cons_zero, List.set_cons_succ]
          -- ready: []
          refine reg_done (by kernel_rfl) (HS7.out _ hcd) ?_
          go_wp2_with (first | (with_reducible refine stop_append ?_) | (with_reducible refine stop_copy ?_) | (with_reducible refine stop_make ?_) | (with_reducible refine stop_lookup ?_) | (with_reducible refine stop_update ?_) | (with_reducible refine stop_slice ?_) | (with_reducible refine stop_range ?_) | (with_reducible refine stop_next ?_) | (with_reducible refine stop_convert ⟨_, rfl⟩ ?_) | (with_reducible refine stop_convertB ⟨_, _, _, rfl⟩ ?_) | (with_reducible refine stop_eqSlice ⟨_, _, rfl⟩ ?_))
          have hst : stepW c (o, true) (x0, x1, x2) = if x0 = wf then (o, true) else (o ++ [(x0, x1, x2)], true) := by
            rw [stepW_no (by simp), hc1]
          have Hst := Lib.hid hst
          have Hown8 := Lib.hid (Hown.out.keepFlat (Chg.refl No wr).drew (fun _ _ f => f))
          have hlen8 : o.length ≤ 2 * k + 1 := by omega
          have hcr8 := hcd
          generalize wr.drew = w8 at *
          clear hst Hown hcd
        rotate_left
        focus
          have e0 := (Hel.out wr.drew hcd).2.2.2.2.1
          have e1 := (Hel.out wr.drew hcd).2.2.2.2.2.1
          have e2 := (Hel.out wr.drew hcd).2.2.2.2.2.2
          go_wp2_with (first | (with_reducible refine stop_append ?_) | (with_reducible refine stop_copy ?_) | (with_reducible refine stop_make ?_) | (with_reducible refine stop_lookup ?_) | (with_reducible refine stop_update ?_) | (with_reducible refine stop_slice ?_) | (with_reducible refine stop_range ?_) | (with_reducible refine stop_next ?_) | (with_reducible refine stop_convert ⟨_, rfl⟩ ?_) | (with_reducible refine stop_convertB ⟨_, _, _, rfl⟩ ?_) | (with_reducible refine stop_eqSlice ⟨_, _, rfl⟩ ?_))
          refine reg_start (fun W => W.cell? ⟨q3, 0, none⟩ = some (.int .i64 wf) ∧ W.cell? ⟨b, of + k * 3, none⟩ = some (.int .i64 x0)) (by kernel_rfl) ?_
          ((refine reg_yes (i := 0) (oi := { dst := some 26, op := Go.Op.move (Go.Operand.tmp 7), type := 4, pos := "ref.go:121", after := #[], guard := none }) (v := ?_) rfl (by kernel_rfl) (by kernel_rfl) (by kernel_rfl) (fun _ _ _ h => h) rfl ?_ ?_); rotate_left; focus (intro W hW; (try dsimp only at hW); go_split_ands; go_simp; (try (simp (disch := omega) only [IntWalk.i64_in]; (try go_simp))); (try (split; (next => omega); (try go_simp))); try rfl; done))
          try simp only [Act.put, List.setIfInBounds_toArray, List.set_cons_zero, List.set_cons_succ]
          ((refine reg_yes (i := 1) (oi := { dst := some 27, op := Go.Op.unOp Go.UnOp.not 4 (Go.Operand.tmp 26), type := 4, pos := "ref.go:121", after := #[{ on := 0, ground := Go.Ground.data }], guard := none }) (v := ?_) rfl (by kernel_rfl) (by kernel_rfl) (by kernel_rfl) (fun _ _ _ h => h) rfl ?_ ?_); rotate_left; focus (intro W hW; (try dsimp only at hW); go_split_ands; go_simp; (try (simp (disch := omega) only [IntWalk.i64_in]; (try go_simp))); (try (split; (next => omega); (try go_simp))); try rfl; done))
          try simp only [Act.put, List.setIfInBounds_toArray, List.set_cons_zero, List.set_cons_succ]
          ((refine reg_yes (i := 2) (oi := { dst := some 28, op := Go.Op.move (Go.Operand.tmp 27), type := 4, pos := "ref.go:121", after := #[{ on := 1, ground := Go.Ground.data }], guard := none }) (v := ?_) rfl (by kernel_rfl) (by kernel_rfl) (by kernel_rfl) (fun _ _ _ h => h) rfl ?_ ?_); rotate_left; focus (intro W hW; (try dsimp only at hW); go_split_ands; go_simp; (try (simp (disch := omega) only [IntWalk.i64_in]; (try go_simp))); (try (split; (next => omega); (try go_simp))); try rfl; done))
          try simp only [Act.put, List.setIfInBounds_toArray, List.set_cons_zero, List.set_cons_succ]
          first | (refine reg_no (i := 3) (oi := { dst := some 29, op := Go.Op.move (Go.Operand.tmp 0), type := 67, pos := "ref.go:121", after := #[{ on := 2, ground := Go.Ground.guard }], guard := some (2, true) }) rfl (by kernel_rfl) (by kernel_rfl) (by kernel_rfl) (fun _ _ _ h => h) rfl ?_) | ((refine reg_yes (i := 3) (oi := { dst := some 29, op := Go.Op.move (Go.Operand.tmp 0), type := 67, pos := "ref.go:121", after := #[{ on := 2, ground := Go.Ground.guard }], guard := some (2, true) }) (v := ?_) rfl (by kernel_rfl) (by kernel_rfl) (by kernel_rfl) (fun _ _ _ h => h) rfl ?_ ?_); rotate_left; focus (intro W hW; (try dsimp only at hW); go_split_ands; go_simp; (try (simp (disch := omega) only [IntWalk.i64_in]; (try go_simp))); (try (split; (next => omega); (try go_simp))); try rfl; done))
          try simp only [Act.put, List.setIfInBounds_toArray, List.set_cons_zero, List.set_cons_succ]
          first | (refine reg_no (i := 4) (oi := { dst := some 30, op := Go.Op.move (Go.Operand.tmp 8), type := 3, pos := "ref.go:121", after := #[{ on := 2, ground := Go.Ground.guard }], guard := some (2, true) }) rfl (by kernel_rfl) (by kernel_rfl) (by kernel_rfl) (fun _ _ _ h => h) rfl ?_) | ((refine reg_yes (i := 4) (oi := { dst := some 30, op := Go.Op.move (Go.Operand.tmp 8), type := 3, pos := "ref.go:121", after := #[{ on := 2, ground := Go.Ground.guard }], guard := some (2, true) }) (v := ?_) rfl (by kernel_rfl) (by kernel_rfl) (by kernel_rfl) (fun _ _ _ h => h) rfl ?_ ?_); rotate_left; focus (intro W hW; (try dsimp only at hW); go_split_ands; go_simp; (try (simp (disch := omega) only [IntWalk.i64_in]; (try go_simp))); (try (split; (next => omega); (try go_simp))); try rfl; done))
          try simp only [Act.put, List.setIfInBounds_toArray, List.set_cons_zero, List.set_cons_succ]
          first | (refine reg_no (i := 5) (oi := { dst := some 31, op := Go.Op.indexAddr 67 (Go.Operand.tmp 29) (Go.Operand.tmp 30), type := 0, pos := "ref.go:121", after := #[{ on := 3, ground := Go.Ground.data }, { on := 4, ground := Go.Ground.data }, { on := 2, ground := Go.Ground.guard }], guard := some (2, true) }) rfl (by kernel_rfl) (by kernel_rfl) (by kernel_rfl) (fun _ _ _ h => h) rfl ?_) | ((refine reg_yes (i := 5) (oi := { dst := some 31, op := Go.Op.indexAddr 67 (Go.Operand.tmp 29) (Go.Operand.tmp 30), type := 0, pos := "ref.go:121", after := #[{ on := 3, ground := Go.Ground.data }, { on := 4, ground := Go.Ground.data }, { on := 2, ground := Go.Ground.guard }], guard := some (2, true) }) (v := ?_) rfl (by kernel_rfl) (by kernel_rfl) (by kernel_rfl) (fun _ _ _ h => h) rfl ?_ ?_); rotate_left; focus (intro W hW; (try dsimp only at hW); go_split_ands; go_simp; (try (simp (disch := omega) only [IntWalk.i64_in]; (try go_simp))); (try (split; (next => omega); (try go_simp))); try rfl; done))
          try simp only [Act.put, List.setIfInBounds_toArray, List.set_cons_zero, List.set_cons_succ]
          first | (refine reg_no (i := 6) (oi := { dst := some 32, op := Go.Op.fieldAddr 71 (Go.Operand.tmp 31) 0, type := 0, pos := "ref.go:121", after := #[{ on := 5, ground := Go.Ground.data }, { on := 2, ground := Go.Ground.guard }], guard := some (2, true) }) rfl (by kernel_rfl) (by kernel_rfl) (by kernel_rfl) (fun _ _ _ h => h) rfl ?_) | ((refine reg_yes (i := 6) (oi := { dst := some 32, op := Go.Op.fieldAddr 71 (Go.Operand.tmp 31) 0, type := 0, pos := "ref.go:121", after := #[{ on := 5, ground := Go.Ground.data }, { on := 2, ground := Go.Ground.guard }], guard := some (2, true) }) (v := ?_) rfl (by kernel_rfl) (by kernel_rfl) (by kernel_rfl) (fun _ _ _ h => h) rfl ?_ ?_); rotate_left; focus (intro W hW; (try dsimp only at hW); go_split_ands; go_simp; (try (simp (disch := omega) only [IntWalk.i64_in]; (try go_simp))); (try (split; (next => omega); (try go_simp))); try rfl; done))
          try simp only [Act.put, List.setIfInBounds_toArray, List.set_cons_zero, List.set_cons_succ]
          first | (refine reg_no (i := 7) (oi := { dst := some 33, op := Go.Op.load 3 (Go.Operand.tmp 32), type := 3, pos := "ref.go:121", after := #[{ on := 6, ground := Go.Ground.data }, { on := 2, ground := Go.Ground.guard }], guard := some (2, true) }) rfl (by kernel_rfl) (by kernel_rfl) (by kernel_rfl) (fun _ _ _ h => h) rfl ?_) | ((refine reg_yes (i := 7) (oi := { dst := some 33, op := Go.Op.load 3 (Go.Operand.tmp 32), type := 3, pos := "ref.go:121", after := #[{ on := 6, ground := Go.Ground.data }, { on := 2, ground := Go.Ground.guard }], guard := some (2, true) }) (v := ?_) rfl (by kernel_rfl) (by kernel_rfl) (by kernel_rfl) (fun _ _ _ h => h) rfl ?_ ?_); rotate_left; focus (intro W hW; (try dsimp only at hW); go_split_ands; go_simp; (try (simp (disch := omega) only [IntWalk.i64_in]; (try go_simp))); (try (split; (next => omega); (try go_simp))); try rfl; done))
          try simp only [Act.put, List.setIfInBounds_toArray, List.set_cons_zero, List.set_cons_succ]
          first | (refine reg_no (i := 8) (oi := { dst := some 34, op := Go.Op.fieldAddr 59 (Go.Operand.tmp 3) 0, type := 0, pos := "ref.go:121", after := #[{ on := 2, ground := Go.Ground.guard }], guard := some (2, true) }) rfl (by kernel_rfl) (by kernel_rfl) (by kernel_rfl) (fun _ _ _ h => h) rfl ?_) | ((refine reg_yes (i := 8) (oi := { dst := some 34, op := Go.Op.fieldAddr 59 (Go.Operand.tmp 3) 0, type := 0, pos := "ref.go:121", after := #[{ on := 2, ground := Go.Ground.guard }], guard := some (2, true) }) (v := ?_) rfl (by kernel_rfl) (by kernel_rfl) (by kernel_rfl) (fun _ _ _ h => h) rfl ?_ ?_); rotate_left; focus (intro W hW; (try dsimp only at hW); go_split_ands; go_simp; (try (simp (disch := omega) only [IntWalk.i64_in]; (try go_simp))); (try (split; (next => omega); (try go_simp))); try rfl; done))
          try simp only [Act.put, List.setIfInBounds_toArray, List.set_cons_zero, List.set_cons_succ]
          first | (refine reg_no (i := 9) (oi := { dst := some 35, op := Go.Op.load 3 (Go.Operand.tmp 34), type := 3, pos := "ref.go:121", after := #[{ on := 8, ground := Go.Ground.data }, { on := 2, ground := Go.Ground.guard }], guard := some (2, true) }) rfl (by kernel_rfl) (by kernel_rfl) (by kernel_rfl) (fun _ _ _ h => h) rfl ?_) | ((refine reg_yes (i := 9) (oi := { dst := some 35, op := Go.Op.load 3 (Go.Operand.tmp 34), type := 3, pos := "ref.go:121", after := #[{ on := 8, ground := Go.Ground.data }, { on := 2, ground := Go.Ground.guard }], guard := some (2, true) }) (v := ?_) rfl (by kernel_rfl) (by kernel_rfl) (by kernel_rfl) (fun _ _ _ h => h) rfl ?_ ?_); rotate_left; focus (intro W hW; (try dsimp only at hW); go_split_ands; go_simp; (try (simp (disch := omega) only [IntWalk.i64_in]; (try go_simp))); (try (split; (next => omega); (try go_simp))); try rfl; done))
          try simp only [Act.put, List.setIfInBounds_toArray, List.set_cons_zero, List.set_cons_succ]
          first | (refine reg_no (i := 10) (oi := { dst := some 36, op := Go.Op.binOp Go.BinOp.geq 3 (Go.Operand.tmp 33) (Go.Operand.tmp 35) 3, type := 4, pos := "ref.go:121", after := #[{ on := 7, ground := Go.Ground.data }, { on := 9, ground := Go.Ground.data }, { on := 2, ground := Go.Ground.guard }], guard := some (2, true) }) rfl (by kernel_rfl) (by kernel_rfl) (by kernel_rfl) (fun _ _ _ h => h) rfl ?_) | ((refine reg_yes (i := 10) (oi := { dst := some 36, op := Go.Op.binOp Go.BinOp.geq 3 (Go.Operand.tmp 33) (Go.Operand.tmp 35) 3, type := 4, pos := "ref.go:121", after := #[{ on := 7, ground := Go.Ground.data }, { on := 9, ground := Go.Ground.data }, { on := 2, ground := Go.Ground.guard }], guard := some (2, true) }) (v := ?_) rfl (by kernel_rfl) (by kernel_rfl) (by kernel_rfl) (fun _ _ _ h => h) rfl ?_ ?_); rotate_left; focus (intro W hW; (try dsimp only at hW); go_split_ands; go_simp; (try (simp (disch := omega) only [IntWalk.i64_in]; (try go_simp))); (try (split; (next => omega); (try go_simp))); try rfl; done))
          try simp only [Act.put, List.setIfInBounds_toArray, List.set_cons_zero, List.set_cons_succ]
          ((refine reg_yes (i := 11) (oi := { dst := some 37, op := Go.Op.pick (Go.Operand.tmp 28) (Go.Operand.tmp 36) (Go.Operand.const (Go.Value.bool false)), type := 4, pos := "ref.go:121", after := #[{ on := 2, ground := Go.Ground.data }, { on := 10, ground := Go.Ground.data }], guard := none }) (v := ?_) rfl (by kernel_rfl) (by kernel_rfl) (by kernel_rfl) (fun _ _ _ h => h) rfl ?_ ?_); rotate_left; focus (intro W hW; (try dsimp only at hW); go_split_ands; go_simp; (try (simp (disch := omega) only [IntWalk.i64_in]; (try go_simp))); (try (split; (next => omega); (try go_simp))); try rfl; done))
          try simp only [Act.put, List.setIfInBounds_toArray, List.set_cons_zero, List.set_cons_succ]
          -- ready: []
          refine reg_done (by kernel_rfl) (HS7.out _ hcd) ?_
          have hown7 := Hown.out.keepFlat (Chg.refl No wr).drew (fun _ _ f => f)
          generalize wr.drew = w7 at *
          have hb7 := hcd.size
          go_wp2_with (first | (with_reducible refine stop_append ?_) | (with_reducible refine stop_copy ?_) | (with_reducible refine stop_make ?_) | (with_reducible refine stop_lookup ?_) | (with_reducible refine stop_update ?_) | (with_reducible refine stop_slice ?_) | (with_reducible refine stop_range ?_) | (with_reducible refine stop_next ?_) | (with_reducible refine stop_convert ⟨_, rfl⟩ ?_) | (with_reducible refine stop_convertB ⟨_, _, _, rfl⟩ ?_) | (with_reducible refine stop_eqSlice ⟨_, _, rfl⟩ ?_))
          refine step_append_flat (α := RCell) (ys := [c]) Try.underlying67 info_rcell rfl (hown7.alloc (.cells #[.int .i64 wf, .int .i64 (ver + 1), .string wv] 71)) rfl rfl (Sl.lit1 (F := No) (y := c) rfl (by rw [hc1]; exact rcell_cs No w7 (wf, ver + 1, wv)) (not_no _)) (by simp; omega) (by simp; omega) (by simp; omega) ?_
          intro v8 w8 hown8 hg8
          have hcr8 : Chg No u w8 := (hcd.alloc (.cells #[.int .i64 wf, .int .i64 (ver + 1), .string wv] 71)).grew hg8 (fun i hi => .inr (hown7.lt i hi).1)
          have hst : stepW c (o, false) (x0, x1, x2) = if x0 = wf then (o ++ [c], true) else (o ++ [c] ++ [(x0, x1, x2)], true) := by
            rw [stepW_yes (by rw [hc1]; exact ⟨rfl, hge⟩), hc1]
          have Hst := Lib.hid hst
          have Hown8 := Lib.hid hown8
          have hlen8 : (o ++ [c]).length ≤ 2 * k + 1 := by simp; omega
          clear hst hown8 hg8 hown7 Hown hcd e0 e1 e2
          go_wp2_with (first | (with_reducible refine stop_append ?_) | (with_reducible refine stop_copy ?_) | (with_reducible refine stop_make ?_) | (with_reducible refine stop_lookup ?_) | (with_reducible refine stop_update ?_) | (with_reducible refine stop_slice ?_) | (with_reducible refine stop_range ?_) | (with_reducible refine stop_next ?_) | (with_reducible refine stop_convert ⟨_, rfl⟩ ?_) | (with_reducible refine stop_convertB ⟨_, _, _, rfl⟩ ?_) | (with_reducible refine stop_eqSlice ⟨_, _, rfl⟩ ?_))
          generalize o ++ [c] = o1 at *
        rotate_left
        focus
          go_wp2_with (first | (with_reducible refine stop_append ?_) | (with_reducible refine stop_copy ?_) | (with_reducible refine stop_make ?_) | (with_reducible refine stop_lookup ?_) | (with_reducible refine stop_update ?_) | (with_reducible refine stop_slice ?_) | (with_reducible refine stop_range ?_) | (with_reducible refine stop_next ?_) | (with_reducible refine stop_convert ⟨_, rfl⟩ ?_) | (with_reducible refine stop_convertB ⟨_, _, _, rfl⟩ ?_) | (with_reducible refine stop_eqSlice ⟨_, _, rfl⟩ ?_))
          refine reg_start (fun W => W.cell? ⟨q3, 0, none⟩ = some (.int .i64 wf) ∧ W.cell? ⟨b, of + k * 3, none⟩ = some (.int .i64 x0)) (by kernel_rfl) ?_
          ((refine reg_yes (i := 0) (oi := { dst := some 26, op := Go.Op.move (Go.Operand.tmp 7), type := 4, pos := "ref.go:121", after := #[], guard := none }) (v := ?_) rfl (by kernel_rfl) (by kernel_rfl) (by kernel_rfl) (fun _ _ _ h => h) rfl ?_ ?_); rotate_left; focus (intro W hW; (try dsimp only at hW); go_split_ands; go_simp; (try (simp (disch := omega) only [IntWalk.i64_in]; (try go_simp))); (try (split; (next => omega); (try go_simp))); try rfl; done))
          try simp only [Act.put, List.setIfInBounds_toArray, List.set_cons_zero, List.set_cons_succ]
          ((refine reg_yes (i := 1) (oi := { dst := some 27, op := Go.Op.unOp Go.UnOp.not 4 (Go.Operand.tmp 26), type := 4, pos := "ref.go:121", after := #[{ on := 0, ground := Go.Ground.data }], guard := none }) (v := ?_) rfl (by kernel_rfl) (by kernel_rfl) (by kernel_rfl) (fun _ _ _ h => h) rfl ?_ ?_); rotate_left; focus (intro W hW; (try dsimp only at hW); go_split_ands; go_simp; (try (simp (disch := omega) only [IntWalk.i64_in]; (try go_simp))); (try (split; (next => omega); (try go_simp))); try rfl; done))
          try simp only [Act.put, List.setIfInBounds_toArray, List.set_cons_zero, List.set_cons_succ]
          ((refine reg_yes (i := 2) (oi := { dst := some 28, op := Go.Op.move (Go.Operand.tmp 27), type := 4, pos := "ref.go:121", after := #[{ on := 1, ground := Go.Ground.data }], guard := none }) (v := ?_) rfl (by kernel_rfl) (by kernel_rfl) (by kernel_rfl) (fun _ _ _ h => h) rfl ?_ ?_); rotate_left; focus (intro W hW; (try dsimp only at hW); go_split_ands; go_simp; (try (simp (disch := omega) only [IntWalk.i64_in]; (try go_simp))); (try (split; (next => omega); (try go_simp))); try rfl; done))
          try simp only [Act.put, List.setIfInBounds_toArray, List.set_cons_zero, List.set_cons_succ]
          first | (refine reg_no (i := 3) (oi := { dst := some 29, op := Go.Op.move (Go.Operand.tmp 0), type := 67, pos := "ref.go:121", after := #[{ on := 2, ground := Go.Ground.guard }], guard := some (2, true) }) rfl (by kernel_rfl) (by kernel_rfl) (by kernel_rfl) (fun _ _ _ h => h) rfl ?_) | ((refine reg_yes (i := 3) (oi := { dst := some 29, op := Go.Op.move (Go.Operand.tmp 0), type := 67, pos := "ref.go:121", after := #[{ on := 2, ground := Go.Ground.guard }], guard := some (2, true) }) (v := ?_) rfl (by kernel_rfl) (by kernel_rfl) (by kernel_rfl) (fun _ _ _ h => h) rfl ?_ ?_); rotate_left; focus (intro W hW; (try dsimp only at hW); go_split_ands; go_simp; (try (simp (disch := omega) only [IntWalk.i64_in]; (try go_simp))); (try (split; (next => omega); (try go_simp))); try rfl; done))
          try simp only [Act.put, List.setIfInBounds_toArray, List.set_cons_zero, List.set_cons_succ]
          first | (refine reg_no (i := 4) (oi := { dst := some 30, op := Go.Op.move (Go.Operand.tmp 8), type := 3, pos := "ref.go:121", after := #[{ on := 2, ground := Go.Ground.guard }], guard := some (2, true) }) rfl (by kernel_rfl) (by kernel_rfl) (by kernel_rfl) (fun _ _ _ h => h) rfl ?_) | ((refine reg_yes (i := 4) (oi := { dst := some 30, op := Go.Op.move (Go.Operand.tmp 8), type := 3, pos := "ref.go:121", after := #[{ on := 2, ground := Go.Ground.guard }], guard := some (2, true) }) (v := ?_) rfl (by kernel_rfl) (by kernel_rfl) (by kernel_rfl) (fun _ _ _ h => h) rfl ?_ ?_); rotate_left; focus (intro W hW; (try dsimp only at hW); go_split_ands; go_simp; (try (simp (disch := omega) only [IntWalk.i64_in]; (try go_simp))); (try (split; (next => omega); (try go_simp))); try rfl; done))
          try simp only [Act.put, List.setIfInBounds_toArray, List.set_cons_zero, List.set_cons_succ]
          first | (refine reg_no (i := 5) (oi := { dst := some 31, op := Go.Op.indexAddr 67 (Go.Operand.tmp 29) (Go.Operand.tmp 30), type := 0, pos := "ref.go:121", after := #[{ on := 3, ground := Go.Ground.data }, { on := 4, ground := Go.Ground.data }, { on := 2, ground := Go.Ground.guard }], guard := some (2, true) }) rfl (by kernel_rfl) (by kernel_rfl) (by kernel_rfl) (fun _ _ _ h => h) rfl ?_) | ((refine reg_yes (i := 5) (oi := { dst := some 31, op := Go.Op.indexAddr 67 (Go.Operand.tmp 29) (Go.Operand.tmp 30), type := 0, pos := "ref.go:121", after := #[{ on := 3, ground := Go.Ground.data }, { on := 4, ground := Go.Ground.data }, { on := 2, ground := Go.Ground.guard }], guard := some (2, true) }) (v := ?_) rfl (by kernel_rfl) (by kernel_rfl) (by kernel_rfl) (fun _ _ _ h => h) rfl ?_ ?_); rotate_left; focus (intro W hW; (try dsimp only at hW); go_split_ands; go_simp; (try (simp (disch := omega) only [IntWalk.i64_in]; (try go_simp))); (try (split; (next => omega); (try go_simp))); try rfl; done))
          try simp only [Act.put, List.setIfInBounds_toArray, List.set_cons_zero, List.set_cons_succ]
          first | (refine reg_no (i := 6) (oi := { dst := some 32, op := Go.Op.fieldAddr 71 (Go.Operand.tmp 31) 0, type := 0, pos := "ref.go:121", after := #[{ on := 5, ground := Go.Ground.data }, { on := 2, ground := Go.Ground.guard }], guard := some (2, true) }) rfl (by kernel_rfl) (by kernel_rfl) (by kernel_rfl) (fun _ _ _ h => h) rfl ?_) | ((refine reg_yes (i := 6) (oi := { dst := some 32, op := Go.Op.fieldAddr 71 (Go.Operand.tmp 31) 0, type := 0, pos := "ref.go:121", after := #[{ on := 5, ground := Go.Ground.data }, { on := 2, ground := Go.Ground.guard }], guard := some (2, true) }) (v := ?_) rfl (by kernel_rfl) (by kernel_rfl) (by kernel_rfl) (fun _ _ _ h => h) rfl ?_ ?_); rotate_left; focus (intro W hW; (try dsimp only at hW); go_split_ands; go_simp; (try (simp (disch := omega) only [IntWalk.i64_in]; (try go_simp))); (try (split; (next => omega); (try go_simp))); try rfl; done))
          try simp only [Act.put, List.setIfInBounds_toArray, List.set_cons_zero, List.set_cons_succ]
          first | (refine reg_no (i := 7) (oi := { dst := some 33, op := Go.Op.load 3 (Go.Operand.tmp 32), type := 3, pos := "ref.go:121", after := #[{ on := 6, ground := Go.Ground.data }, { on := 2, ground := Go.Ground.guard }], guard := some (2, true) }) rfl (by kernel_rfl) (by kernel_rfl) (by kernel_rfl) (fun _ _ _ h => h) rfl ?_) | ((refine reg_yes (i := 7) (oi := { dst := some 33, op := Go.Op.load 3 (Go.Operand.tmp 32), type := 3, pos := "ref.go:121", after := #[{ on := 6, ground := Go.Ground.data }, { on := 2, ground := Go.Ground.guard }], guard := some (2, true) }) (v := ?_) rfl (by kernel_rfl) (by kernel_rfl) (by kernel_rfl) (fun _ _ _ h => h) rfl ?_ ?_); rotate_left; focus (intro W hW; (try dsimp only at hW); go_split_ands; go_simp; (try (simp (disch := omega) only [IntWalk.i64_in]; (try go_simp))); (try (split; (next => omega); (try go_simp))); try rfl; done))
          try simp only [Act.put, List.setIfInBounds_toArray, List.set_cons_zero, List.set_cons_succ]
          first | (refine reg_no (i := 8) (oi := { dst := some 34, op := Go.Op.fieldAddr 59 (Go.Operand.tmp 3) 0, type := 0, pos := "ref.go:121", after := #[{ on := 2, ground := Go.Ground.guard }], guard := some (2, true) }) rfl (by kernel_rfl) (by kernel_rfl) (by kernel_rfl) (fun _ _ _ h => h) rfl ?_) | ((refine reg_yes (i := 8) (oi := { dst := some 34, op := Go.Op.fieldAddr 59 (Go.Operand.tmp 3) 0, type := 0, pos := "ref.go:121", after := #[{ on := 2, ground := Go.Ground.guard }], guard := some (2, true) }) (v := ?_) rfl (by kernel_rfl) (by kernel_rfl) (by kernel_rfl) (fun _ _ _ h => h) rfl ?_ ?_); rotate_left; focus (intro W hW; (try dsimp only at hW); go_split_ands; go_simp; (try (simp (disch := omega) only [IntWalk.i64_in]; (try go_simp))); (try (split; (next => omega); (try go_simp))); try rfl; done))
          try simp only [Act.put, List.setIfInBounds_toArray, List.set_cons_zero, List.set_cons_succ]
          first | (refine reg_no (i := 9) (oi := { dst := some 35, op := Go.Op.load 3 (Go.Operand.tmp 34), type := 3, pos := "ref.go:121", after := #[{ on := 8, ground := Go.Ground.data }, { on := 2, ground := Go.Ground.guard }], guard := some (2, true) }) rfl (by kernel_rfl) (by kernel_rfl) (by kernel_rfl) (fun _ _ _ h => h) rfl ?_) | ((refine reg_yes (i := 9) (oi := { dst := some 35, op := Go.Op.load 3 (Go.Operand.tmp 34), type := 3, pos := "ref.go:121", after := #[{ on := 8, ground := Go.Ground.data }, { on := 2, ground := Go.Ground.guard }], guard := some (2, true) }) (v := ?_) rfl (by kernel_rfl) (by kernel_rfl) (by kernel_rfl) (fun _ _ _ h => h) rfl ?_ ?_); rotate_left; focus (intro W hW; (try dsimp only at hW); go_split_ands; go_simp; (try (simp (disch := omega) only [IntWalk.i64_in]; (try go_simp))); (try (split; (next => omega); (try go_simp))); try rfl; done))
          try simp only [Act.put, List.setIfInBounds_toArray, List.set_cons_zero, List.set_cons_succ]
          first | (refine reg_no (i := 10) (oi := { dst := some 36, op := Go.Op.binOp Go.BinOp.geq 3 (Go.Operand.tmp 33) (Go.Operand.tmp 35) 3, type := 4, pos := "ref.go:121", after := #[{ on := 7, ground := Go.Ground.data }, { on := 9, ground := Go.Ground.data }, { on := 2, ground := Go.Ground.guard }], guard := some (2, true) }) rfl (by kernel_rfl) (by kernel_rfl) (by kernel_rfl) (fun _ _ _ h => h) rfl ?_) | ((refine reg_yes (i := 10) (oi := { dst := some 36, op := Go.Op.binOp Go.BinOp.geq 3 (Go.Operand.tmp 33) (Go.Operand.tmp 35) 3, type := 4, pos := "ref.go:121", after := #[{ on := 7, ground := Go.Ground.data }, { on := 9, ground := Go.Ground.data }, { on := 2, ground := Go.Ground.guard }], guard := some (2, true) }) (v := ?_) rfl (by kernel_rfl) (by kernel_rfl) (by kernel_rfl) (fun _ _ _ h => h) rfl ?_ ?_); rotate_left; focus (intro W hW; (try dsimp only at hW); go_split_ands; go_simp; (try (simp (disch := omega) only [IntWalk.i64_in]; (try go_simp))); (try (split; (next => omega); (try go_simp))); try rfl; done))
          try simp only [Act.put, List.setIfInBounds_toArray, List.set_cons_zero, List.set_cons_succ]
          ((refine reg_yes (i := 11) (oi := { dst := some 37, op := Go.Op.pick (Go.Operand.tmp 28) (Go.Operand.tmp 36) (Go.Operand.const (Go.Value.bool false)), type := 4, pos := "ref.go:121", after := #[{ on := 2, ground := Go.Ground.data }, { on := 10, ground := Go.Ground.data }], guard := none }) (v := ?_) rfl (by kernel_rfl) (by kernel_rfl) (by kernel_rfl) (fun _ _ _ h => h) rfl ?_ ?_); rotate_left; focus (intro W hW; (try dsimp only at hW); go_split_ands; go_simp; (try (simp (disch := omega) only [IntWalk.i64_in]; (try go_simp))); (try (split; (next => omega); (try go_simp))); try rfl; done))
          try simp only [Act.put, List.setIfInBounds_toArray, List.set_cons_zero, List.set_cons_succ]
          -- ready: []
          refine reg_done (by kernel_rfl) (HS7.out _ hcd) ?_
          go_wp2_with (first | (with_reducible refine stop_append ?_) | (with_reducible refine stop_copy ?_) | (with_reducible refine stop_make ?_) | (with_reducible refine stop_lookup ?_) | (with_reducible refine stop_update ?_) | (with_reducible refine stop_slice ?_) | (with_reducible refine stop_range ?_) | (with_reducible refine stop_next ?_) | (with_reducible refine stop_convert ⟨_, rfl⟩ ?_) | (with_reducible refine stop_convertB ⟨_, _, _, rfl⟩ ?_) | (with_reducible refine stop_eqSlice ⟨_, _, rfl⟩ ?_))
          have hst : stepW c (o, false) (x0, x1, x2) = if x0 = wf then (o, false) else (o ++ [(x0, x1, x2)], false) := by
            rw [stepW_no (by rw [hc1]; rintro ⟨_, h⟩; simp only at h; omega), hc1]
          have Hst := Lib.hid hst
          have Hown8 := Lib.hid (Hown.out.keepFlat (Chg.refl No wr).drew (fun _ _ f => f))
          have hlen8 : o.length ≤ 2 * k + 1 := by omega
          have hcr8 := hcd
          generalize wr.drew = w8 at *
          clear hst Hown hcd
        rotate_left
        all_goals
          have hb8 := hcr8.size
          have hcd8 := hcr8.drew
          by_cases hxq : x0 = wf
          · first
              | (exfalso; omega)
              | have hxq' : wf = x0 := hxq.symm
                subst hxq'
                clear hxq
                refine reg_start (fun W => W.cell? ⟨q3, 0, none⟩ = some (.int .i64 wf) ∧ W.cell? ⟨b, of + k * 3, none⟩ = some (.int .i64 wf)) (by kernel_rfl) ?_
                ((refine reg_yes (i := 0) (oi := { dst := some 42, op := Go.Op.move (Go.Operand.tmp 0), type := 67, pos := "ref.go:125", after := #[], guard := none }) (v := ?_) rfl (by kernel_rfl) (by kernel_rfl) (by kernel_rfl) (fun _ _ _ h => h) rfl ?_ ?_); rotate_left; focus (intro W hW; (try dsimp only at hW); go_split_ands; go_simp; (try (simp (disch := omega) only [IntWalk.i64_in]; (try go_simp))); (try (split; (next => omega); (try go_simp))); try rfl; done))
                try simp only [Act.put, List.setIfInBounds_toArray, List.set_cons_zero, List.set_cons_succ]
                ((refine reg_yes (i := 1) (oi := { dst := some 43, op := Go.Op.move (Go.Operand.tmp 8), type := 3, pos := "ref.go:125", after := #[], guard := none }) (v := ?_) rfl (by kernel_rfl) (by kernel_rfl) (by kernel_rfl) (fun _ _ _ h => h) rfl ?_ ?_); rotate_left; focus (intro W hW; (try dsimp only at hW); go_split_ands; go_simp; (try (simp (disch := omega) only [IntWalk.i64_in]; (try go_simp))); (try (split; (next => omega); (try go_simp))); try rfl; done))
                try simp only [Act.put, List.setIfInBounds_toArray, List.set_cons_zero, List.set_cons_succ]
                ((refine reg_yes (i := 2) (oi := { dst := some 44, op := Go.Op.indexAddr 67 (Go.Operand.tmp 42) (Go.Operand.tmp 43), type := 0, pos := "ref.go:125", after := #[{ on := 0, ground := Go.Ground.data }, { on := 1, ground := Go.Ground.data }], guard := none }) (v := ?_) rfl (by kernel_rfl) (by kernel_rfl) (by kernel_rfl) (fun _ _ _ h => h) rfl ?_ ?_); rotate_left; focus (intro W hW; (try dsimp only at hW); go_split_ands; go_simp; (try (simp (disch := omega) only [IntWalk.i64_in]; (try go_simp))); (try (split; (next => omega); (try go_simp))); try rfl; done))
                try simp only [Act.put, List.setIfInBounds_toArray, List.set_cons_zero, List.set_cons_succ]
                ((refine reg_yes (i := 3) (oi := { dst := some 45, op := Go.Op.fieldAddr 71 (Go.Operand.tmp 44) 0, type := 0, pos := "ref.go:125", after := #[{ on := 2, ground := Go.Ground.data }], guard := none }) (v := ?_) rfl (by kernel_rfl) (by kernel_rfl) (by kernel_rfl) (fun _ _ _ h => h) rfl ?_ ?_); rotate_left; focus (intro W hW; (try dsimp only at hW); go_split_ands; go_simp; (try (simp (disch := omega) only [IntWalk.i64_in]; (try go_simp))); (try (split; (next => omega); (try go_simp))); try rfl; done))
                try simp only [Act.put, List.setIfInBounds_toArray, List.set_cons_zero, List.set_cons_succ]
                ((refine reg_yes (i := 4) (oi := { dst := some 46, op := Go.Op.load 3 (Go.Operand.tmp 45), type := 3, pos := "ref.go:125", after := #[{ on := 3, ground := Go.Ground.data }], guard := none }) (v := ?_) rfl (by kernel_rfl) (by kernel_rfl) (by kernel_rfl) (fun _ _ _ h => h) rfl ?_ ?_); rotate_left; focus (intro W hW; (try dsimp only at hW); go_split_ands; go_simp; (try (simp (disch := omega) only [IntWalk.i64_in]; (try go_simp))); (try (split; (next => omega); (try go_simp))); try rfl; done))
                try simp only [Act.put, List.setIfInBounds_toArray, List.set_cons_zero, List.set_cons_succ]
                ((refine reg_yes (i := 5) (oi := { dst := some 47, op := Go.Op.fieldAddr 59 (Go.Operand.tmp 3) 0, type := 0, pos := "ref.go:125", after := #[], guard := none }) (v := ?_) rfl (by kernel_rfl) (by kernel_rfl) (by kernel_rfl) (fun _ _ _ h => h) rfl ?_ ?_); rotate_left; focus (intro W hW; (try dsimp only at hW); go_split_ands; go_simp; (try (simp (disch := omega) only [IntWalk.i64_in]; (try go_simp))); (try (split; (next => omega); (try go_simp))); try rfl; done))
                try simp only [Act.put, List.setIfInBounds_toArray, List.set_cons_zero, List.set_cons_succ]
                ((refine reg_yes (i := 6) (oi := { dst := some 48, op := Go.Op.load 3 (Go.Operand.tmp 47), type := 3, pos := "ref.go:125", after := #[{ on := 5, ground := Go.Ground.data }], guard := none }) (v := ?_) rfl (by kernel_rfl) (by kernel_rfl) (by kernel_rfl) (fun _ _ _ h => h) rfl ?_ ?_); rotate_left; focus (intro W hW; (try dsimp only at hW); go_split_ands; go_simp; (try (simp (disch := omega) only [IntWalk.i64_in]; (try go_simp))); (try (split; (next => omega); (try go_simp))); try rfl; done))
                try simp only [Act.put, List.setIfInBounds_toArray, List.set_cons_zero, List.set_cons_succ]
                ((refine reg_yes (i := 7) (oi := { dst := some 49, op := Go.Op.binOp Go.BinOp.neq 3 (Go.Operand.tmp 46) (Go.Operand.tmp 48) 3, type := 4, pos := "ref.go:125", after := #[{ on := 4, ground := Go.Ground.data }, { on := 6, ground := Go.Ground.data }], guard := none }) (v := ?_) rfl (by kernel_rfl) (by kernel_rfl) (by kernel_rfl) (fun _ _ _ h => h) rfl ?_ ?_); rotate_left; focus (intro W hW; (try dsimp only at hW); go_split_ands; go_simp; (try (simp (disch := omega) only [IntWalk.i64_in]; (try go_simp))); (try (split; (next => omega); (try go_simp))); try rfl; done))
                try simp only [Act.put, List.setIfInBounds_toArray, List.set_cons_zero, List.set_cons_succ]
                -- ready: []
                refine reg_done (by kernel_rfl) (HS7.out _ hcd8) ?_
                have Hown9 := Lib.hid (Hown8.out.keepFlat (Chg.refl No w8).drew (fun _ _ f => f))
                go_wp2_with (first | (with_reducible refine stop_append ?_) | (with_reducible refine stop_copy ?_) | (with_reducible refine stop_make ?_) | (with_reducible refine stop_lookup ?_) | (with_reducible refine stop_update ?_) | (with_reducible refine stop_slice ?_) | (with_reducible refine stop_range ?_) | (with_reducible refine stop_next ?_) | (with_reducible refine stop_convert ⟨_, rfl⟩ ?_) | (with_reducible refine stop_convertB ⟨_, _, _, rfl⟩ ?_) | (with_reducible refine stop_eqSlice ⟨_, _, rfl⟩ ?_))
                go_roundw
                case rel => exact ⟨k + 1, _, _, _, by omega, by go_num, rfl, rfl, by rw [Hsn.out, Hfo.out, Hst.out, if_pos rfl], by omega, Hown9.out, hcd8⟩
                case measure => simp [intOf]; omega
          · have hxq1 : (x0 == wf) = false := by simpa using hxq
            have hxq2 : (x0 != wf) = true := by simpa using hxq
            have Hxq := Lib.hid hxq
            clear hxq
            have e0 := (Hel.out w8.drew hcd8).1
            have e1 := (Hel.out w8.drew hcd8).2.1
            have e2 := (Hel.out w8.drew hcd8).2.2.1
            refine reg_start (fun W => W.cell? ⟨q3, 0, none⟩ = some (.int .i64 wf) ∧ W.cell? ⟨b, of + k * 3, none⟩ = some (.int .i64 x0)) (by kernel_rfl) ?_
            ((refine reg_yes (i := 0) (oi := { dst := some 42, op := Go.Op.move (Go.Operand.tmp 0), type := 67, pos := "ref.go:125", after := #[], guard := none }) (v := ?_) rfl (by kernel_rfl) (by kernel_rfl) (by kernel_rfl) (fun _ _ _ h => h) rfl ?_ ?_); rotate_left; focus (intro W hW; (try dsimp only at hW); go_split_ands; go_simp; (try (simp (disch := omega) only [IntWalk.i64_in]; (try go_simp))); (try (split; (next => omega); (try go_simp))); try rfl; done))
            try simp only [Act.put, List.setIfInBounds_toArray, List.set_cons_zero, List.set_cons_succ]
            ((refine reg_yes (i := 1) (oi := { dst := some 43, op := Go.Op.move (Go.Operand.tmp 8), type := 3, pos := "ref.go:125", after := #[], guard := none }) (v := ?_) rfl (by kernel_rfl) (by kernel_rfl) (by kernel_rfl) (fun _ _ _ h => h) rfl ?_ ?_); rotate_left; focus (intro W hW; (try dsimp only at hW); go_split_ands; go_simp; (try (simp (disch := omega) only [IntWalk.i64_in]; (try go_simp))); (try (split; (next => omega); (try go_simp))); try rfl; done))
            try simp only [Act.put, List.setIfInBounds_toArray, List.set_cons_zero, List.set_cons_succ]
            ((refine reg_yes (i := 2) (oi := { dst := some 44, op := Go.Op.indexAddr 67 (Go.Operand.tmp 42) (Go.Operand.tmp 43), type := 0, pos := "ref.go:125", after := #[{ on := 0, ground := Go.Ground.data }, { on := 1, ground := Go.Ground.data }], guard := none }) (v := ?_) rfl (by kernel_rfl) (by kernel_rfl) (by kernel_rfl) (fun _ _ _ h => h) rfl ?_ ?_); rotate_left; focus (intro W hW; (try dsimp only at hW); go_split_ands; go_simp; (try (simp (disch := omega) only [IntWalk.i64_in]; (try go_simp))); (try (split; (next => omega); (try go_simp))); try rfl; done))
            try simp only [Act.put, List.setIfInBounds_toArray, List.set_cons_zero, List.set_cons_succ]
            ((refine reg_yes (i := 3) (oi := { dst := some 45, op := Go.Op.fieldAddr 71 (Go.Operand.tmp 44) 0, type := 0, pos := "ref.go:125", after := #[{ on := 2, ground := Go.Ground.data }], guard := none }) (v := ?_) rfl (by kernel_rfl) (by kernel_rfl) (by kernel_rfl) (fun _ _ _ h => h) rfl ?_ ?_); rotate_left; focus (intro W hW; (try dsimp only at hW); go_split_ands; go_simp; (try (simp (disch := omega) only [IntWalk.i64_in]; (try go_simp))); (try (split; (next => omega); (try go_simp))); try rfl; done))
            try simp only [Act.put, List.setIfInBounds_toArray, List.set_cons_zero, List.set_cons_succ]
            ((refine reg_yes (i := 4) (oi := { dst := some 46, op := Go.Op.load 3 (Go.Operand.tmp 45), type := 3, pos := "ref.go:125", after := #[{ on := 3, ground := Go.Ground.data }], guard := none }) (v := ?_) rfl (by kernel_rfl) (by kernel_rfl) (by kernel_rfl) (fun _ _ _ h => h) rfl ?_ ?_); rotate_left; focus (intro W hW; (try dsimp only at hW); go_split_ands; go_simp; (try (simp (disch := omega) only [IntWalk.i64_in]; (try go_simp))); (try (split; (next => omega); (try go_simp))); try rfl; done))
            try simp only [Act.put, List.setIfInBounds_toArray, List.set_cons_zero, List.set_cons_succ]
            ((refine reg_yes (i := 5) (oi := { dst := some 47, op := Go.Op.fieldAddr 59 (Go.Operand.tmp 3) 0, type := 0, pos := "ref.go:125", after := #[], guard := none }) (v := ?_) rfl (by kernel_rfl) (by kernel_rfl) (by kernel_rfl) (fun _ _ _ h => h) rfl ?_ ?_); rotate_left; focus (intro W hW; (try dsimp only at hW); go_split_ands; go_simp; (try (simp (disch := omega) only [IntWalk.i64_in]; (try go_simp))); (try (split; (next => omega); (try go_simp))); try rfl; done))
            try simp only [Act.put, List.setIfInBounds_toArray, List.set_cons_zero, List.set_cons_succ]
            ((refine reg_yes (i := 6) (oi := { dst := some 48, op := Go.Op.load 3 (Go.Operand.tmp 47), type := 3, pos := "ref.go:125", after := #[{ on := 5, ground := Go.Ground.data }], guard := none }) (v := ?_) rfl (by kernel_rfl) (by kernel_rfl) (by kernel_rfl) (fun _ _ _ h => h) rfl ?_ ?_); rotate_left; focus (intro W hW; (try dsimp only at hW); go_split_ands; go_simp; (try (simp (disch := omega) only [IntWalk.i64_in]; (try go_simp))); (try (split; (next => omega); (try go_simp))); try rfl; done))
            try simp only [Act.put, List.setIfInBounds_toArray, List.set_cons_zero, List.set_cons_succ]
            ((refine reg_yes (i := 7) (oi := { dst := some 49, op := Go.Op.binOp Go.BinOp.neq 3 (Go.Operand.tmp 46) (Go.Operand.tmp 48) 3, type := 4, pos := "ref.go:125", after := #[{ on := 4, ground := Go.Ground.data }, { on := 6, ground := Go.Ground.data }], guard := none }) (v := ?_) rfl (by kernel_rfl) (by kernel_rfl) (by kernel_rfl) (fun _ _ _ h => h) rfl ?_ ?_); rotate_left; focus (intro W hW; (try dsimp only at hW); go_split_ands; go_simp; (try (simp (disch := omega) only [IntWalk.i64_in]; (try go_simp))); (try (split; (next => omega); (try go_simp))); try rfl; done))
            try simp only [Act.put, List.setIfInBounds_toArray, List.set_cons_zero, List.set_cons_succ]
            -- ready: []
            refine reg_done (by kernel_rfl) (HS7.out _ hcd8) ?_
            have hown9 := Hown8.out.keepFlat (Chg.refl No w8).drew (fun _ _ f => f)
            generalize w8.drew = w9 at *
            have hb9 := hcd8.size
            go_wp2_with (first | (with_reducible refine stop_append ?_) | (with_reducible refine stop_copy ?_) | (with_reducible refine stop_make ?_) | (with_reducible refine stop_lookup ?_) | (with_reducible refine stop_update ?_) | (with_reducible refine stop_slice ?_) | (with_reducible refine stop_range ?_) | (with_reducible refine stop_next ?_) | (with_reducible refine stop_convert ⟨_, rfl⟩ ?_) | (with_reducible refine stop_convertB ⟨_, _, _, rfl⟩ ?_) | (with_reducible refine stop_eqSlice ⟨_, _, rfl⟩ ?_))
            refine step_append_flat (α := RCell) (ys := [(x0, x1, x2)]) Try.underlying67 info_rcell rfl (hown9.alloc (.cells #[.int .i64 x0, .int .i64 x1, .string x2] 71)) rfl rfl (Sl.lit1 (F := No) (y := (x0, x1, x2)) rfl (rcell_cs No w9 (x0, x1, x2)) (not_no _)) (by simp; omega) (by simp; omega) (by simp; omega) ?_
            intro v10 w10 hown10 hg10
            have hcr10 : Chg No u w10 := (hcd8.alloc (.cells #[.int .i64 x0, .int .i64 x1, .string x2] 71)).grew hg10 (fun i hi => .inr (hown9.lt i hi).1)
            have Hown10 := Lib.hid hown10
            clear hown10 hg10 hown9 e0 e1 e2
            go_wp2_with (first | (with_reducible refine stop_append ?_) | (with_reducible refine stop_copy ?_) | (with_reducible refine stop_make ?_) | (with_reducible refine stop_lookup ?_) | (with_reducible refine stop_update ?_) | (with_reducible refine stop_slice ?_) | (with_reducible refine stop_range ?_) | (with_reducible refine stop_next ?_) | (with_reducible refine stop_convert ⟨_, rfl⟩ ?_) | (with_reducible refine stop_convertB ⟨_, _, _, rfl⟩ ?_) | (with_reducible refine stop_eqSlice ⟨_, _, rfl⟩ ?_))
            go_roundw
            case rel => exact ⟨k + 1, _, _, _, by omega, by go_num, rfl, rfl, by rw [Hsn.out, Hfo.out, Hst.out, if_neg Hxq.out], by simp; omega, Hown10.out, hcr10⟩
            case measure => simp [intOf]; omega
      · obtain rfl : k = l.length := by omega
        have hfo := Hfo.out
        rw [List.take_length] at hfo
        have hwl : writtenL l (wf, wv) = endW c (o, d) := by unfold writtenL; rw [← Hc.out, hfo]
        have Hwl := Lib.hid hwl
        have hlt0 : ∀ i, Lt w.heap.size i → i < u.heap.size := fun i hi => by have := hc0u.size; simp only [Lt] at hi; omega
        clear hwl hfo Hfo
        cases d
        · have e0 := cell_obj (i := 0) p5r rfl
          have e1 := cell_obj (i := 1) p5r rfl
          have e2 := cell_obj (i := 2) p5r rfl
          have hown7 := Hown.out
          go_wp2_with (first | (with_reducible refine stop_append ?_) | (with_reducible refine stop_copy ?_) | (with_reducible refine stop_make ?_) | (with_reducible refine stop_lookup ?_) | (with_reducible refine stop_update ?_) | (with_reducible refine stop_slice ?_) | (with_reducible refine stop_range ?_) | (with_reducible refine stop_next ?_) | (with_reducible refine stop_convert ⟨_, rfl⟩ ?_) | (with_reducible refine stop_convertB ⟨_, _, _, rfl⟩ ?_) | (with_reducible refine stop_eqSlice ⟨_, _, rfl⟩ ?_))
          refine step_append_flat (α := RCell) (ys := [c]) Try.underlying67 info_rcell rfl (hown7.alloc (.cells #[.int .i64 wf, .int .i64 (ver + 1), .string wv] 71)) rfl rfl (Sl.lit1 (F := No) (y := c) rfl (by rw [hc1]; exact rcell_cs No wr (wf, ver + 1, wv)) (not_no _)) (by simp; omega) (by simp; omega) (by simp; omega) ?_
          intro v8 w8 hown8 hg8
          have hcr8 : Chg No u w8 := (hcr.alloc (.cells #[.int .i64 wf, .int .i64 (ver + 1), .string wv] 71)).grew hg8 (fun i hi => .inr (hown7.lt i hi).1)
          have hsl : Sl (Lt w.heap.size) w8 v8 (o ++ [c]) := hown8.slFlat (fun i hi hb => by have := (hown8.lt i hi).1; have := hlt0 i hb; omega)
          have Hsl := Lib.hid hsl
          have hcf := hc0u.trans hcr8
          clear hown7 hown8 hg8 hsl e0 e1 e2 Hown
          go_wp2_with (first | (with_reducible refine stop_append ?_) | (with_reducible refine stop_copy ?_) | (with_reducible refine stop_make ?_) | (with_reducible refine stop_lookup ?_) | (with_reducible refine stop_update ?_) | (with_reducible refine stop_slice ?_) | (with_reducible refine stop_range ?_) | (with_reducible refine stop_next ?_) | (with_reducible refine stop_convert ⟨_, rfl⟩ ?_) | (with_reducible refine stop_convertB ⟨_, _, _, rfl⟩ ?_) | (with_reducible refine stop_eqSlice ⟨_, _, rfl⟩ ?_))
          go_ret
          exact ⟨_, rfl, hcf, by rw [Hwl.out]; exact Hsl.out⟩
        · have hown7 := Hown.out
          have hsl : Sl (Lt w.heap.size) wr _ o := hown7.slFlat (fun i hi hb => by have := (hown7.lt i hi).1; have := hlt0 i hb; omega)
          have Hsl := Lib.hid hsl
          have hcf := hc0u.trans hcr
          clear hown7 hsl Hown
          go_wp2_with (first | (with_reducible refine stop_append ?_) | (with_reducible refine stop_copy ?_) | (with_reducible refine stop_make ?_) | (with_reducible refine stop_lookup ?_) | (with_reducible refine stop_update ?_) | (with_reducible refine stop_slice ?_) | (with_reducible refine stop_range ?_) | (with_reducible refine stop_next ?_) | (with_reducible refine stop_convert ⟨_, rfl⟩ ?_) | (with_reducible refine stop_convertB ⟨_, _, _, rfl⟩ ?_) | (with_reducible refine stop_eqSlice ⟨_, _, rfl⟩ ?_))
          go_ret
          exact ⟨_, rfl, hcf, by rw [Hwl.out]; exact Hsl.out⟩
end Go.Proofs.Ytnioljagmimojaa
