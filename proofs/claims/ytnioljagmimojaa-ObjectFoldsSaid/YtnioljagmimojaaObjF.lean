/- Walks of package object: the store's small methods. -/
import Derived.Test.YtnioljagmimojaaObjE
import Derived.Test.YtnioljagmimojaaMap
set_option linter.unusedVariables false
set_option linter.unusedSimpArgs false
namespace Go.Proofs.Ytnioljagmimojaa
open Go.RowKit Cb

def cellV (c : ByteArray × Int) : Value := .agg #[.string c.1, .int .i64 c.2]
structure Store where
  cs : List (Int × (ByteArray × Int))
  ids : List (Int × Bool)
  n : Int
def Sto (w : World) (p rc ri : Nat) (s : Store) : Prop :=
  w.heap[p]? = some (.cells #[.map (some rc), .map (some ri), .int .i64 s.n] 106 (0, 0)) ∧ MapAt w rc (.int .i64) cellV s.cs ∧ MapAt w ri (.int .i64) .bool s.ids ∧ p ≠ rc ∧ p ≠ ri ∧ rc ≠ ri
def Sf (p rc ri : Nat) : Nat → Prop := fun k => k = p ∨ k = rc ∨ k = ri
theorem Sto.keep {w w' : World} {p rc ri : Nat} {s : Store} {F : Nat → Prop} (h : Sto w p rc ri s) (hc : Chg F w w') (hF : ∀ k, Sf p rc ri k → ¬ F k) : Sto w' p rc ri s := by
  obtain ⟨h1, h2, h3, h4⟩ := h
  exact ⟨hc.obj h1 (hF _ (.inl rfl)), h2.keep hc (hF _ (.inr (.inl rfl))), h3.keep hc (hF _ (.inr (.inr rfl))), h4⟩
theorem Sto.keepNo {w w' : World} {p rc ri : Nat} {s : Store} (h : Sto w p rc ri s) (hc : Chg No w w') : Sto w' p rc ri s := h.keep hc (fun _ _ => not_no _)
theorem Sto.lt {w : World} {p rc ri : Nat} {s : Store} (h : Sto w p rc ri s) : ∀ k, Sf p rc ri k → k < w.heap.size := by
  obtain ⟨h1, h2, h3, h4⟩ := h
  rintro k (rfl | rfl | rfl)
  · exact lt_of_heap h1
  · exact h2.lt
  · exact h3.lt
def verS (s : Store) (f : Int) : Int := ((mget s.cs f).getD (⟨#[]⟩, 0)).2
def valS (s : Store) (f : Int) : ByteArray := ((mget s.cs f).getD (⟨#[]⟩, 0)).1
theorem klI : KeyLaw Try.prog 3 (Value.int .i64) := keyLaw_int Try.underlying3
theorem zCell : (Try.prog.info? 108).bind (·.zero) = some (.agg #[.string ⟨#[]⟩, .int .i64 0]) := by kernel_rfl
theorem zBool : (Try.prog.info? 4).bind (·.zero) = some (.bool false) := by kernel_rfl
theorem look_cell (s : Store) (f : Int) : ((mget s.cs f).map cellV).getD (.agg #[.string ⟨#[]⟩, .int .i64 0]) = .agg #[.string (valS s f), .int .i64 (verS s f)] := by
  unfold valS verS; cases mget s.cs f <;> rfl
theorem look_id (s : Store) (id : Int) : ((mget s.ids id).map Value.bool).getD (.bool false) = .bool ((mget s.ids id).getD false) := by
  cases mget s.ids id <;> rfl
/-- The runs that walks ask for. -/
theorem run_cells {w : World} {p rc ri : Nat} {s : Store} (h : Sto w p rc ri s) (f : Int) :
    (Instr.lookup 103 (.map (some rc)) (.int .i64 f) false).run Try.prog w = .ok (.agg #[.string (valS s f), .int .i64 (verS s f)]) w := by
  have := run_lookup klI Try.underlying103 zCell h.2.1 f false
  simpa [look_cell] using this
theorem run_ids {w : World} {p rc ri : Nat} {s : Store} (h : Sto w p rc ri s) (id : Int) (ok : Bool) :
    (Instr.lookup 104 (.map (some ri)) (.int .i64 id) ok).run Try.prog w = .ok (if ok then .tuple #[.bool ((mget s.ids id).getD false), .bool (mget s.ids id).isSome] else .bool ((mget s.ids id).getD false)) w := by
  have := run_lookup klI Try.underlying104 zBool h.2.2.1 id ok
  simpa [look_id] using this

theorem new_any (w : World) : Calls Try.prog 21 #[] w fun e w' => ∃ p rc ri, e = .returned (.pointer (some ⟨p, 0, none⟩)) ∧ Sto w' p rc ri ⟨[], [], 0⟩ ∧ Chg No w w' ∧ ∀ k, Sf p rc ri k → w.heap.size ≤ k := by
  have hmm := @run_makeMap Try.prog
  go_enter Try.func21, Try.ntmps21
  go_wp2_with (first | (with_reducible refine stop_append ?_) | (with_reducible refine stop_copy ?_) | (with_reducible refine stop_make ?_) | (with_reducible refine stop_lookup ?_) | (with_reducible refine stop_update ?_) | (with_reducible refine stop_slice ?_) | (with_reducible refine stop_range ?_) | (with_reducible refine stop_next ?_) | (with_reducible refine stop_convert ⟨_, rfl⟩ ?_) | (with_reducible refine stop_convertB ⟨_, _, _, rfl⟩ ?_) | (with_reducible refine stop_eqSlice ⟨_, _, rfl⟩ ?_))
  go_ret
  have c1 := (Chg.refl No w).alloc (.map #[] 0)
  have c2 := (Chg.refl No (w.alloc (.map #[] 0))).alloc (.map #[] 0)
  have c3 := (Chg.refl No ((w.alloc (.map #[] 0)).alloc (.map #[] 0))).alloc (.cells #[.map (some w.heap.size), .map (some (w.heap.size + 1)), .int .i64 0] 106)
  have e2 : (w.alloc (.map #[] 0)).heap.size = w.heap.size + 1 := by simp
  have e3 : ((w.alloc (.map #[] 0)).alloc (.map #[] 0)).heap.size = w.heap.size + 2 := by simp
  refine ⟨w.heap.size + 2, w.heap.size, w.heap.size + 1, by simp, ⟨by have := alloc_obj ((w.alloc (.map #[] 0)).alloc (.map #[] 0)) (.cells #[.map (some w.heap.size), .map (some (w.heap.size + 1)), .int .i64 0] 106); rw [e3] at this; exact this, ?_, ?_, by omega, by omega, by omega⟩, (c1.trans c2).trans c3, ?_⟩
  · exact ((MapAt.made w _ _).keep c2 (not_no _)).keep c3 (not_no _)
  · have := (MapAt.made (w.alloc (.map #[] 0)) (κ := Int) (β := Bool) (.int .i64) .bool).keep c3 (not_no _); rw [e2] at this; exact this
  · rintro k (rfl | rfl | rfl) <;> omega
set_option maxRecDepth 100000 in
set_option maxHeartbeats 1000000 in
theorem get_any (p rc ri : Nat) (s : Store) (f : Int) (w : World) (h : Sto w p rc ri s) :
    Calls Try.prog 25 #[.pointer (some ⟨p, 0, none⟩), .int .i64 f] w fun e w' => e = .returned (.tuple #[.string (valS s f), .int .i64 (verS s f)]) ∧ Chg No w w' := by
  have h0 := cell_obj (i := 0) h.1 rfl
  have hr := run_cells h f
  have Hl := Lib.hid h
  clear h
  generalize valS s f = v at *
  generalize verS s f = n at *
  go_enter Try.func25, Try.ntmps25
  go_wp2
  have c1 := (Chg.refl No w).alloc (.cells #[.string v, .int .i64 n] 108)
  have a0 := cell_obj (i := 0) (alloc_obj w (.cells #[.string v, .int .i64 n] 108)) rfl
  have a1 := cell_obj (i := 1) (alloc_obj w (.cells #[.string v, .int .i64 n] 108)) rfl
  generalize w.alloc (.cells #[.string v, .int .i64 n] 108) = w1 at *
  generalize w.heap.size = q at *
  refine reg_start (fun W => W.cell? ⟨q, 0, none⟩ = some (.string v) ∧ W.cell? ⟨q, 1, none⟩ = some (.int .i64 n)) (by kernel_rfl) ?_
  ((refine reg_yes (i := 0) (oi := { dst := some 13, op := Go.Op.fieldAddr 108 (Go.Operand.tmp 6) 0, type := 0, pos := "object.go:126", after := #[], guard := none }) (v := ?_) rfl (by kernel_rfl) (by kernel_rfl) (by kernel_rfl) (fun _ _ _ h => h) rfl ?_ ?_); rotate_left; focus (intro W hW; (try dsimp only at hW); go_split_ands; go_simp; (try (simp (disch := omega) only [IntWalk.i64_in]; (try go_simp))); (try (split; (next => omega); (try go_simp))); try rfl; done))
  try simp only [Act.put, List.setIfInBounds_toArray, List.set_cons_zero, List.set_cons_succ]
  ((refine reg_yes (i := 1) (oi := { dst := some 14, op := Go.Op.load 9 (Go.Operand.tmp 13), type := 9, pos := "object.go:126", after := #[{ on := 0, ground := Go.Ground.data }], guard := none }) (v := ?_) rfl (by kernel_rfl) (by kernel_rfl) (by kernel_rfl) (fun _ _ _ h => h) rfl ?_ ?_); rotate_left; focus (intro W hW; (try dsimp only at hW); go_split_ands; go_simp; (try (simp (disch := omega) only [IntWalk.i64_in]; (try go_simp))); (try (split; (next => omega); (try go_simp))); try rfl; done))
  try simp only [Act.put, List.setIfInBounds_toArray, List.set_cons_zero, List.set_cons_succ]
  ((refine reg_yes (i := 2) (oi := { dst := some 15, op := Go.Op.fieldAddr 108 (Go.Operand.tmp 6) 1, type := 0, pos := "object.go:126", after := #[{ on := 4, ground := Go.Ground.gcOnly Go.Departure.lateStores }], guard := none }) (v := ?_) rfl (by kernel_rfl) (by kernel_rfl) (by kernel_rfl) (fun _ _ _ h => h) rfl ?_ ?_); rotate_left; focus (intro W hW; (try dsimp only at hW); go_split_ands; go_simp; (try (simp (disch := omega) only [IntWalk.i64_in]; (try go_simp))); (try (split; (next => omega); (try go_simp))); try rfl; done))
  try simp only [Act.put, List.setIfInBounds_toArray, List.set_cons_zero, List.set_cons_succ]
  ((refine reg_yes (i := 3) (oi := { dst := some 16, op := Go.Op.load 3 (Go.Operand.tmp 15), type := 3, pos := "object.go:126", after := #[{ on := 2, ground := Go.Ground.data }, { on := 4, ground := Go.Ground.gcOnly Go.Departure.lateStores }], guard := none }) (v := ?_) rfl (by kernel_rfl) (by kernel_rfl) (by kernel_rfl) (fun _ _ _ h => h) rfl ?_ ?_); rotate_left; focus (intro W hW; (try dsimp only at hW); go_split_ands; go_simp; (try (simp (disch := omega) only [IntWalk.i64_in]; (try go_simp))); (try (split; (next => omega); (try go_simp))); try rfl; done))
  try simp only [Act.put, List.setIfInBounds_toArray, List.set_cons_zero, List.set_cons_succ]
  ((refine reg_yes (i := 4) (oi := { dst := some 4, op := Go.Op.assign (Go.Operand.tmp 14), type := 9, pos := "object.go:126", after := #[{ on := 1, ground := Go.Ground.data }, { on := 0, ground := Go.Ground.phase }, { on := 1, ground := Go.Ground.phase }, { on := 2, ground := Go.Ground.textOnly Go.Departure.lateStores }, { on := 3, ground := Go.Ground.textOnly Go.Departure.lateStores }], guard := none }) (v := ?_) rfl (by kernel_rfl) (by kernel_rfl) (by kernel_rfl) (fun _ _ _ h => h) rfl ?_ ?_); rotate_left; focus (intro W hW; (try dsimp only at hW); go_split_ands; go_simp; (try (simp (disch := omega) only [IntWalk.i64_in]; (try go_simp))); (try (split; (next => omega); (try go_simp))); try rfl; done))
  try simp only [Act.put, List.setIfInBounds_toArray, List.set_cons_zero, List.set_cons_succ]
  ((refine reg_yes (i := 5) (oi := { dst := some 5, op := Go.Op.assign (Go.Operand.tmp 16), type := 3, pos := "object.go:126", after := #[{ on := 3, ground := Go.Ground.data }, { on := 4, ground := Go.Ground.chain }, { on := 0, ground := Go.Ground.phase }, { on := 1, ground := Go.Ground.phase }, { on := 2, ground := Go.Ground.phase }, { on := 3, ground := Go.Ground.phase }, { on := 4, ground := Go.Ground.phase }], guard := none }) (v := ?_) rfl (by kernel_rfl) (by kernel_rfl) (by kernel_rfl) (fun _ _ _ h => h) rfl ?_ ?_); rotate_left; focus (intro W hW; (try dsimp only at hW); go_split_ands; go_simp; (try (simp (disch := omega) only [IntWalk.i64_in]; (try go_simp))); (try (split; (next => omega); (try go_simp))); try rfl; done))
  try simp only [Act.put, List.setIfInBounds_toArray, List.set_cons_zero, List.set_cons_succ]
  -- ready: []
  refine reg_done (by kernel_rfl) ⟨a0, a1⟩ ?_
  go_wp2_with (first | (with_reducible refine stop_append ?_) | (with_reducible refine stop_copy ?_) | (with_reducible refine stop_make ?_) | (with_reducible refine stop_lookup ?_) | (with_reducible refine stop_update ?_) | (with_reducible refine stop_slice ?_) | (with_reducible refine stop_range ?_) | (with_reducible refine stop_next ?_) | (with_reducible refine stop_convert ⟨_, rfl⟩ ?_) | (with_reducible refine stop_convertB ⟨_, _, _, rfl⟩ ?_) | (with_reducible refine stop_eqSlice ⟨_, _, rfl⟩ ?_))
  go_ret2
  exact ⟨rfl, c1.drew⟩
theorem outcome_any (p rc ri : Nat) (s : Store) (id : Int) (w : World) (h : Sto w p rc ri s) :
    Calls Try.prog 26 #[.pointer (some ⟨p, 0, none⟩), .int .i64 id] w fun e w' => e = .returned (.tuple #[.bool ((mget s.ids id).getD false), .bool (mget s.ids id).isSome]) ∧ w = w' := by
  have h0 := cell_obj (i := 1) h.1 rfl
  have hr := run_ids h id true
  clear h
  generalize (mget s.ids id).getD false = v at *
  generalize (mget s.ids id).isSome = n at *
  go_enter Try.func26, Try.ntmps26
  go_wp2
  go_ret2
  exact ⟨rfl, rfl⟩
theorem done_any (p rc ri : Nat) (s : Store) (w : World) (h : Sto w p rc ri s) :
    Calls Try.prog 28 #[.pointer (some ⟨p, 0, none⟩)] w fun e w' => e = .returned (.int .i64 s.n) ∧ w = w' := by
  have h0 := cell_obj (i := 2) h.1 rfl
  clear h
  go_enter Try.func28, Try.ntmps28
  go_wp2
  go_ret
  exact ⟨rfl, rfl⟩
def staleB (s : Store) (r : Int × Int) : Bool := verS s r.1 != r.2
set_option maxRecDepth 100000 in
set_option maxHeartbeats 1000000 in
theorem stale_any (q p rc ri : Nat) (s : Store) (x : Int × Int) (w : World) (h : Sto w p rc ri s) (hq : w.cell? ⟨q, 0, none⟩ = some (.pointer (some ⟨p, 0, none⟩))) :
    Calls Try.prog 55 #[.agg #[.int .i64 x.1, .int .i64 x.2], .pointer (some ⟨q, 0, none⟩)] w fun e w' => e = .returned (.bool (staleB s x)) ∧ Chg No w w' := by
  obtain ⟨f, y⟩ := x
  simp only
  have h1 := h.keepNo ((Chg.refl No w).alloc (.cells #[.int .i64 f, .int .i64 y] 77))
  have q1 := ((Chg.refl No w).alloc (.cells #[.int .i64 f, .int .i64 y] 77)).cell hq (not_no _)
  have c1 := ((Chg.refl No w).alloc (.cells #[.int .i64 f, .int .i64 y] 77))
  have a0 := cell_obj (i := 0) (alloc_obj w (.cells #[.int .i64 f, .int .i64 y] 77)) rfl
  have a1 := cell_obj (i := 1) (alloc_obj w (.cells #[.int .i64 f, .int .i64 y] 77)) rfl
  go_enter Try.func55, Try.ntmps55
  go_wp2_with (first | (with_reducible refine stop_append ?_) | (with_reducible refine stop_copy ?_) | (with_reducible refine stop_make ?_) | (with_reducible refine stop_lookup ?_) | (with_reducible refine stop_update ?_) | (with_reducible refine stop_slice ?_) | (with_reducible refine stop_range ?_) | (with_reducible refine stop_next ?_) | (with_reducible refine stop_convert ⟨_, rfl⟩ ?_) | (with_reducible refine stop_convertB ⟨_, _, _, rfl⟩ ?_) | (with_reducible refine stop_eqSlice ⟨_, _, rfl⟩ ?_))
  generalize w.alloc (.cells #[.int .i64 f, .int .i64 y] 77) = w1 at *
  generalize w.heap.size = qq at *
  clear hq
  have p0 := cell_obj (i := 0) h1.1 rfl
  have hr : ∀ W, Chg No w1 W → (Instr.lookup 103 (.map (some rc)) (.int .i64 f) false).run Try.prog W = .ok (.agg #[.string (valS s f), .int .i64 (verS s f)]) W := fun W hc => run_cells (h1.keepNo hc) f
  have Hr := Lib.hid hr
  clear hr h h1
  generalize valS s f = vv at *
  generalize hv : verS s f = vn at *
  have Hv := Lib.hid hv; clear hv
  have hS : (fun W => W.cell? ⟨q, 0, none⟩ = some (.pointer (some ⟨p, 0, none⟩)) ∧ W.cell? ⟨p, 0, none⟩ = some (.map (some rc)) ∧ W.cell? ⟨qq, 0, none⟩ = some (.int .i64 f) ∧ W.cell? ⟨qq, 1, none⟩ = some (.int .i64 y) ∧ (Instr.lookup 103 (.map (some rc)) (.int .i64 f) false).run Try.prog W = .ok (.agg #[.string vv, .int .i64 vn]) W) w1.drew := ⟨q1, p0, a0, a1, Hr.out _ (Chg.refl No w1).drew⟩
  refine reg_start (fun W => W.cell? ⟨q, 0, none⟩ = some (.pointer (some ⟨p, 0, none⟩)) ∧ W.cell? ⟨p, 0, none⟩ = some (.map (some rc)) ∧ W.cell? ⟨qq, 0, none⟩ = some (.int .i64 f) ∧ W.cell? ⟨qq, 1, none⟩ = some (.int .i64 y) ∧ (Instr.lookup 103 (.map (some rc)) (.int .i64 f) false).run Try.prog W = .ok (.agg #[.string vv, .int .i64 vn]) W) (by kernel_rfl) ?_
  ((refine reg_yes (i := 0) (oi := { dst := some 4, op := Go.Op.load 46 (Go.Operand.tmp 1), type := 46, pos := "object.go:111", after := #[], guard := none }) (v := ?_) rfl (by kernel_rfl) (by kernel_rfl) (by kernel_rfl) (fun _ _ _ h => h) rfl ?_ ?_); rotate_left; focus (intro W hW; (try dsimp only at hW); go_split_ands; go_simp; (try (simp (disch := omega) only [IntWalk.i64_in]; (try go_simp))); (try (split; (next => omega); (try go_simp))); try rfl; done))
  try simp only [Act.put, List.setIfInBounds_toArray, List.set_cons_zero, List.set_cons_succ]
  ((refine reg_yes (i := 1) (oi := { dst := some 5, op := Go.Op.nilCheck (Go.Operand.tmp 4), type := 0, pos := "object.go:111", after := #[{ on := 0, ground := Go.Ground.data }], guard := none }) (v := ?_) rfl (by kernel_rfl) (by kernel_rfl) (by kernel_rfl) (fun _ _ _ h => h) rfl ?_ ?_); rotate_left; focus (intro W hW; (try dsimp only at hW); go_split_ands; go_simp; (try (simp (disch := omega) only [IntWalk.i64_in]; (try go_simp))); (try (split; (next => omega); (try go_simp))); try rfl; done))
  try simp only [Act.put, List.setIfInBounds_toArray, List.set_cons_zero, List.set_cons_succ]
  ((refine reg_yes (i := 2) (oi := { dst := some 6, op := Go.Op.fieldAddr 106 (Go.Operand.tmp 5) 0, type := 0, pos := "object.go:111", after := #[{ on := 1, ground := Go.Ground.data }], guard := none }) (v := ?_) rfl (by kernel_rfl) (by kernel_rfl) (by kernel_rfl) (fun _ _ _ h => h) rfl ?_ ?_); rotate_left; focus (intro W hW; (try dsimp only at hW); go_split_ands; go_simp; (try (simp (disch := omega) only [IntWalk.i64_in]; (try go_simp))); (try (split; (next => omega); (try go_simp))); try rfl; done))
  try simp only [Act.put, List.setIfInBounds_toArray, List.set_cons_zero, List.set_cons_succ]
  ((refine reg_yes (i := 3) (oi := { dst := some 7, op := Go.Op.load 103 (Go.Operand.tmp 6), type := 103, pos := "object.go:111", after := #[{ on := 2, ground := Go.Ground.data }], guard := none }) (v := ?_) rfl (by kernel_rfl) (by kernel_rfl) (by kernel_rfl) (fun _ _ _ h => h) rfl ?_ ?_); rotate_left; focus (intro W hW; (try dsimp only at hW); go_split_ands; go_simp; (try (simp (disch := omega) only [IntWalk.i64_in]; (try go_simp))); (try (split; (next => omega); (try go_simp))); try rfl; done))
  try simp only [Act.put, List.setIfInBounds_toArray, List.set_cons_zero, List.set_cons_succ]
  ((refine reg_yes (i := 4) (oi := { dst := some 8, op := Go.Op.fieldAddr 77 (Go.Operand.tmp 2) 0, type := 0, pos := "object.go:111", after := #[], guard := none }) (v := ?_) rfl (by kernel_rfl) (by kernel_rfl) (by kernel_rfl) (fun _ _ _ h => h) rfl ?_ ?_); rotate_left; focus (intro W hW; (try dsimp only at hW); go_split_ands; go_simp; (try (simp (disch := omega) only [IntWalk.i64_in]; (try go_simp))); (try (split; (next => omega); (try go_simp))); try rfl; done))
  try simp only [Act.put, List.setIfInBounds_toArray, List.set_cons_zero, List.set_cons_succ]
  ((refine reg_yes (i := 5) (oi := { dst := some 9, op := Go.Op.load 3 (Go.Operand.tmp 8), type := 3, pos := "object.go:111", after := #[{ on := 4, ground := Go.Ground.data }], guard := none }) (v := ?_) rfl (by kernel_rfl) (by kernel_rfl) (by kernel_rfl) (fun _ _ _ h => h) rfl ?_ ?_); rotate_left; focus (intro W hW; (try dsimp only at hW); go_split_ands; go_simp; (try (simp (disch := omega) only [IntWalk.i64_in]; (try go_simp))); (try (split; (next => omega); (try go_simp))); try rfl; done))
  try simp only [Act.put, List.setIfInBounds_toArray, List.set_cons_zero, List.set_cons_succ]
  ((refine reg_yes (i := 6) (oi := { dst := some 10, op := Go.Op.lookup 103 (Go.Operand.tmp 7) (Go.Operand.tmp 9) false, type := 108, pos := "object.go:111", after := #[{ on := 3, ground := Go.Ground.data }, { on := 5, ground := Go.Ground.data }], guard := none }) (v := ?_) rfl (by kernel_rfl) (by kernel_rfl) (by kernel_rfl) (fun _ _ _ h => h) rfl ?_ ?_); rotate_left; focus (intro W hW; (try dsimp only at hW); go_split_ands; go_simp; (try (simp (disch := omega) only [IntWalk.i64_in]; (try go_simp))); (try (split; (next => omega); (try go_simp))); try rfl; done))
  try simp only [Act.put, List.setIfInBounds_toArray, List.set_cons_zero, List.set_cons_succ]
  ((refine reg_yes (i := 7) (oi := { dst := some 11, op := Go.Op.field 108 (Go.Operand.tmp 10) 1, type := 3, pos := "object.go:111", after := #[{ on := 6, ground := Go.Ground.data }], guard := none }) (v := ?_) rfl (by kernel_rfl) (by kernel_rfl) (by kernel_rfl) (fun _ _ _ h => h) rfl ?_ ?_); rotate_left; focus (intro W hW; (try dsimp only at hW); go_split_ands; go_simp; (try (simp (disch := omega) only [IntWalk.i64_in]; (try go_simp))); (try (split; (next => omega); (try go_simp))); try rfl; done))
  try simp only [Act.put, List.setIfInBounds_toArray, List.set_cons_zero, List.set_cons_succ]
  ((refine reg_yes (i := 8) (oi := { dst := some 12, op := Go.Op.fieldAddr 77 (Go.Operand.tmp 2) 1, type := 0, pos := "object.go:111", after := #[], guard := none }) (v := ?_) rfl (by kernel_rfl) (by kernel_rfl) (by kernel_rfl) (fun _ _ _ h => h) rfl ?_ ?_); rotate_left; focus (intro W hW; (try dsimp only at hW); go_split_ands; go_simp; (try (simp (disch := omega) only [IntWalk.i64_in]; (try go_simp))); (try (split; (next => omega); (try go_simp))); try rfl; done))
  try simp only [Act.put, List.setIfInBounds_toArray, List.set_cons_zero, List.set_cons_succ]
  ((refine reg_yes (i := 9) (oi := { dst := some 13, op := Go.Op.load 3 (Go.Operand.tmp 12), type := 3, pos := "object.go:111", after := #[{ on := 8, ground := Go.Ground.data }], guard := none }) (v := ?_) rfl (by kernel_rfl) (by kernel_rfl) (by kernel_rfl) (fun _ _ _ h => h) rfl ?_ ?_); rotate_left; focus (intro W hW; (try dsimp only at hW); go_split_ands; go_simp; (try (simp (disch := omega) only [IntWalk.i64_in]; (try go_simp))); (try (split; (next => omega); (try go_simp))); try rfl; done))
  try simp only [Act.put, List.setIfInBounds_toArray, List.set_cons_zero, List.set_cons_succ]
  ((refine reg_yes (i := 10) (oi := { dst := some 14, op := Go.Op.binOp Go.BinOp.neq 3 (Go.Operand.tmp 11) (Go.Operand.tmp 13) 3, type := 4, pos := "object.go:111", after := #[{ on := 7, ground := Go.Ground.data }, { on := 9, ground := Go.Ground.data }], guard := none }) (v := ?_) rfl (by kernel_rfl) (by kernel_rfl) (by kernel_rfl) (fun _ _ _ h => h) rfl ?_ ?_); rotate_left; focus (intro W hW; (try dsimp only at hW); go_split_ands; go_simp; (try (simp (disch := omega) only [IntWalk.i64_in]; (try go_simp))); (try (split; (next => omega); (try go_simp))); try rfl; done))
  try simp only [Act.put, List.setIfInBounds_toArray, List.set_cons_zero, List.set_cons_succ]
  ((refine reg_yes (i := 11) (oi := { dst := some 3, op := Go.Op.assign (Go.Operand.tmp 14), type := 4, pos := "object.go:111", after := #[{ on := 10, ground := Go.Ground.data }, { on := 0, ground := Go.Ground.phase }, { on := 1, ground := Go.Ground.phase }, { on := 2, ground := Go.Ground.phase }, { on := 3, ground := Go.Ground.phase }, { on := 4, ground := Go.Ground.phase }, { on := 5, ground := Go.Ground.phase }, { on := 6, ground := Go.Ground.phase }, { on := 7, ground := Go.Ground.phase }, { on := 8, ground := Go.Ground.phase }, { on := 9, ground := Go.Ground.phase }, { on := 10, ground := Go.Ground.phase }], guard := none }) (v := ?_) rfl (by kernel_rfl) (by kernel_rfl) (by kernel_rfl) (fun _ _ _ h => h) rfl ?_ ?_); rotate_left; focus (intro W hW; (try dsimp only at hW); go_split_ands; go_simp; (try (simp (disch := omega) only [IntWalk.i64_in]; (try go_simp))); (try (split; (next => omega); (try go_simp))); try rfl; done))
  try simp only [Act.put, List.setIfInBounds_toArray, List.set_cons_zero, List.set_cons_succ]
  -- ready: []
  refine reg_done (by kernel_rfl) hS ?_
  go_wp2_with (first | (with_reducible refine stop_append ?_) | (with_reducible refine stop_copy ?_) | (with_reducible refine stop_make ?_) | (with_reducible refine stop_lookup ?_) | (with_reducible refine stop_update ?_) | (with_reducible refine stop_slice ?_) | (with_reducible refine stop_range ?_) | (with_reducible refine stop_next ?_) | (with_reducible refine stop_convert ⟨_, rfl⟩ ?_) | (with_reducible refine stop_convertB ⟨_, _, _, rfl⟩ ?_) | (with_reducible refine stop_eqSlice ⟨_, _, rfl⟩ ?_))
  go_ret
  exact ⟨by simp [staleB, Hv.out], c1.drew⟩
end Go.Proofs.Ytnioljagmimojaa
