/- Walks of package object: Add. -/
import Derived.Test.YtnioljagmimojaaObjF
set_option linter.unusedVariables false
set_option linter.unusedSimpArgs false
namespace Go.Proofs.Ytnioljagmimojaa
open Go.RowKit Cb

def verC (cs : List (Int × (ByteArray × Int))) (f : Int) : Int := ((mget cs f).getD (⟨#[]⟩, 0)).2
def writeS (cs : List (Int × (ByteArray × Int))) (ws : List (Int × ByteArray)) : List (Int × (ByteArray × Int)) := ws.foldl (fun cs x => mset cs x.1 (x.2, verC cs x.1 + 1)) cs
def addS (s : Store) (t : Tx) : Store × Bool :=
  if (mget s.ids t.1).isSome then (s, false)
  else if t.2.1.any (staleB s) then (⟨s.cs, mset s.ids t.1 false, s.n⟩, true)
  else (⟨writeS s.cs t.2.2, mset s.ids t.1 true, s.n + 1⟩, true)
def addD (s : Store) (data : ByteArray) : Store × Bool := match parseR data.data.toList with | none => (s, false) | some t => addS s t
theorem Sto.putId {w w' : World} {p rc ri : Nat} {s : Store} {id : Int} {b : Bool} (h : Sto w p rc ri s) (hm : MapAt w' ri (.int .i64) .bool (mset s.ids id b)) (hc : Chg (At ri) w w') : Sto w' p rc ri ⟨s.cs, mset s.ids id b, s.n⟩ := by
  obtain ⟨h1, h2, h3, h4, h5, h6⟩ := h
  exact ⟨hc.obj h1 h5, h2.keep hc h6, hm, h4, h5, h6⟩
theorem Sto.putCell {w w' : World} {p rc ri : Nat} {s : Store} {f : Int} {b : ByteArray × Int} (h : Sto w p rc ri s) (hm : MapAt w' rc (.int .i64) cellV (mset s.cs f b)) (hc : Chg (At rc) w w') : Sto w' p rc ri ⟨mset s.cs f b, s.ids, s.n⟩ := by
  obtain ⟨h1, h2, h3, h4, h5, h6⟩ := h
  exact ⟨hc.obj h1 h4, hm, h3.keep hc (fun e => h6 e.symm), h4, h5, h6⟩
theorem Sto.putN {w : World} {p rc ri : Nat} {s : Store} (h : Sto w p rc ri s) (n : Int) : Sto (w.setCell ⟨p, 2, none⟩ (.int .i64 n)) p rc ri ⟨s.cs, s.ids, n⟩ := by
  obtain ⟨h1, h2, h3, h4, h5, h6⟩ := h
  exact ⟨set_obj h1 _, h2.keep (chg_set _) (fun e => h4 e.symm), h3.keep (chg_set _) (fun e => h5 e.symm), h4, h5, h6⟩
theorem Sto.free {w : World} {p rc ri : Nat} {s : Store} (h : Sto w p rc ri s) : w.frozen? ⟨p, 2, none⟩ = false := free_obj h.1
theorem en_stale (args : Array Value) (W : World) : (callFunc 55 args).run Try.prog W = .ok (.enter 55 args) W := by kernel_rfl
theorem parseR_right {bs : List UInt8} {t : Tx} (h : parseR bs = some t) : rightB t.1 t.2.1 t.2.2 = true := by
  unfold parseR at h
  dsimp only at h
  split at h
  · rename_i hh; simp only [Option.some.injEq] at h; rw [h] at hh; exact hh.2
  · cases h
set_option maxRecDepth 100000 in
set_option maxHeartbeats 1000000 in
theorem add_none (p rc ri : Nat) (s : Store) (data : ByteArray) (w : World) (h : Sto w p rc ri s) (hd : data.size ≤ 1000000) (hp : parseR data.data.toList = none) :
    Calls Try.prog 23 #[.pointer (some ⟨p, 0, none⟩), .string data] w fun e w' => e = .returned (.bool false) ∧ Chg No w w' := by
  have ho := alloc_obj w (.cells #[.pointer (some ⟨p, 0, none⟩)] 46)
  have hc0 := (Chg.refl No w).alloc (.cells #[.pointer (some ⟨p, 0, none⟩)] 46)
  go_enter Try.func23, Try.ntmps23
  go_wp2_with (first | (with_reducible refine stop_append ?_) | (with_reducible refine stop_copy ?_) | (with_reducible refine stop_make ?_) | (with_reducible refine stop_lookup ?_) | (with_reducible refine stop_update ?_) | (with_reducible refine stop_slice ?_) | (with_reducible refine stop_range ?_) | (with_reducible refine stop_next ?_) | (with_reducible refine stop_convert ⟨_, rfl⟩ ?_) | (with_reducible refine stop_convertB ⟨_, _, _, rfl⟩ ?_) | (with_reducible refine stop_eqSlice ⟨_, _, rfl⟩ ?_))
  generalize w.alloc (.cells #[.pointer (some ⟨p, 0, none⟩)] 46) = w0 at *
  generalize w.heap.size = qb at *
  refine (parse_any data _ hd).mono ?_
  rintro e w1 (⟨id, rs, ws, vr, vw, hP, _⟩ | ⟨hP, rfl, hc1⟩)
  · rw [hp] at hP; cases hP
  have hc01 := hc0.trans hc1
  have ho1 := hc1.obj ho (not_no _)
  have h1 := h.keepNo hc01
  clear hP h ho hc0 hc1
  go_wp2_with (first | (with_reducible refine stop_append ?_) | (with_reducible refine stop_copy ?_) | (with_reducible refine stop_make ?_) | (with_reducible refine stop_lookup ?_) | (with_reducible refine stop_update ?_) | (with_reducible refine stop_slice ?_) | (with_reducible refine stop_range ?_) | (with_reducible refine stop_next ?_) | (with_reducible refine stop_convert ⟨_, rfl⟩ ?_) | (with_reducible refine stop_convertB ⟨_, _, _, rfl⟩ ?_) | (with_reducible refine stop_eqSlice ⟨_, _, rfl⟩ ?_))
  have c2 := (Chg.refl No w1).alloc (.cells #[.int .i64 0, .slice none 0 0, .slice none 0 0] 33)
  have a0 := cell_obj (i := 0) (alloc_obj w1 (.cells #[.int .i64 0, .slice none 0 0, .slice none 0 0] 33)) rfl
  generalize w1.alloc (.cells #[.int .i64 0, .slice none 0 0, .slice none 0 0] 33) = w2 at *
  generalize w1.heap.size = qt at *
  have h2 := h1.keepNo c2
  have b0 := cell_obj (i := 0) (c2.obj ho1 (not_no _)) rfl
  have p1 := cell_obj (i := 1) h2.1 rfl
  have hr := run_ids (h2.keepNo (Chg.refl No w2).drew) 0 true
  have hc02 := (hc01.trans c2).drew
  generalize (mget s.ids 0).getD false = v1 at *
  generalize (mget s.ids 0).isSome = v2 at *
  clear h1 h2 ho1 hc01 c2
  have hS : (fun W => W.cell? ⟨qb, 0, none⟩ = some (.pointer (some ⟨p, 0, none⟩)) ∧ W.cell? ⟨p, 1, none⟩ = some (.map (some ri)) ∧ W.cell? ⟨qt, 0, none⟩ = some (.int .i64 0) ∧ (Instr.lookup 104 (.map (some ri)) (.int .i64 0) true).run Try.prog W = .ok (.tuple #[.bool v1, .bool v2]) W) w2.drew := ⟨b0, p1, a0, hr⟩
  refine reg_start (fun W => W.cell? ⟨qb, 0, none⟩ = some (.pointer (some ⟨p, 0, none⟩)) ∧ W.cell? ⟨p, 1, none⟩ = some (.map (some ri)) ∧ W.cell? ⟨qt, 0, none⟩ = some (.int .i64 0) ∧ (Instr.lookup 104 (.map (some ri)) (.int .i64 0) true).run Try.prog W = .ok (.tuple #[.bool v1, .bool v2]) W) (by kernel_rfl) ?_
  ((refine reg_yes (i := 0) (oi := { dst := some 18, op := Go.Op.load 46 (Go.Operand.tmp 2), type := 46, pos := "object.go:107", after := #[], guard := none }) (v := ?_) rfl (by kernel_rfl) (by kernel_rfl) (by kernel_rfl) (fun _ _ _ h => h) rfl ?_ ?_); rotate_left; focus (intro W hW; (try dsimp only at hW); go_split_ands; go_simp; (try (simp (disch := omega) only [IntWalk.i64_in]; (try go_simp))); (try (split; (next => omega); (try go_simp))); try rfl; done))
  try simp only [Act.put, List.setIfInBounds_toArray, List.set_cons_zero, List.set_cons_succ]
  ((refine reg_yes (i := 1) (oi := { dst := some 19, op := Go.Op.nilCheck (Go.Operand.tmp 18), type := 0, pos := "object.go:107", after := #[{ on := 0, ground := Go.Ground.data }], guard := none }) (v := ?_) rfl (by kernel_rfl) (by kernel_rfl) (by kernel_rfl) (fun _ _ _ h => h) rfl ?_ ?_); rotate_left; focus (intro W hW; (try dsimp only at hW); go_split_ands; go_simp; (try (simp (disch := omega) only [IntWalk.i64_in]; (try go_simp))); (try (split; (next => omega); (try go_simp))); try rfl; done))
  try simp only [Act.put, List.setIfInBounds_toArray, List.set_cons_zero, List.set_cons_succ]
  ((refine reg_yes (i := 2) (oi := { dst := some 20, op := Go.Op.fieldAddr 106 (Go.Operand.tmp 19) 1, type := 0, pos := "object.go:107", after := #[{ on := 1, ground := Go.Ground.data }], guard := none }) (v := ?_) rfl (by kernel_rfl) (by kernel_rfl) (by kernel_rfl) (fun _ _ _ h => h) rfl ?_ ?_); rotate_left; focus (intro W hW; (try dsimp only at hW); go_split_ands; go_simp; (try (simp (disch := omega) only [IntWalk.i64_in]; (try go_simp))); (try (split; (next => omega); (try go_simp))); try rfl; done))
  try simp only [Act.put, List.setIfInBounds_toArray, List.set_cons_zero, List.set_cons_succ]
  ((refine reg_yes (i := 3) (oi := { dst := some 21, op := Go.Op.load 104 (Go.Operand.tmp 20), type := 104, pos := "object.go:107", after := #[{ on := 2, ground := Go.Ground.data }], guard := none }) (v := ?_) rfl (by kernel_rfl) (by kernel_rfl) (by kernel_rfl) (fun _ _ _ h => h) rfl ?_ ?_); rotate_left; focus (intro W hW; (try dsimp only at hW); go_split_ands; go_simp; (try (simp (disch := omega) only [IntWalk.i64_in]; (try go_simp))); (try (split; (next => omega); (try go_simp))); try rfl; done))
  try simp only [Act.put, List.setIfInBounds_toArray, List.set_cons_zero, List.set_cons_succ]
  ((refine reg_yes (i := 4) (oi := { dst := some 22, op := Go.Op.fieldAddr 33 (Go.Operand.tmp 5) 0, type := 0, pos := "object.go:107", after := #[], guard := none }) (v := ?_) rfl (by kernel_rfl) (by kernel_rfl) (by kernel_rfl) (fun _ _ _ h => h) rfl ?_ ?_); rotate_left; focus (intro W hW; (try dsimp only at hW); go_split_ands; go_simp; (try (simp (disch := omega) only [IntWalk.i64_in]; (try go_simp))); (try (split; (next => omega); (try go_simp))); try rfl; done))
  try simp only [Act.put, List.setIfInBounds_toArray, List.set_cons_zero, List.set_cons_succ]
  ((refine reg_yes (i := 5) (oi := { dst := some 23, op := Go.Op.load 3 (Go.Operand.tmp 22), type := 3, pos := "object.go:107", after := #[{ on := 4, ground := Go.Ground.data }], guard := none }) (v := ?_) rfl (by kernel_rfl) (by kernel_rfl) (by kernel_rfl) (fun _ _ _ h => h) rfl ?_ ?_); rotate_left; focus (intro W hW; (try dsimp only at hW); go_split_ands; go_simp; (try (simp (disch := omega) only [IntWalk.i64_in]; (try go_simp))); (try (split; (next => omega); (try go_simp))); try rfl; done))
  try simp only [Act.put, List.setIfInBounds_toArray, List.set_cons_zero, List.set_cons_succ]
  ((refine reg_yes (i := 6) (oi := { dst := some 24, op := Go.Op.lookup 104 (Go.Operand.tmp 21) (Go.Operand.tmp 23) true, type := 56, pos := "object.go:107", after := #[{ on := 3, ground := Go.Ground.data }, { on := 5, ground := Go.Ground.data }], guard := none }) (v := ?_) rfl (by kernel_rfl) (by kernel_rfl) (by kernel_rfl) (fun _ _ _ h => h) rfl ?_ ?_); rotate_left; focus (intro W hW; (try dsimp only at hW); go_split_ands; go_simp; (try (simp (disch := omega) only [IntWalk.i64_in]; (try go_simp))); (try (split; (next => omega); (try go_simp))); try rfl; done))
  try simp only [Act.put, List.setIfInBounds_toArray, List.set_cons_zero, List.set_cons_succ]
  ((refine reg_yes (i := 7) (oi := { dst := some 17, op := Go.Op.move (Go.Operand.tmp 24), type := 56, pos := "object.go:107", after := #[{ on := 6, ground := Go.Ground.data }], guard := none }) (v := ?_) rfl (by kernel_rfl) (by kernel_rfl) (by kernel_rfl) (fun _ _ _ h => h) rfl ?_ ?_); rotate_left; focus (intro W hW; (try dsimp only at hW); go_split_ands; go_simp; (try (simp (disch := omega) only [IntWalk.i64_in]; (try go_simp))); (try (split; (next => omega); (try go_simp))); try rfl; done))
  try simp only [Act.put, List.setIfInBounds_toArray, List.set_cons_zero, List.set_cons_succ]
  ((refine reg_yes (i := 8) (oi := { dst := some 25, op := Go.Op.extract (Go.Operand.tmp 17) 0, type := 4, pos := "object.go:107", after := #[{ on := 7, ground := Go.Ground.data }], guard := none }) (v := ?_) rfl (by kernel_rfl) (by kernel_rfl) (by kernel_rfl) (fun _ _ _ h => h) rfl ?_ ?_); rotate_left; focus (intro W hW; (try dsimp only at hW); go_split_ands; go_simp; (try (simp (disch := omega) only [IntWalk.i64_in]; (try go_simp))); (try (split; (next => omega); (try go_simp))); try rfl; done))
  try simp only [Act.put, List.setIfInBounds_toArray, List.set_cons_zero, List.set_cons_succ]
  ((refine reg_yes (i := 9) (oi := { dst := some 26, op := Go.Op.extract (Go.Operand.tmp 17) 1, type := 4, pos := "object.go:107", after := #[{ on := 7, ground := Go.Ground.data }, { on := 10, ground := Go.Ground.gcOnly Go.Departure.lateStores }], guard := none }) (v := ?_) rfl (by kernel_rfl) (by kernel_rfl) (by kernel_rfl) (fun _ _ _ h => h) rfl ?_ ?_); rotate_left; focus (intro W hW; (try dsimp only at hW); go_split_ands; go_simp; (try (simp (disch := omega) only [IntWalk.i64_in]; (try go_simp))); (try (split; (next => omega); (try go_simp))); try rfl; done))
  try simp only [Act.put, List.setIfInBounds_toArray, List.set_cons_zero, List.set_cons_succ]
  ((refine reg_yes (i := 10) (oi := { dst := some 7, op := Go.Op.assign (Go.Operand.tmp 25), type := 4, pos := "object.go:107", after := #[{ on := 8, ground := Go.Ground.data }, { on := 0, ground := Go.Ground.phase }, { on := 1, ground := Go.Ground.phase }, { on := 2, ground := Go.Ground.phase }, { on := 3, ground := Go.Ground.phase }, { on := 4, ground := Go.Ground.phase }, { on := 5, ground := Go.Ground.phase }, { on := 6, ground := Go.Ground.phase }, { on := 7, ground := Go.Ground.phase }, { on := 8, ground := Go.Ground.phase }, { on := 9, ground := Go.Ground.textOnly Go.Departure.lateStores }], guard := none }) (v := ?_) rfl (by kernel_rfl) (by kernel_rfl) (by kernel_rfl) (fun _ _ _ h => h) rfl ?_ ?_); rotate_left; focus (intro W hW; (try dsimp only at hW); go_split_ands; go_simp; (try (simp (disch := omega) only [IntWalk.i64_in]; (try go_simp))); (try (split; (next => omega); (try go_simp))); try rfl; done))
  try simp only [Act.put, List.setIfInBounds_toArray, List.set_cons_zero, List.set_cons_succ]
  ((refine reg_yes (i := 11) (oi := { dst := some 8, op := Go.Op.assign (Go.Operand.tmp 26), type := 4, pos := "object.go:107", after := #[{ on := 9, ground := Go.Ground.data }, { on := 10, ground := Go.Ground.chain }, { on := 0, ground := Go.Ground.phase }, { on := 1, ground := Go.Ground.phase }, { on := 2, ground := Go.Ground.phase }, { on := 3, ground := Go.Ground.phase }, { on := 4, ground := Go.Ground.phase }, { on := 5, ground := Go.Ground.phase }, { on := 6, ground := Go.Ground.phase }, { on := 7, ground := Go.Ground.phase }, { on := 8, ground := Go.Ground.phase }, { on := 9, ground := Go.Ground.phase }, { on := 10, ground := Go.Ground.phase }], guard := none }) (v := ?_) rfl (by kernel_rfl) (by kernel_rfl) (by kernel_rfl) (fun _ _ _ h => h) rfl ?_ ?_); rotate_left; focus (intro W hW; (try dsimp only at hW); go_split_ands; go_simp; (try (simp (disch := omega) only [IntWalk.i64_in]; (try go_simp))); (try (split; (next => omega); (try go_simp))); try rfl; done))
  try simp only [Act.put, List.setIfInBounds_toArray, List.set_cons_zero, List.set_cons_succ]
  -- ready: []
  refine reg_done (by kernel_rfl) hS ?_
  go_wp2_with (first | (with_reducible refine stop_append ?_) | (with_reducible refine stop_copy ?_) | (with_reducible refine stop_make ?_) | (with_reducible refine stop_lookup ?_) | (with_reducible refine stop_update ?_) | (with_reducible refine stop_slice ?_) | (with_reducible refine stop_range ?_) | (with_reducible refine stop_next ?_) | (with_reducible refine stop_convert ⟨_, rfl⟩ ?_) | (with_reducible refine stop_convertB ⟨_, _, _, rfl⟩ ?_) | (with_reducible refine stop_eqSlice ⟨_, _, rfl⟩ ?_))
  go_ret
  exact ⟨rfl, hc02⟩
def AddPost (p rc ri : Nat) (s : Store) (t : Tx) (w : World) (e : Ending) (w' : World) : Prop :=
  e = .returned (.bool (addS s t).2) ∧ Sto w' p rc ri (addS s t).1 ∧ Chg (Sf p rc ri) w w'
def BdS (B : Int) (s : Store) : Prop := (∀ f, 0 ≤ verS s f ∧ verS s f ≤ B) ∧ 0 ≤ s.n ∧ s.n ≤ B
theorem writeS_snoc (cs : List (Int × (ByteArray × Int))) (ws : List (Int × ByteArray)) (k : Nat) (h : k < ws.length) : writeS cs (ws.take (k + 1)) = mset (writeS cs (ws.take k)) ws[k].1 (ws[k].2, verC (writeS cs (ws.take k)) ws[k].1 + 1) := by
  unfold writeS; rw [List.take_succ_eq_append_getElem h, List.foldl_append]; rfl
theorem verC_mset (cs : List (Int × (ByteArray × Int))) (f g : Int) (c : ByteArray × Int) : verC (mset cs f c) g = if g = f then c.2 else verC cs g := by
  unfold verC; rw [mget_mset]; split <;> rfl
theorem writeS_bd (B : Int) (cs : List (Int × (ByteArray × Int))) (ws : List (Int × ByteArray)) (h : ∀ f, 0 ≤ verC cs f ∧ verC cs f ≤ B) : ∀ f, 0 ≤ verC (writeS cs ws) f ∧ verC (writeS cs ws) f ≤ B + ws.length := by
  induction ws generalizing cs B with
  | nil => simpa [writeS] using h
  | cons x ws ih =>
    intro f
    have := ih (B + 1) (mset cs x.1 (x.2, verC cs x.1 + 1)) (fun g => by rw [verC_mset]; have := h g; have := h x.1; split <;> omega) f
    simp only [writeS, List.foldl_cons] at this ⊢
    simp only [List.length_cons]; omega
set_option maxRecDepth 100000 in
set_option maxHeartbeats 1000000 in
theorem add_some (p rc ri : Nat) (s : Store) (data : ByteArray) (t : Tx) (w : World) (h : Sto w p rc ri s) (hd : data.size ≤ 1000000) (hp : parseR data.data.toList = some t) (hbd : BdS 1000000000 s) :
    Calls Try.prog 23 #[.pointer (some ⟨p, 0, none⟩), .string data] w (AddPost p rc ri s t w) := by
  obtain ⟨id, rs, ws⟩ := t
  have hR : rightB id rs ws = true := by
    exact parseR_right hp
  obtain ⟨_, _, hrl, _, hwl⟩ := rightB_iff hR
  have ho := alloc_obj w (.cells #[.pointer (some ⟨p, 0, none⟩)] 46)
  have hc0 := (Chg.refl No w).alloc (.cells #[.pointer (some ⟨p, 0, none⟩)] 46)
  have hsf := h.lt
  go_enter Try.func23, Try.ntmps23
  go_wp2_with (first | (with_reducible refine stop_append ?_) | (with_reducible refine stop_copy ?_) | (with_reducible refine stop_make ?_) | (with_reducible refine stop_lookup ?_) | (with_reducible refine stop_update ?_) | (with_reducible refine stop_slice ?_) | (with_reducible refine stop_range ?_) | (with_reducible refine stop_next ?_) | (with_reducible refine stop_convert ⟨_, rfl⟩ ?_) | (with_reducible refine stop_convertB ⟨_, _, _, rfl⟩ ?_) | (with_reducible refine stop_eqSlice ⟨_, _, rfl⟩ ?_))
  have hqb : ∀ k, Sf p rc ri k → w.heap.size ≠ k := fun k hk => by have := hsf k hk; omega
  generalize w.alloc (.cells #[.pointer (some ⟨p, 0, none⟩)] 46) = w0 at *
  generalize hqbe : w.heap.size = qb at *
  refine (parse_any data _ hd).mono ?_
  rintro e w1 (⟨id', rs', ws', vr, vw, hP, rfl, hc1, hs1, hs2⟩ | ⟨hP, rfl, hc1⟩)
  rotate_left
  · rw [hp] at hP; cases hP
  rw [hp] at hP
  cases hP
  have hc01 := hc0.trans hc1
  have ho1 := hc1.obj ho (not_no _)
  have h1 := h.keepNo hc01
  have hsf1 := h1.lt
  have hsz0 := hc0.size
  clear h ho hc0 hc1 hp hR
  obtain ⟨Ar, cr, rfl⟩ := hs1.slice
  obtain ⟨Aw, cw, rfl⟩ := hs2.slice
  go_wp2_with (first | (with_reducible refine stop_append ?_) | (with_reducible refine stop_copy ?_) | (with_reducible refine stop_make ?_) | (with_reducible refine stop_lookup ?_) | (with_reducible refine stop_update ?_) | (with_reducible refine stop_slice ?_) | (with_reducible refine stop_range ?_) | (with_reducible refine stop_next ?_) | (with_reducible refine stop_convert ⟨_, rfl⟩ ?_) | (with_reducible refine stop_convertB ⟨_, _, _, rfl⟩ ?_) | (with_reducible refine stop_eqSlice ⟨_, _, rfl⟩ ?_))
  have c2 := (Chg.refl No w1).alloc (.cells #[.int .i64 id, .slice Ar rs.length cr, .slice Aw ws.length cw] 33)
  have ot := alloc_obj w1 (.cells #[.int .i64 id, .slice Ar rs.length cr, .slice Aw ws.length cw] 33)
  have hqt : ∀ k, Sf p rc ri k → w1.heap.size ≠ k := fun k hk => by have := hsf1 k hk; omega
  generalize w1.alloc (.cells #[.int .i64 id, .slice Ar rs.length cr, .slice Aw ws.length cw] 33) = w2 at *
  generalize w1.heap.size = qt at *
  have h2 := h1.keepNo c2
  have ob := c2.obj ho1 (not_no _)
  have b0 := cell_obj (i := 0) ob rfl
  have a0 := cell_obj (i := 0) ot rfl
  have p1 := cell_obj (i := 1) h2.1 rfl
  have hr := run_ids (h2.keepNo (Chg.refl No w2).drew) id true
  have hc02 := hc01.trans c2
  have hs1 := hs1.keepNo c2
  have hs2 := hs2.keepNo c2
  clear h1 ho1 hc01 c2
  have hS : (fun W => W.cell? ⟨qb, 0, none⟩ = some (.pointer (some ⟨p, 0, none⟩)) ∧ W.cell? ⟨p, 1, none⟩ = some (.map (some ri)) ∧ W.cell? ⟨qt, 0, none⟩ = some (.int .i64 id) ∧ (Instr.lookup 104 (.map (some ri)) (.int .i64 id) true).run Try.prog W = .ok (.tuple #[.bool ((mget s.ids id).getD false), .bool (mget s.ids id).isSome]) W) w2.drew := ⟨b0, p1, a0, hr⟩
  refine reg_start (fun W => W.cell? ⟨qb, 0, none⟩ = some (.pointer (some ⟨p, 0, none⟩)) ∧ W.cell? ⟨p, 1, none⟩ = some (.map (some ri)) ∧ W.cell? ⟨qt, 0, none⟩ = some (.int .i64 id) ∧ (Instr.lookup 104 (.map (some ri)) (.int .i64 id) true).run Try.prog W = .ok (.tuple #[.bool ((mget s.ids id).getD false), .bool (mget s.ids id).isSome]) W) (by kernel_rfl) ?_
  ((refine reg_yes (i := 0) (oi := { dst := some 18, op := Go.Op.load 46 (Go.Operand.tmp 2), type := 46, pos := "object.go:107", after := #[], guard := none }) (v := ?_) rfl (by kernel_rfl) (by kernel_rfl) (by kernel_rfl) (fun _ _ _ h => h) rfl ?_ ?_); rotate_left; focus (intro W hW; (try dsimp only at hW); go_split_ands; go_simp; (try (simp (disch := omega) only [IntWalk.i64_in]; (try go_simp))); (try (split; (next => omega); (try go_simp))); try rfl; done))
  try simp only [Act.put, List.setIfInBounds_toArray, List.set_cons_zero, List.set_cons_succ]
  ((refine reg_yes (i := 1) (oi := { dst := some 19, op := Go.Op.nilCheck (Go.Operand.tmp 18), type := 0, pos := "object.go:107", after := #[{ on := 0, ground := Go.Ground.data }], guard := none }) (v := ?_) rfl (by kernel_rfl) (by kernel_rfl) (by kernel_rfl) (fun _ _ _ h => h) rfl ?_ ?_); rotate_left; focus (intro W hW; (try dsimp only at hW); go_split_ands; go_simp; (try (simp (disch := omega) only [IntWalk.i64_in]; (try go_simp))); (try (split; (next => omega); (try go_simp))); try rfl; done))
  try simp only [Act.put, List.setIfInBounds_toArray, List.set_cons_zero, List.set_cons_succ]
  ((refine reg_yes (i := 2) (oi := { dst := some 20, op := Go.Op.fieldAddr 106 (Go.Operand.tmp 19) 1, type := 0, pos := "object.go:107", after := #[{ on := 1, ground := Go.Ground.data }], guard := none }) (v := ?_) rfl (by kernel_rfl) (by kernel_rfl) (by kernel_rfl) (fun _ _ _ h => h) rfl ?_ ?_); rotate_left; focus (intro W hW; (try dsimp only at hW); go_split_ands; go_simp; (try (simp (disch := omega) only [IntWalk.i64_in]; (try go_simp))); (try (split; (next => omega); (try go_simp))); try rfl; done))
  try simp only [Act.put, List.setIfInBounds_toArray, List.set_cons_zero, List.set_cons_succ]
  ((refine reg_yes (i := 3) (oi := { dst := some 21, op := Go.Op.load 104 (Go.Operand.tmp 20), type := 104, pos := "object.go:107", after := #[{ on := 2, ground := Go.Ground.data }], guard := none }) (v := ?_) rfl (by kernel_rfl) (by kernel_rfl) (by kernel_rfl) (fun _ _ _ h => h) rfl ?_ ?_); rotate_left; focus (intro W hW; (try dsimp only at hW); go_split_ands; go_simp; (try (simp (disch := omega) only [IntWalk.i64_in]; (try go_simp))); (try (split; (next => omega); (try go_simp))); try rfl; done))
  try simp only [Act.put, List.setIfInBounds_toArray, List.set_cons_zero, List.set_cons_succ]
  ((refine reg_yes (i := 4) (oi := { dst := some 22, op := Go.Op.fieldAddr 33 (Go.Operand.tmp 5) 0, type := 0, pos := "object.go:107", after := #[], guard := none }) (v := ?_) rfl (by kernel_rfl) (by kernel_rfl) (by kernel_rfl) (fun _ _ _ h => h) rfl ?_ ?_); rotate_left; focus (intro W hW; (try dsimp only at hW); go_split_ands; go_simp; (try (simp (disch := omega) only [IntWalk.i64_in]; (try go_simp))); (try (split; (next => omega); (try go_simp))); try rfl; done))
  try simp only [Act.put, List.setIfInBounds_toArray, List.set_cons_zero, List.set_cons_succ]
  ((refine reg_yes (i := 5) (oi := { dst := some 23, op := Go.Op.load 3 (Go.Operand.tmp 22), type := 3, pos := "object.go:107", after := #[{ on := 4, ground := Go.Ground.data }], guard := none }) (v := ?_) rfl (by kernel_rfl) (by kernel_rfl) (by kernel_rfl) (fun _ _ _ h => h) rfl ?_ ?_); rotate_left; focus (intro W hW; (try dsimp only at hW); go_split_ands; go_simp; (try (simp (disch := omega) only [IntWalk.i64_in]; (try go_simp))); (try (split; (next => omega); (try go_simp))); try rfl; done))
  try simp only [Act.put, List.setIfInBounds_toArray, List.set_cons_zero, List.set_cons_succ]
  ((refine reg_yes (i := 6) (oi := { dst := some 24, op := Go.Op.lookup 104 (Go.Operand.tmp 21) (Go.Operand.tmp 23) true, type := 56, pos := "object.go:107", after := #[{ on := 3, ground := Go.Ground.data }, { on := 5, ground := Go.Ground.data }], guard := none }) (v := ?_) rfl (by kernel_rfl) (by kernel_rfl) (by kernel_rfl) (fun _ _ _ h => h) rfl ?_ ?_); rotate_left; focus (intro W hW; (try dsimp only at hW); go_split_ands; go_simp; (try (simp (disch := omega) only [IntWalk.i64_in]; (try go_simp))); (try (split; (next => omega); (try go_simp))); try rfl; done))
  try simp only [Act.put, List.setIfInBounds_toArray, List.set_cons_zero, List.set_cons_succ]
  ((refine reg_yes (i := 7) (oi := { dst := some 17, op := Go.Op.move (Go.Operand.tmp 24), type := 56, pos := "object.go:107", after := #[{ on := 6, ground := Go.Ground.data }], guard := none }) (v := ?_) rfl (by kernel_rfl) (by kernel_rfl) (by kernel_rfl) (fun _ _ _ h => h) rfl ?_ ?_); rotate_left; focus (intro W hW; (try dsimp only at hW); go_split_ands; go_simp; (try (simp (disch := omega) only [IntWalk.i64_in]; (try go_simp))); (try (split; (next => omega); (try go_simp))); try rfl; done))
  try simp only [Act.put, List.setIfInBounds_toArray, List.set_cons_zero, List.set_cons_succ]
  ((refine reg_yes (i := 8) (oi := { dst := some 25, op := Go.Op.extract (Go.Operand.tmp 17) 0, type := 4, pos := "object.go:107", after := #[{ on := 7, ground := Go.Ground.data }], guard := none }) (v := ?_) rfl (by kernel_rfl) (by kernel_rfl) (by kernel_rfl) (fun _ _ _ h => h) rfl ?_ ?_); rotate_left; focus (intro W hW; (try dsimp only at hW); go_split_ands; go_simp; (try (simp (disch := omega) only [IntWalk.i64_in]; (try go_simp))); (try (split; (next => omega); (try go_simp))); try rfl; done))
  try simp only [Act.put, List.setIfInBounds_toArray, List.set_cons_zero, List.set_cons_succ]
  ((refine reg_yes (i := 9) (oi := { dst := some 26, op := Go.Op.extract (Go.Operand.tmp 17) 1, type := 4, pos := "object.go:107", after := #[{ on := 7, ground := Go.Ground.data }, { on := 10, ground := Go.Ground.gcOnly Go.Departure.lateStores }], guard := none }) (v := ?_) rfl (by kernel_rfl) (by kernel_rfl) (by kernel_rfl) (fun _ _ _ h => h) rfl ?_ ?_); rotate_left; focus (intro W hW; (try dsimp only at hW); go_split_ands; go_simp; (try (simp (disch := omega) only [IntWalk.i64_in]; (try go_simp))); (try (split; (next => omega); (try go_simp))); try rfl; done))
  try simp only [Act.put, List.setIfInBounds_toArray, List.set_cons_zero, List.set_cons_succ]
  ((refine reg_yes (i := 10) (oi := { dst := some 7, op := Go.Op.assign (Go.Operand.tmp 25), type := 4, pos := "object.go:107", after := #[{ on := 8, ground := Go.Ground.data }, { on := 0, ground := Go.Ground.phase }, { on := 1, ground := Go.Ground.phase }, { on := 2, ground := Go.Ground.phase }, { on := 3, ground := Go.Ground.phase }, { on := 4, ground := Go.Ground.phase }, { on := 5, ground := Go.Ground.phase }, { on := 6, ground := Go.Ground.phase }, { on := 7, ground := Go.Ground.phase }, { on := 8, ground := Go.Ground.phase }, { on := 9, ground := Go.Ground.textOnly Go.Departure.lateStores }], guard := none }) (v := ?_) rfl (by kernel_rfl) (by kernel_rfl) (by kernel_rfl) (fun _ _ _ h => h) rfl ?_ ?_); rotate_left; focus (intro W hW; (try dsimp only at hW); go_split_ands; go_simp; (try (simp (disch := omega) only [IntWalk.i64_in]; (try go_simp))); (try (split; (next => omega); (try go_simp))); try rfl; done))
  try simp only [Act.put, List.setIfInBounds_toArray, List.set_cons_zero, List.set_cons_succ]
  ((refine reg_yes (i := 11) (oi := { dst := some 8, op := Go.Op.assign (Go.Operand.tmp 26), type := 4, pos := "object.go:107", after := #[{ on := 9, ground := Go.Ground.data }, { on := 10, ground := Go.Ground.chain }, { on := 0, ground := Go.Ground.phase }, { on := 1, ground := Go.Ground.phase }, { on := 2, ground := Go.Ground.phase }, { on := 3, ground := Go.Ground.phase }, { on := 4, ground := Go.Ground.phase }, { on := 5, ground := Go.Ground.phase }, { on := 6, ground := Go.Ground.phase }, { on := 7, ground := Go.Ground.phase }, { on := 8, ground := Go.Ground.phase }, { on := 9, ground := Go.Ground.phase }, { on := 10, ground := Go.Ground.phase }], guard := none }) (v := ?_) rfl (by kernel_rfl) (by kernel_rfl) (by kernel_rfl) (fun _ _ _ h => h) rfl ?_ ?_); rotate_left; focus (intro W hW; (try dsimp only at hW); go_split_ands; go_simp; (try (simp (disch := omega) only [IntWalk.i64_in]; (try go_simp))); (try (split; (next => omega); (try go_simp))); try rfl; done))
  try simp only [Act.put, List.setIfInBounds_toArray, List.set_cons_zero, List.set_cons_succ]
  -- ready: []
  refine reg_done (by kernel_rfl) hS ?_
  clear hS hr
  have hc02 := hc02.drew
  have h2 := h2.keepNo (Chg.refl No w2).drew
  have ob := (Chg.refl No w2).drew.obj ob (not_no _)
  have ot := (Chg.refl No w2).drew.obj ot (not_no _)
  have hs1 := hs1.keepNo (Chg.refl No w2).drew
  have hs2 := hs2.keepNo (Chg.refl No w2).drew
  clear b0 a0 p1
  generalize w2.drew = w3 at *
  generalize (mget s.ids id).getD false = vid
  generalize hcame : (mget s.ids id).isSome = came
  have Hcame := Lib.hid hcame; clear hcame
  cases came
  · have hl1 : rs.length * 16 ≤ 140737488351232 := by omega
    have ct : ∀ W, Chg No w3 W → Calls Try.prog 51 #[.slice Ar rs.length cr, .func (.func 55) #[] #[.pointer (some ⟨qb, 0, none⟩)]] W fun e w' => e = .returned (.bool (rs.any (staleB s))) ∧ Chg No W w' := fun W hc =>
      containsRead1_any _ _ rs (staleB s) _ en_stale (.pointer (some ⟨qb, 0, none⟩)) W (hs1.keepNo hc) hl1 (fun x W' hW => stale_any qb p rc ri s x W' ((h2.keepNo hc).keepNo hW) (cell_obj (i := 0) ((hc.trans hW).obj ob (not_no _)) rfl))
    have Ct := Lib.hid ct
    clear ct
    have b0 := cell_obj (i := 0) ob rfl
    have p1 := cell_obj (i := 1) h2.1 rfl
    have a0 := cell_obj (i := 0) ot rfl
    have a1 := cell_obj (i := 1) ot rfl
    have Hw2 := Lib.hid h2; have Hs1 := Lib.hid hs1; have Hs2 := Lib.hid hs2
    clear h2 hs1 hs2
    go_wp2_with (first | (with_reducible refine stop_append ?_) | (with_reducible refine stop_copy ?_) | (with_reducible refine stop_make ?_) | (with_reducible refine stop_lookup ?_) | (with_reducible refine stop_update ?_) | (with_reducible refine stop_slice ?_) | (with_reducible refine stop_range ?_) | (with_reducible refine stop_next ?_) | (with_reducible refine stop_convert ⟨_, rfl⟩ ?_) | (with_reducible refine stop_convertB ⟨_, _, _, rfl⟩ ?_) | (with_reducible refine stop_eqSlice ⟨_, _, rfl⟩ ?_))
    refine rt_start (fun W => W.cell? ⟨qb, 0, none⟩ = some (.pointer (some ⟨p, 0, none⟩)) ∧ W.cell? ⟨p, 1, none⟩ = some (.map (some ri)) ∧ W.cell? ⟨qt, 0, none⟩ = some (.int .i64 id) ∧ W.cell? ⟨qt, 1, none⟩ = some (.slice Ar rs.length cr)) (by kernel_rfl) ?_
    ((refine rt_yes (i := 0) (oi := { dst := some 33, op := Go.Op.load 46 (Go.Operand.tmp 2), type := 46, pos := "object.go:112", after := #[], guard := none }) (v := ?_) rfl (by kernel_rfl) (by kernel_rfl) (by kernel_rfl) (fun _ _ _ h => h) rfl ?_ ?_); rotate_left; focus (intro W hW; (try dsimp only at hW); go_split_ands; go_simp; (try (simp (disch := omega) only [IntWalk.i64_in]; (try go_simp))); (try (split; (next => omega); (try go_simp))); try rfl; done))
    try simp only [Act.put, List.setIfInBounds_toArray, List.set_cons_zero, List.set_cons_succ]
    ((refine rt_yes (i := 1) (oi := { dst := some 34, op := Go.Op.nilCheck (Go.Operand.tmp 33), type := 0, pos := "object.go:112", after := #[{ on := 0, ground := Go.Ground.data }], guard := none }) (v := ?_) rfl (by kernel_rfl) (by kernel_rfl) (by kernel_rfl) (fun _ _ _ h => h) rfl ?_ ?_); rotate_left; focus (intro W hW; (try dsimp only at hW); go_split_ands; go_simp; (try (simp (disch := omega) only [IntWalk.i64_in]; (try go_simp))); (try (split; (next => omega); (try go_simp))); try rfl; done))
    try simp only [Act.put, List.setIfInBounds_toArray, List.set_cons_zero, List.set_cons_succ]
    ((refine rt_yes (i := 2) (oi := { dst := some 35, op := Go.Op.fieldAddr 106 (Go.Operand.tmp 34) 1, type := 0, pos := "object.go:112", after := #[{ on := 1, ground := Go.Ground.data }], guard := none }) (v := ?_) rfl (by kernel_rfl) (by kernel_rfl) (by kernel_rfl) (fun _ _ _ h => h) rfl ?_ ?_); rotate_left; focus (intro W hW; (try dsimp only at hW); go_split_ands; go_simp; (try (simp (disch := omega) only [IntWalk.i64_in]; (try go_simp))); (try (split; (next => omega); (try go_simp))); try rfl; done))
    try simp only [Act.put, List.setIfInBounds_toArray, List.set_cons_zero, List.set_cons_succ]
    ((refine rt_yes (i := 3) (oi := { dst := some 36, op := Go.Op.load 104 (Go.Operand.tmp 35), type := 104, pos := "object.go:112", after := #[{ on := 2, ground := Go.Ground.data }], guard := none }) (v := ?_) rfl (by kernel_rfl) (by kernel_rfl) (by kernel_rfl) (fun _ _ _ h => h) rfl ?_ ?_); rotate_left; focus (intro W hW; (try dsimp only at hW); go_split_ands; go_simp; (try (simp (disch := omega) only [IntWalk.i64_in]; (try go_simp))); (try (split; (next => omega); (try go_simp))); try rfl; done))
    try simp only [Act.put, List.setIfInBounds_toArray, List.set_cons_zero, List.set_cons_succ]
    ((refine rt_yes (i := 4) (oi := { dst := some 37, op := Go.Op.fieldAddr 33 (Go.Operand.tmp 5) 0, type := 0, pos := "object.go:112", after := #[], guard := none }) (v := ?_) rfl (by kernel_rfl) (by kernel_rfl) (by kernel_rfl) (fun _ _ _ h => h) rfl ?_ ?_); rotate_left; focus (intro W hW; (try dsimp only at hW); go_split_ands; go_simp; (try (simp (disch := omega) only [IntWalk.i64_in]; (try go_simp))); (try (split; (next => omega); (try go_simp))); try rfl; done))
    try simp only [Act.put, List.setIfInBounds_toArray, List.set_cons_zero, List.set_cons_succ]
    ((refine rt_yes (i := 5) (oi := { dst := some 38, op := Go.Op.load 3 (Go.Operand.tmp 37), type := 3, pos := "object.go:112", after := #[{ on := 4, ground := Go.Ground.data }], guard := none }) (v := ?_) rfl (by kernel_rfl) (by kernel_rfl) (by kernel_rfl) (fun _ _ _ h => h) rfl ?_ ?_); rotate_left; focus (intro W hW; (try dsimp only at hW); go_split_ands; go_simp; (try (simp (disch := omega) only [IntWalk.i64_in]; (try go_simp))); (try (split; (next => omega); (try go_simp))); try rfl; done))
    try simp only [Act.put, List.setIfInBounds_toArray, List.set_cons_zero, List.set_cons_succ]
    ((refine rt_yes (i := 6) (oi := { dst := some 39, op := Go.Op.fieldAddr 33 (Go.Operand.tmp 5) 1, type := 0, pos := "object.go:112", after := #[], guard := none }) (v := ?_) rfl (by kernel_rfl) (by kernel_rfl) (by kernel_rfl) (fun _ _ _ h => h) rfl ?_ ?_); rotate_left; focus (intro W hW; (try dsimp only at hW); go_split_ands; go_simp; (try (simp (disch := omega) only [IntWalk.i64_in]; (try go_simp))); (try (split; (next => omega); (try go_simp))); try rfl; done))
    try simp only [Act.put, List.setIfInBounds_toArray, List.set_cons_zero, List.set_cons_succ]
    ((refine rt_yes (i := 7) (oi := { dst := some 40, op := Go.Op.load 30 (Go.Operand.tmp 39), type := 30, pos := "object.go:112", after := #[{ on := 6, ground := Go.Ground.data }], guard := none }) (v := ?_) rfl (by kernel_rfl) (by kernel_rfl) (by kernel_rfl) (fun _ _ _ h => h) rfl ?_ ?_); rotate_left; focus (intro W hW; (try dsimp only at hW); go_split_ands; go_simp; (try (simp (disch := omega) only [IntWalk.i64_in]; (try go_simp))); (try (split; (next => omega); (try go_simp))); try rfl; done))
    try simp only [Act.put, List.setIfInBounds_toArray, List.set_cons_zero, List.set_cons_succ]
    ((refine rt_yes (i := 8) (oi := { dst := some 41, op := Go.Op.move (Go.Operand.tmp 9), type := 100, pos := "object.go:112", after := #[], guard := none }) (v := ?_) rfl (by kernel_rfl) (by kernel_rfl) (by kernel_rfl) (fun _ _ _ h => h) rfl ?_ ?_); rotate_left; focus (intro W hW; (try dsimp only at hW); go_split_ands; go_simp; (try (simp (disch := omega) only [IntWalk.i64_in]; (try go_simp))); (try (split; (next => omega); (try go_simp))); try rfl; done))
    try simp only [Act.put, List.setIfInBounds_toArray, List.set_cons_zero, List.set_cons_succ]
    -- ready: [9]
    refine rt_k (fun W => W.cell? ⟨qb, 0, none⟩ = some (.pointer (some ⟨p, 0, none⟩)) ∧ W.cell? ⟨p, 1, none⟩ = some (.map (some ri)) ∧ W.cell? ⟨qt, 0, none⟩ = some (.int .i64 id) ∧ W.cell? ⟨qt, 1, none⟩ = some (.slice Ar rs.length cr)) (i := 9) (oi := { dst := some 42, op := Go.Op.call { callee := Go.Callee.value (Go.Operand.func 51), args := #[Go.Operand.tmp 40, Go.Operand.tmp 41], argTypes := #[30, 100] }, type := 4, pos := "object.go:112", after := #[{ on := 7, ground := Go.Ground.data }, { on := 8, ground := Go.Ground.data }], guard := none }) (by kernel_rfl) ⟨b0, p1, a0, a1⟩ (fun _ h => h) rfl (by rfl) (fun K hK => ?_)
    go_simp
    refine (Ct.out _ (Chg.refl No w3).drew).mono ?_
    rintro e w4 ⟨rfl, hc4⟩
    have hc4 : Chg No w3 w4 := (Chg.refl No w3).drew.trans hc4
    generalize hst : rs.any (staleB s) = st
    have Hst := Lib.hid hst; clear hst
    have hS4 : (fun W => W.cell? ⟨qb, 0, none⟩ = some (.pointer (some ⟨p, 0, none⟩)) ∧ W.cell? ⟨p, 1, none⟩ = some (.map (some ri)) ∧ W.cell? ⟨qt, 0, none⟩ = some (.int .i64 id) ∧ W.cell? ⟨qt, 1, none⟩ = some (.slice Ar rs.length cr)) w4 := ⟨hc4.cell b0 (not_no _), hc4.cell p1 (not_no _), hc4.cell a0 (not_no _), hc4.cell a1 (not_no _)⟩
    have h4 := Hw2.out.keepNo hc4
    have ob4 := hc4.obj ob (not_no _)
    have ot4 := hc4.obj ot (not_no _)
    have hs4 := Hs2.out.keepNo hc4
    have hc04 := hc02.trans hc4
    have H4 := Lib.hid h4; have Hs4 := Lib.hid hs4
    clear h4 hs4 Hs2 Hs1 Hw2 hc4 b0 p1 a0 a1
    refine hK _ _ ?_
    clear hK K
    try simp only [Act.put, List.setIfInBounds_toArray, List.set_cons_zero, List.set_cons_succ]
    ((refine rt_yes (i := 10) (oi := { dst := some 43, op := Go.Op.unOp Go.UnOp.not 4 (Go.Operand.tmp 42), type := 4, pos := "object.go:112", after := #[{ on := 9, ground := Go.Ground.data }], guard := none }) (v := ?_) rfl (by kernel_rfl) (by kernel_rfl) (by kernel_rfl) (fun _ _ _ h => h) rfl ?_ ?_); rotate_left; focus (intro W hW; (try dsimp only at hW); go_split_ands; go_simp; (try (simp (disch := omega) only [IntWalk.i64_in]; (try go_simp))); (try (split; (next => omega); (try go_simp))); try rfl; done))
    try simp only [Act.put, List.setIfInBounds_toArray, List.set_cons_zero, List.set_cons_succ]
    -- ready: [11]
    refine rt_update (κ := Int) (β := Bool) (fun W => W.cell? ⟨qb, 0, none⟩ = some (.pointer (some ⟨p, 0, none⟩)) ∧ W.cell? ⟨p, 1, none⟩ = some (.map (some ri)) ∧ W.cell? ⟨qt, 0, none⟩ = some (.int .i64 id) ∧ W.cell? ⟨qt, 1, none⟩ = some (.slice Ar rs.length cr)) (i := 11) (by kernel_rfl) hS4 (fun _ h => h) rfl rfl klI Try.underlying104 H4.out.2.2.1 id (!st) rfl rfl rfl ?_
    intro w5 hm5 hc5
    try simp only [Act.put, List.setIfInBounds_toArray, List.set_cons_zero, List.set_cons_succ]
    -- ready: []
    refine rt_done (by kernel_rfl)  ?_
    obtain ⟨dn, hdn⟩ : ∃ dn, dn = !st := ⟨_, rfl⟩
    rw [← hdn] at hm5
    have Hdn := Lib.hid hdn
    have h5 := H4.out.putId hm5 hc5
    have ob5 := hc5.obj ob4 (show ¬ At ri qb from hqb ri (.inr (.inr rfl)))
    have ot5 := hc5.obj ot4 (show ¬ At ri qt from hqt ri (.inr (.inr rfl)))
    have hs5 : Sl (Lt w0.heap.size) w5 (.slice Aw ws.length cw) ws := Hs4.out.keep (hc5.weak (fun i _ hi => by have := hsf ri (.inr (.inr rfl)); simp only [At] at hi; simp only [Lt]; omega))
    have hc05 : Chg (Sf p rc ri) w w5 := hc04.trans' hc5 (fun _ _ f => f.elim) (fun i _ hi => .inr (.inr hi))
    clear hm5 hdn hc5 hc04 hS4 ob4 ot4 Ct
    have b0 := cell_obj (i := 0) ob5 rfl
    have p1 := cell_obj (i := 1) h5.1 rfl
    have a0 := cell_obj (i := 0) ot5 rfl
    have hr := run_ids (h5.keepNo (Chg.refl No w5).drew) id false
    simp only [mget_mset, if_pos, Option.getD_some, Bool.false_eq_true, if_false] at hr
    have hS7 : (fun W => W.cell? ⟨qb, 0, none⟩ = some (.pointer (some ⟨p, 0, none⟩)) ∧ W.cell? ⟨p, 1, none⟩ = some (.map (some ri)) ∧ W.cell? ⟨qt, 0, none⟩ = some (.int .i64 id) ∧ (Instr.lookup 104 (.map (some ri)) (.int .i64 id) false).run Try.prog W = .ok (.bool dn) W) w5.drew := ⟨b0, p1, a0, hr⟩
    have H5 := Lib.hid h5
    clear hr b0 p1 a0 h5
    go_wp2_with (first | (with_reducible refine stop_append ?_) | (with_reducible refine stop_copy ?_) | (with_reducible refine stop_make ?_) | (with_reducible refine stop_lookup ?_) | (with_reducible refine stop_update ?_) | (with_reducible refine stop_slice ?_) | (with_reducible refine stop_range ?_) | (with_reducible refine stop_next ?_) | (with_reducible refine stop_convert ⟨_, rfl⟩ ?_) | (with_reducible refine stop_convertB ⟨_, _, _, rfl⟩ ?_) | (with_reducible refine stop_eqSlice ⟨_, _, rfl⟩ ?_))
    refine reg_start (fun W => W.cell? ⟨qb, 0, none⟩ = some (.pointer (some ⟨p, 0, none⟩)) ∧ W.cell? ⟨p, 1, none⟩ = some (.map (some ri)) ∧ W.cell? ⟨qt, 0, none⟩ = some (.int .i64 id) ∧ (Instr.lookup 104 (.map (some ri)) (.int .i64 id) false).run Try.prog W = .ok (.bool dn) W) (by kernel_rfl) ?_
    ((refine reg_yes (i := 0) (oi := { dst := some 44, op := Go.Op.load 46 (Go.Operand.tmp 2), type := 46, pos := "object.go:113", after := #[], guard := none }) (v := ?_) rfl (by kernel_rfl) (by kernel_rfl) (by kernel_rfl) (fun _ _ _ h => h) rfl ?_ ?_); rotate_left; focus (intro W hW; (try dsimp only at hW); go_split_ands; go_simp; (try (simp (disch := omega) only [IntWalk.i64_in]; (try go_simp))); (try (split; (next => omega); (try go_simp))); try rfl; done))
    try simp only [Act.put, List.setIfInBounds_toArray, List.set_cons_zero, List.set_cons_succ]
    ((refine reg_yes (i := 1) (oi := { dst := some 45, op := Go.Op.nilCheck (Go.Operand.tmp 44), type := 0, pos := "object.go:113", after := #[{ on := 0, ground := Go.Ground.data }], guard := none }) (v := ?_) rfl (by kernel_rfl) (by kernel_rfl) (by kernel_rfl) (fun _ _ _ h => h) rfl ?_ ?_); rotate_left; focus (intro W hW; (try dsimp only at hW); go_split_ands; go_simp; (try (simp (disch := omega) only [IntWalk.i64_in]; (try go_simp))); (try (split; (next => omega); (try go_simp))); try rfl; done))
    try simp only [Act.put, List.setIfInBounds_toArray, List.set_cons_zero, List.set_cons_succ]
    ((refine reg_yes (i := 2) (oi := { dst := some 46, op := Go.Op.fieldAddr 106 (Go.Operand.tmp 45) 1, type := 0, pos := "object.go:113", after := #[{ on := 1, ground := Go.Ground.data }], guard := none }) (v := ?_) rfl (by kernel_rfl) (by kernel_rfl) (by kernel_rfl) (fun _ _ _ h => h) rfl ?_ ?_); rotate_left; focus (intro W hW; (try dsimp only at hW); go_split_ands; go_simp; (try (simp (disch := omega) only [IntWalk.i64_in]; (try go_simp))); (try (split; (next => omega); (try go_simp))); try rfl; done))
    try simp only [Act.put, List.setIfInBounds_toArray, List.set_cons_zero, List.set_cons_succ]
    ((refine reg_yes (i := 3) (oi := { dst := some 47, op := Go.Op.load 104 (Go.Operand.tmp 46), type := 104, pos := "object.go:113", after := #[{ on := 2, ground := Go.Ground.data }], guard := none }) (v := ?_) rfl (by kernel_rfl) (by kernel_rfl) (by kernel_rfl) (fun _ _ _ h => h) rfl ?_ ?_); rotate_left; focus (intro W hW; (try dsimp only at hW); go_split_ands; go_simp; (try (simp (disch := omega) only [IntWalk.i64_in]; (try go_simp))); (try (split; (next => omega); (try go_simp))); try rfl; done))
    try simp only [Act.put, List.setIfInBounds_toArray, List.set_cons_zero, List.set_cons_succ]
    ((refine reg_yes (i := 4) (oi := { dst := some 48, op := Go.Op.fieldAddr 33 (Go.Operand.tmp 5) 0, type := 0, pos := "object.go:113", after := #[], guard := none }) (v := ?_) rfl (by kernel_rfl) (by kernel_rfl) (by kernel_rfl) (fun _ _ _ h => h) rfl ?_ ?_); rotate_left; focus (intro W hW; (try dsimp only at hW); go_split_ands; go_simp; (try (simp (disch := omega) only [IntWalk.i64_in]; (try go_simp))); (try (split; (next => omega); (try go_simp))); try rfl; done))
    try simp only [Act.put, List.setIfInBounds_toArray, List.set_cons_zero, List.set_cons_succ]
    ((refine reg_yes (i := 5) (oi := { dst := some 49, op := Go.Op.load 3 (Go.Operand.tmp 48), type := 3, pos := "object.go:113", after := #[{ on := 4, ground := Go.Ground.data }], guard := none }) (v := ?_) rfl (by kernel_rfl) (by kernel_rfl) (by kernel_rfl) (fun _ _ _ h => h) rfl ?_ ?_); rotate_left; focus (intro W hW; (try dsimp only at hW); go_split_ands; go_simp; (try (simp (disch := omega) only [IntWalk.i64_in]; (try go_simp))); (try (split; (next => omega); (try go_simp))); try rfl; done))
    try simp only [Act.put, List.setIfInBounds_toArray, List.set_cons_zero, List.set_cons_succ]
    ((refine reg_yes (i := 6) (oi := { dst := some 50, op := Go.Op.lookup 104 (Go.Operand.tmp 47) (Go.Operand.tmp 49) false, type := 4, pos := "object.go:113", after := #[{ on := 3, ground := Go.Ground.data }, { on := 5, ground := Go.Ground.data }], guard := none }) (v := ?_) rfl (by kernel_rfl) (by kernel_rfl) (by kernel_rfl) (fun _ _ _ h => h) rfl ?_ ?_); rotate_left; focus (intro W hW; (try dsimp only at hW); go_split_ands; go_simp; (try (simp (disch := omega) only [IntWalk.i64_in]; (try go_simp))); (try (split; (next => omega); (try go_simp))); try rfl; done))
    try simp only [Act.put, List.setIfInBounds_toArray, List.set_cons_zero, List.set_cons_succ]
    ((refine reg_yes (i := 7) (oi := { dst := some 51, op := Go.Op.unOp Go.UnOp.not 4 (Go.Operand.tmp 50), type := 4, pos := "object.go:113", after := #[{ on := 6, ground := Go.Ground.data }], guard := none }) (v := ?_) rfl (by kernel_rfl) (by kernel_rfl) (by kernel_rfl) (fun _ _ _ h => h) rfl ?_ ?_); rotate_left; focus (intro W hW; (try dsimp only at hW); go_split_ands; go_simp; (try (simp (disch := omega) only [IntWalk.i64_in]; (try go_simp))); (try (split; (next => omega); (try go_simp))); try rfl; done))
    try simp only [Act.put, List.setIfInBounds_toArray, List.set_cons_zero, List.set_cons_succ]
    -- ready: []
    refine reg_done (by kernel_rfl) hS7 ?_
    clear hS7
    have h6 := H5.out.keepNo (Chg.refl No w5).drew
    have ob6 := (Chg.refl No w5).drew.obj ob5 (not_no _)
    have ot6 := (Chg.refl No w5).drew.obj ot5 (not_no _)
    have hs6 := hs5.keepNo (Chg.refl No w5).drew
    have hc06 := hc05.drew
    clear H5 ob5 ot5 hs5 hc05
    generalize w5.drew = w6 at *
    cases dn
    · have hst1 : st = true := by have := Hdn.out; revert this; cases st <;> simp
      subst hst1
      go_wp2_with (first | (with_reducible refine stop_append ?_) | (with_reducible refine stop_copy ?_) | (with_reducible refine stop_make ?_) | (with_reducible refine stop_lookup ?_) | (with_reducible refine stop_update ?_) | (with_reducible refine stop_slice ?_) | (with_reducible refine stop_range ?_) | (with_reducible refine stop_next ?_) | (with_reducible refine stop_convert ⟨_, rfl⟩ ?_) | (with_reducible refine stop_convertB ⟨_, _, _, rfl⟩ ?_) | (with_reducible refine stop_eqSlice ⟨_, _, rfl⟩ ?_))
      go_ret
      have : addS s (id, rs, ws) = (⟨s.cs, mset s.ids id false, s.n⟩, true) := by simp only [addS]; rw [if_neg (by rw [Hcame.out]; simp), if_pos Hst.out]
      exact ⟨by rw [this]; rfl, by rw [this]; exact h6, hc06⟩
    · have hst1 : st = false := by have := Hdn.out; revert this; cases st <;> simp
      subst hst1
      have a2 := cell_obj (i := 2) ot6 rfl
      have H6 := Lib.hid h6
      clear h6
      go_wp2_with (first | (with_reducible refine stop_append ?_) | (with_reducible refine stop_copy ?_) | (with_reducible refine stop_make ?_) | (with_reducible refine stop_lookup ?_) | (with_reducible refine stop_update ?_) | (with_reducible refine stop_slice ?_) | (with_reducible refine stop_range ?_) | (with_reducible refine stop_next ?_) | (with_reducible refine stop_convert ⟨_, rfl⟩ ?_) | (with_reducible refine stop_convertB ⟨_, _, _, rfl⟩ ?_) | (with_reducible refine stop_eqSlice ⟨_, _, rfl⟩ ?_))
      go_loopw [55] (fun v55 wr => ∃ k : Nat, k ≤ ws.length ∧ v55 = .int .i64 k ∧ Sto wr p rc ri ⟨writeS s.cs (ws.take k), mset s.ids id true, s.n⟩ ∧ wr.heap[qb]? = some (.cells #[.pointer (some ⟨p, 0, none⟩)] 46 (0, 0)) ∧ Sl (Lt w0.heap.size) wr (.slice Aw ws.length cw) ws ∧ Chg (Sf p rc ri) w wr) (fun v55 _ => ws.length - (intOf v55).toNat)
      case atStart => exact ⟨0, by omega, rfl, H6.out, ob6, hs6, hc06⟩
      case round =>
        obtain ⟨k, hk, rfl, h7, ob7, hs7, hc7⟩ := hrel
        clear H6 ob6 hs6 hc06 ot6 a2
        by_cases hlt : k < ws.length
        · obtain ⟨b, o, d, rfl, _, hbl, ⟨d1, d2, rfl, rfl, rfl⟩, ha⟩ := hs7.get k hlt
          have ha0 := ha 0 _ rfl
          have ha1 := ha 1 _ rfl
          simp only [show Rep.n (Int × ByteArray) = 2 from rfl, Nat.add_zero] at ha0 ha1
          have Hsn := Lib.hid (writeS_snoc s.cs ws k hlt)
          have hvb := writeS_bd 1000000000 s.cs (ws.take k) hbd.1
          rw [List.length_take] at hvb
          generalize writeS s.cs (ws.take k) = cs at h7 Hsn hvb
          clear ha
          generalize ws[k] = x at ha0 ha1 Hsn
          obtain ⟨f, val⟩ := x
          simp only at ha0 ha1 Hsn
          have hvf := hvb f
          have c8 := (Chg.refl No wr).alloc (.cells #[.int .i64 f, .string val] 63)
          have oq := alloc_obj wr (.cells #[.int .i64 f, .string val] 63)
          have hc8 := hc7.alloc (.cells #[.int .i64 f, .string val] 63)
          go_wp2_with (first | (with_reducible refine stop_append ?_) | (with_reducible refine stop_copy ?_) | (with_reducible refine stop_make ?_) | (with_reducible refine stop_lookup ?_) | (with_reducible refine stop_update ?_) | (with_reducible refine stop_slice ?_) | (with_reducible refine stop_range ?_) | (with_reducible refine stop_next ?_) | (with_reducible refine stop_convert ⟨_, rfl⟩ ?_) | (with_reducible refine stop_convertB ⟨_, _, _, rfl⟩ ?_) | (with_reducible refine stop_eqSlice ⟨_, _, rfl⟩ ?_))
          generalize wr.alloc (.cells #[.int .i64 f, .string val] 63) = w8 at *
          have h8 := h7.keepNo c8
          have ob8 := c8.obj ob7 (not_no _)
          have hs8 := hs7.keepNo c8
          clear h7 ob7 hs7 hc7 c8 hvb
          generalize wr.heap.size = qq at *
          have h9 := h8.keepNo (Chg.refl No w8).drew
          have b0 := (Chg.refl No w8).drew.cell (cell_obj (i := 0) ob8 rfl) (not_no _)
          have p0 := cell_obj (i := 0) h9.1 rfl
          have f0 := (Chg.refl No w8).drew.cell (cell_obj (i := 0) oq rfl) (not_no _)
          have f1 := (Chg.refl No w8).drew.cell (cell_obj (i := 1) oq rfl) (not_no _)
          have hr := run_cells h9 f
          simp only [valS, verS] at hr
          have hvf2 : ((mget cs f).getD (⟨#[]⟩, 0)).2 = verC cs f := rfl
          rw [hvf2] at hr
          generalize ((mget cs f).getD (⟨#[]⟩, 0)).1 = vv at hr
          generalize verC cs f = vn at hr Hsn hvf
          have hS12 : (fun W => W.cell? ⟨qb, 0, none⟩ = some (.pointer (some ⟨p, 0, none⟩)) ∧ W.cell? ⟨p, 0, none⟩ = some (.map (some rc)) ∧ W.cell? ⟨qq, 0, none⟩ = some (.int .i64 f) ∧ W.cell? ⟨qq, 1, none⟩ = some (.string val) ∧ (Instr.lookup 103 (.map (some rc)) (.int .i64 f) false).run Try.prog W = .ok (.agg #[.string vv, .int .i64 vn]) W) w8.drew := ⟨b0, p0, f0, f1, hr⟩
          have H9 := Lib.hid h9
          clear h9 h8 hvf2 b0 p0 f0 f1 hr
          refine rt_start (fun W => W.cell? ⟨qb, 0, none⟩ = some (.pointer (some ⟨p, 0, none⟩)) ∧ W.cell? ⟨p, 0, none⟩ = some (.map (some rc)) ∧ W.cell? ⟨qq, 0, none⟩ = some (.int .i64 f) ∧ W.cell? ⟨qq, 1, none⟩ = some (.string val) ∧ (Instr.lookup 103 (.map (some rc)) (.int .i64 f) false).run Try.prog W = .ok (.agg #[.string vv, .int .i64 vn]) W) (by kernel_rfl) ?_
          ((refine rt_yes (i := 0) (oi := { dst := some 59, op := Go.Op.load 46 (Go.Operand.tmp 2), type := 46, pos := "object.go:117", after := #[], guard := none }) (v := ?_) rfl (by kernel_rfl) (by kernel_rfl) (by kernel_rfl) (fun _ _ _ h => h) rfl ?_ ?_); rotate_left; focus (intro W hW; (try dsimp only at hW); go_split_ands; go_simp; (try (simp (disch := omega) only [IntWalk.i64_in]; (try go_simp))); (try (split; (next => omega); (try go_simp))); try rfl; done))
          try simp only [Act.put, List.setIfInBounds_toArray, List.set_cons_zero, List.set_cons_succ]
          ((refine rt_yes (i := 1) (oi := { dst := some 60, op := Go.Op.nilCheck (Go.Operand.tmp 59), type := 0, pos := "object.go:117", after := #[{ on := 0, ground := Go.Ground.data }], guard := none }) (v := ?_) rfl (by kernel_rfl) (by kernel_rfl) (by kernel_rfl) (fun _ _ _ h => h) rfl ?_ ?_); rotate_left; focus (intro W hW; (try dsimp only at hW); go_split_ands; go_simp; (try (simp (disch := omega) only [IntWalk.i64_in]; (try go_simp))); (try (split; (next => omega); (try go_simp))); try rfl; done))
          try simp only [Act.put, List.setIfInBounds_toArray, List.set_cons_zero, List.set_cons_succ]
          ((refine rt_yes (i := 2) (oi := { dst := some 61, op := Go.Op.fieldAddr 106 (Go.Operand.tmp 60) 0, type := 0, pos := "object.go:117", after := #[{ on := 1, ground := Go.Ground.data }], guard := none }) (v := ?_) rfl (by kernel_rfl) (by kernel_rfl) (by kernel_rfl) (fun _ _ _ h => h) rfl ?_ ?_); rotate_left; focus (intro W hW; (try dsimp only at hW); go_split_ands; go_simp; (try (simp (disch := omega) only [IntWalk.i64_in]; (try go_simp))); (try (split; (next => omega); (try go_simp))); try rfl; done))
          try simp only [Act.put, List.setIfInBounds_toArray, List.set_cons_zero, List.set_cons_succ]
          ((refine rt_yes (i := 3) (oi := { dst := some 62, op := Go.Op.load 103 (Go.Operand.tmp 61), type := 103, pos := "object.go:117", after := #[{ on := 2, ground := Go.Ground.data }], guard := none }) (v := ?_) rfl (by kernel_rfl) (by kernel_rfl) (by kernel_rfl) (fun _ _ _ h => h) rfl ?_ ?_); rotate_left; focus (intro W hW; (try dsimp only at hW); go_split_ands; go_simp; (try (simp (disch := omega) only [IntWalk.i64_in]; (try go_simp))); (try (split; (next => omega); (try go_simp))); try rfl; done))
          try simp only [Act.put, List.setIfInBounds_toArray, List.set_cons_zero, List.set_cons_succ]
          ((refine rt_yes (i := 4) (oi := { dst := some 63, op := Go.Op.fieldAddr 63 (Go.Operand.tmp 11) 0, type := 0, pos := "object.go:117", after := #[], guard := none }) (v := ?_) rfl (by kernel_rfl) (by kernel_rfl) (by kernel_rfl) (fun _ _ _ h => h) rfl ?_ ?_); rotate_left; focus (intro W hW; (try dsimp only at hW); go_split_ands; go_simp; (try (simp (disch := omega) only [IntWalk.i64_in]; (try go_simp))); (try (split; (next => omega); (try go_simp))); try rfl; done))
          try simp only [Act.put, List.setIfInBounds_toArray, List.set_cons_zero, List.set_cons_succ]
          ((refine rt_yes (i := 5) (oi := { dst := some 64, op := Go.Op.load 3 (Go.Operand.tmp 63), type := 3, pos := "object.go:117", after := #[{ on := 4, ground := Go.Ground.data }], guard := none }) (v := ?_) rfl (by kernel_rfl) (by kernel_rfl) (by kernel_rfl) (fun _ _ _ h => h) rfl ?_ ?_); rotate_left; focus (intro W hW; (try dsimp only at hW); go_split_ands; go_simp; (try (simp (disch := omega) only [IntWalk.i64_in]; (try go_simp))); (try (split; (next => omega); (try go_simp))); try rfl; done))
          try simp only [Act.put, List.setIfInBounds_toArray, List.set_cons_zero, List.set_cons_succ]
          ((refine rt_yes (i := 6) (oi := { dst := some 65, op := Go.Op.fieldAddr 63 (Go.Operand.tmp 11) 1, type := 0, pos := "object.go:117", after := #[], guard := none }) (v := ?_) rfl (by kernel_rfl) (by kernel_rfl) (by kernel_rfl) (fun _ _ _ h => h) rfl ?_ ?_); rotate_left; focus (intro W hW; (try dsimp only at hW); go_split_ands; go_simp; (try (simp (disch := omega) only [IntWalk.i64_in]; (try go_simp))); (try (split; (next => omega); (try go_simp))); try rfl; done))
          try simp only [Act.put, List.setIfInBounds_toArray, List.set_cons_zero, List.set_cons_succ]
          ((refine rt_yes (i := 7) (oi := { dst := some 66, op := Go.Op.load 9 (Go.Operand.tmp 65), type := 9, pos := "object.go:117", after := #[{ on := 6, ground := Go.Ground.data }], guard := none }) (v := ?_) rfl (by kernel_rfl) (by kernel_rfl) (by kernel_rfl) (fun _ _ _ h => h) rfl ?_ ?_); rotate_left; focus (intro W hW; (try dsimp only at hW); go_split_ands; go_simp; (try (simp (disch := omega) only [IntWalk.i64_in]; (try go_simp))); (try (split; (next => omega); (try go_simp))); try rfl; done))
          try simp only [Act.put, List.setIfInBounds_toArray, List.set_cons_zero, List.set_cons_succ]
          ((refine rt_yes (i := 8) (oi := { dst := some 67, op := Go.Op.load 46 (Go.Operand.tmp 2), type := 46, pos := "object.go:117", after := #[], guard := none }) (v := ?_) rfl (by kernel_rfl) (by kernel_rfl) (by kernel_rfl) (fun _ _ _ h => h) rfl ?_ ?_); rotate_left; focus (intro W hW; (try dsimp only at hW); go_split_ands; go_simp; (try (simp (disch := omega) only [IntWalk.i64_in]; (try go_simp))); (try (split; (next => omega); (try go_simp))); try rfl; done))
          try simp only [Act.put, List.setIfInBounds_toArray, List.set_cons_zero, List.set_cons_succ]
          ((refine rt_yes (i := 9) (oi := { dst := some 68, op := Go.Op.nilCheck (Go.Operand.tmp 67), type := 0, pos := "object.go:117", after := #[{ on := 8, ground := Go.Ground.data }], guard := none }) (v := ?_) rfl (by kernel_rfl) (by kernel_rfl) (by kernel_rfl) (fun _ _ _ h => h) rfl ?_ ?_); rotate_left; focus (intro W hW; (try dsimp only at hW); go_split_ands; go_simp; (try (simp (disch := omega) only [IntWalk.i64_in]; (try go_simp))); (try (split; (next => omega); (try go_simp))); try rfl; done))
          try simp only [Act.put, List.setIfInBounds_toArray, List.set_cons_zero, List.set_cons_succ]
          ((refine rt_yes (i := 10) (oi := { dst := some 69, op := Go.Op.fieldAddr 106 (Go.Operand.tmp 68) 0, type := 0, pos := "object.go:117", after := #[{ on := 9, ground := Go.Ground.data }], guard := none }) (v := ?_) rfl (by kernel_rfl) (by kernel_rfl) (by kernel_rfl) (fun _ _ _ h => h) rfl ?_ ?_); rotate_left; focus (intro W hW; (try dsimp only at hW); go_split_ands; go_simp; (try (simp (disch := omega) only [IntWalk.i64_in]; (try go_simp))); (try (split; (next => omega); (try go_simp))); try rfl; done))
          try simp only [Act.put, List.setIfInBounds_toArray, List.set_cons_zero, List.set_cons_succ]
          ((refine rt_yes (i := 11) (oi := { dst := some 70, op := Go.Op.load 103 (Go.Operand.tmp 69), type := 103, pos := "object.go:117", after := #[{ on := 10, ground := Go.Ground.data }], guard := none }) (v := ?_) rfl (by kernel_rfl) (by kernel_rfl) (by kernel_rfl) (fun _ _ _ h => h) rfl ?_ ?_); rotate_left; focus (intro W hW; (try dsimp only at hW); go_split_ands; go_simp; (try (simp (disch := omega) only [IntWalk.i64_in]; (try go_simp))); (try (split; (next => omega); (try go_simp))); try rfl; done))
          try simp only [Act.put, List.setIfInBounds_toArray, List.set_cons_zero, List.set_cons_succ]
          ((refine rt_yes (i := 12) (oi := { dst := some 71, op := Go.Op.fieldAddr 63 (Go.Operand.tmp 11) 0, type := 0, pos := "object.go:117", after := #[], guard := none }) (v := ?_) rfl (by kernel_rfl) (by kernel_rfl) (by kernel_rfl) (fun _ _ _ h => h) rfl ?_ ?_); rotate_left; focus (intro W hW; (try dsimp only at hW); go_split_ands; go_simp; (try (simp (disch := omega) only [IntWalk.i64_in]; (try go_simp))); (try (split; (next => omega); (try go_simp))); try rfl; done))
          try simp only [Act.put, List.setIfInBounds_toArray, List.set_cons_zero, List.set_cons_succ]
          ((refine rt_yes (i := 13) (oi := { dst := some 72, op := Go.Op.load 3 (Go.Operand.tmp 71), type := 3, pos := "object.go:117", after := #[{ on := 12, ground := Go.Ground.data }], guard := none }) (v := ?_) rfl (by kernel_rfl) (by kernel_rfl) (by kernel_rfl) (fun _ _ _ h => h) rfl ?_ ?_); rotate_left; focus (intro W hW; (try dsimp only at hW); go_split_ands; go_simp; (try (simp (disch := omega) only [IntWalk.i64_in]; (try go_simp))); (try (split; (next => omega); (try go_simp))); try rfl; done))
          try simp only [Act.put, List.setIfInBounds_toArray, List.set_cons_zero, List.set_cons_succ]
          ((refine rt_yes (i := 14) (oi := { dst := some 73, op := Go.Op.lookup 103 (Go.Operand.tmp 70) (Go.Operand.tmp 72) false, type := 108, pos := "object.go:117", after := #[{ on := 11, ground := Go.Ground.data }, { on := 13, ground := Go.Ground.data }], guard := none }) (v := ?_) rfl (by kernel_rfl) (by kernel_rfl) (by kernel_rfl) (fun _ _ _ h => h) rfl ?_ ?_); rotate_left; focus (intro W hW; (try dsimp only at hW); go_split_ands; go_simp; (try (simp (disch := omega) only [IntWalk.i64_in]; (try go_simp))); (try (split; (next => omega); (try go_simp))); try rfl; done))
          try simp only [Act.put, List.setIfInBounds_toArray, List.set_cons_zero, List.set_cons_succ]
          ((refine rt_yes (i := 15) (oi := { dst := some 74, op := Go.Op.field 108 (Go.Operand.tmp 73) 1, type := 3, pos := "object.go:117", after := #[{ on := 14, ground := Go.Ground.data }], guard := none }) (v := ?_) rfl (by kernel_rfl) (by kernel_rfl) (by kernel_rfl) (fun _ _ _ h => h) rfl ?_ ?_); rotate_left; focus (intro W hW; (try dsimp only at hW); go_split_ands; go_simp; (try (simp (disch := omega) only [IntWalk.i64_in]; (try go_simp))); (try (split; (next => omega); (try go_simp))); try rfl; done))
          try simp only [Act.put, List.setIfInBounds_toArray, List.set_cons_zero, List.set_cons_succ]
          ((refine rt_yes (i := 16) (oi := { dst := some 75, op := Go.Op.binOp Go.BinOp.add 3 (Go.Operand.tmp 74) (Go.Operand.const (Go.Value.int Go.IntKind.i64 1)) 3, type := 3, pos := "object.go:117", after := #[{ on := 15, ground := Go.Ground.data }], guard := none }) (v := ?_) rfl (by kernel_rfl) (by kernel_rfl) (by kernel_rfl) (fun _ _ _ h => h) rfl ?_ ?_); rotate_left; focus (intro W hW; (try dsimp only at hW); go_split_ands; go_simp; (try (simp (disch := omega) only [IntWalk.i64_in]; (try go_simp))); (try (split; (next => omega); (try go_simp))); try rfl; done))
          try simp only [Act.put, List.setIfInBounds_toArray, List.set_cons_zero, List.set_cons_succ]
          ((refine rt_yes (i := 17) (oi := { dst := some 76, op := Go.Op.build 108 #[(0, Go.Operand.tmp 66), (1, Go.Operand.tmp 75)], type := 108, pos := "object.go:117", after := #[{ on := 7, ground := Go.Ground.data }, { on := 16, ground := Go.Ground.data }], guard := none }) (v := ?_) rfl (by kernel_rfl) (by kernel_rfl) (by kernel_rfl) (fun _ _ _ h => h) rfl ?_ ?_); rotate_left; focus (intro W hW; (try dsimp only at hW); go_split_ands; go_simp; (try (simp (disch := omega) only [IntWalk.i64_in]; (try go_simp))); (try (split; (next => omega); (try go_simp))); try rfl; done))
          try simp only [Act.put, List.setIfInBounds_toArray, List.set_cons_zero, List.set_cons_succ]
          -- ready: [18]
          refine rt_update (κ := Int) (β := ByteArray × Int) (fun W => W.cell? ⟨qb, 0, none⟩ = some (.pointer (some ⟨p, 0, none⟩)) ∧ W.cell? ⟨p, 0, none⟩ = some (.map (some rc)) ∧ W.cell? ⟨qq, 0, none⟩ = some (.int .i64 f) ∧ W.cell? ⟨qq, 1, none⟩ = some (.string val) ∧ (Instr.lookup 103 (.map (some rc)) (.int .i64 f) false).run Try.prog W = .ok (.agg #[.string vv, .int .i64 vn]) W) (i := 18) (by kernel_rfl) hS12 (fun _ h => h) rfl rfl klI Try.underlying103 H9.out.2.1 f (val, vn + 1) rfl rfl rfl ?_
          intro w9 hm9 hc9
          try simp only [Act.put, List.setIfInBounds_toArray, List.set_cons_zero, List.set_cons_succ]
          -- ready: []
          refine rt_done (by kernel_rfl)  ?_
          rw [← Hsn.out] at hm9
          have h10 := H9.out.putCell (f := f) (b := (val, vn + 1)) (by rw [← Hsn.out]; exact hm9) hc9
          simp only [← Hsn.out] at h10
          have hc89 : Chg (At rc) w8 w9 := ((Chg.refl _ w8).drew).trans hc9
          have ob10 := hc89.obj ob8 (show ¬ At rc qb from hqb rc (.inr (.inl rfl)))
          have hs10 : Sl (Lt w0.heap.size) w9 (.slice (some ⟨b, o, none⟩) ws.length cw) ws := hs8.keep (hc89.weak (fun i _ hi => by have := hsf rc (.inr (.inl rfl)); simp only [At] at hi; simp only [Lt]; omega))
          have hc10 : Chg (Sf p rc ri) w w9 := hc8.trans' hc89 (fun _ _ f => f) (fun i _ hi => .inr (.inl hi))
          go_wp2_with (first | (with_reducible refine stop_append ?_) | (with_reducible refine stop_copy ?_) | (with_reducible refine stop_make ?_) | (with_reducible refine stop_lookup ?_) | (with_reducible refine stop_update ?_) | (with_reducible refine stop_slice ?_) | (with_reducible refine stop_range ?_) | (with_reducible refine stop_next ?_) | (with_reducible refine stop_convert ⟨_, rfl⟩ ?_) | (with_reducible refine stop_convertB ⟨_, _, _, rfl⟩ ?_) | (with_reducible refine stop_eqSlice ⟨_, _, rfl⟩ ?_))
          go_roundw
          case rel => exact ⟨k + 1, by omega, by go_num, h10, ob10, hs10, hc10⟩
          case measure => simp [intOf]; omega
        · obtain rfl : k = ws.length := by omega
          rw [List.take_length] at h7
          have b0 := cell_obj (i := 0) ob7 rfl
          have p2 := cell_obj (i := 2) h7.1 rfl
          have pf := h7.free
          have h11 := h7.putN (s.n + 1)
          have hc11 := hc7.setCell (p := ⟨p, 2, none⟩) (.inl (.inl rfl)) (.int .i64 (s.n + 1))
          have hn0 := hbd.2.1
          have hn1 := hbd.2.2
          go_wp2_with (first | (with_reducible refine stop_append ?_) | (with_reducible refine stop_copy ?_) | (with_reducible refine stop_make ?_) | (with_reducible refine stop_lookup ?_) | (with_reducible refine stop_update ?_) | (with_reducible refine stop_slice ?_) | (with_reducible refine stop_range ?_) | (with_reducible refine stop_next ?_) | (with_reducible refine stop_convert ⟨_, rfl⟩ ?_) | (with_reducible refine stop_convertB ⟨_, _, _, rfl⟩ ?_) | (with_reducible refine stop_eqSlice ⟨_, _, rfl⟩ ?_))
          go_ret
          have : addS s (id, rs, ws) = (⟨writeS s.cs ws, mset s.ids id true, s.n + 1⟩, true) := by simp only [addS]; rw [if_neg (by rw [Hcame.out]; simp), if_neg (by rw [Hst.out]; simp)]
          exact ⟨by rw [this]; rfl, by rw [this]; exact h11, hc11⟩
  · go_wp2_with (first | (with_reducible refine stop_append ?_) | (with_reducible refine stop_copy ?_) | (with_reducible refine stop_make ?_) | (with_reducible refine stop_lookup ?_) | (with_reducible refine stop_update ?_) | (with_reducible refine stop_slice ?_) | (with_reducible refine stop_range ?_) | (with_reducible refine stop_next ?_) | (with_reducible refine stop_convert ⟨_, rfl⟩ ?_) | (with_reducible refine stop_convertB ⟨_, _, _, rfl⟩ ?_) | (with_reducible refine stop_eqSlice ⟨_, _, rfl⟩ ?_))
    go_ret
    have : addS s (id, rs, ws) = (s, false) := by simp only [addS]; rw [if_pos Hcame.out]
    exact ⟨by rw [this]; rfl, by rw [this]; exact h2, hc02.of_no⟩
end Go.Proofs.Ytnioljagmimojaa
