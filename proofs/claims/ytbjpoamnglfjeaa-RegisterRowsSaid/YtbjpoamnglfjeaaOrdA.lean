/- An order in memory; walks of package order: Len, Entries, Cut, After, New, Find. -/
import Derived.Test.YtbjpoamnglfjeaaEntA
import Derived.Test.YtbjpoamnglfjeaaRowO
set_option linter.unusedVariables false
set_option linter.unusedSimpArgs false
namespace Go.Proofs.Ytbjpoamnglfjeaa
open Go.RowKit Cb

structure OrdV (w : World) (lo hi p : Nat) (lv rv av : Value) (st : OSt) : Prop where
  obj : w.heap[p]? = some (.cells #[lv, rv, av] 122 (0, 0))
  hp : lo ≤ p ∧ p < hi
  hhi : hi ≤ w.heap.size
  sl : Sl (fun k => k < lo ∨ hi ≤ k ∨ k = p ∨ OB rv k ∨ OB av k) w lv st.last
  rr : RowT (fun k => k < lo ∨ hi ≤ k ∨ k = p ∨ OB av k) w lo 124 rv st.runs
  ra : RowT (fun k => k < lo ∨ hi ≤ k ∨ k = p ∨ OB rv k) w lo 3 av st.after
  ob : ∀ k, OB rv k ∨ OB av k → k < hi
def Ord (w : World) (lo hi p : Nat) (st : OSt) : Prop := ∃ lv rv av, OrdV w lo hi p lv rv av st
theorem OrdV.keep {w w' : World} {lo hi p : Nat} {lv rv av : Value} {st : OSt} {G : Nat → Prop} (h : OrdV w lo hi p lv rv av st) (hc : Chg G w w') (hG : ∀ k, G k → k < lo ∨ hi ≤ k) : OrdV w' lo hi p lv rv av st where
  obj := hc.obj h.obj (fun g => by have := h.hp; have := hG p g; omega)
  hp := h.hp
  hhi := Nat.le_trans h.hhi hc.size
  sl := h.sl.keep (hc.weak (fun k _ g => by rcases hG k g with h | h; exact .inl h; exact .inr (.inl h)))
  rr := h.rr.keep hc (fun k _ g => by rcases hG k g with h | h; exact .inl h; exact .inr (.inl h))
  ra := h.ra.keep hc (fun k _ g => by rcases hG k g with h | h; exact .inl h; exact .inr (.inl h))
  ob := h.ob
theorem Ord.keep {w w' : World} {lo hi p : Nat} {st : OSt} {G : Nat → Prop} (h : Ord w lo hi p st) (hc : Chg G w w') (hG : ∀ k, G k → k < lo ∨ hi ≤ k) : Ord w' lo hi p st := by
  obtain ⟨lv, rv, av, h⟩ := h; exact ⟨lv, rv, av, h.keep hc hG⟩
theorem Ord.keepNo {w w' : World} {lo hi p : Nat} {st : OSt} (h : Ord w lo hi p st) (hc : Chg No w w') : Ord w' lo hi p st := h.keep hc (fun _ f => f.elim)
set_option maxRecDepth 100000 in
set_option maxHeartbeats 1000000 in
theorem olen_any {sh lo hi p : Nat} {st : OSt} {w : World} (h : Ord w lo hi p st) (hI : Inv sh st) :
    Calls Try.prog 20 #[.pointer (some ⟨p, 0, none⟩)] w fun e w' => e = .returned (.int .i64 st.len) ∧ Chg No w w' := by
  obtain ⟨lv, rv, av, h⟩ := h
  have hm := hI.many
  have ho := Lib.hid hI.olen
  obtain ⟨a, ha⟩ := hI.aft
  have hs := h.ra.sl
  rw [ho.out, show st.last.sum = (st.after)[a.length]'(by simp [ha]) by simp [ha]]
  have hlen : st.after.length = a.length + 1 := by simp [ha]
  have hlt : a.length < st.after.length := by omega
  obtain ⟨A, c, rfl⟩ := hs.slice
  obtain ⟨b, o, d, rfl, _, hbl, rfl, hc⟩ := hs.get a.length hlt
  have ha0 := hc 0 _ rfl
  simp only [show Rep.n Int = 1 from rfl, Nat.mul_one, Nat.add_zero] at ha0
  have c2 : w.cell? ⟨p, 2, none⟩ = some (.slice (some ⟨b, o, none⟩) st.after.length c) := cell_obj (i := 2) h.obj rfl
  rw [hlen] at c2 hm
  clear h hs hc ho hI
  generalize st.after[a.length] = x at ha0 ⊢
  clear hlt hlen ha
  generalize a.length = m at *
  have hmm : (m : Int) < (m : Int) + 1 := by omega
  go_enter Try.func20, Try.ntmps20
  go_wp2_with (first | (with_reducible refine stop_append ?_) | (with_reducible refine stop_copy ?_) | (with_reducible refine stop_make ?_) | (with_reducible refine stop_lookup ?_) | (with_reducible refine stop_update ?_) | (with_reducible refine stop_slice ?_) | (with_reducible refine stop_range ?_) | (with_reducible refine stop_next ?_) | (with_reducible refine stop_convert ⟨_, rfl⟩ ?_) | (with_reducible refine stop_convertB ⟨_, _, _, rfl⟩ ?_) | (with_reducible refine stop_eqSlice ⟨_, _, rfl⟩ ?_))
  refine reg_start (fun W => W.cell? ⟨p, 2, none⟩ = some (.slice (some ⟨b, o, none⟩) (m + 1) c) ∧ W.cell? ⟨b, o + m, none⟩ = some (.int .i64 x)) (by kernel_rfl) ?_
  ((refine reg_yes (i := 0) (oi := { dst := some 3, op := Go.Op.move (Go.Operand.tmp 0), type := 25, pos := "order.go:59", after := #[], guard := none }) (v := ?_) rfl (by kernel_rfl) (by kernel_rfl) (by kernel_rfl) (fun _ _ _ h => h) rfl ?_ ?_); rotate_left; focus (intro W hW; (try dsimp only at hW); go_split_ands; go_simp; (try (simp (disch := omega) only [IntWalk.i64_in]; (try go_simp))); (try (split; (next => omega); (try go_simp))); try rfl; done))
  try simp only [Act.put, List.setIfInBounds_toArray, List.set_cons_zero, List.set_cons_succ]
  ((refine reg_yes (i := 1) (oi := { dst := some 4, op := Go.Op.nilCheck (Go.Operand.tmp 3), type := 0, pos := "order.go:59", after := #[{ on := 0, ground := Go.Ground.data }], guard := none }) (v := ?_) rfl (by kernel_rfl) (by kernel_rfl) (by kernel_rfl) (fun _ _ _ h => h) rfl ?_ ?_); rotate_left; focus (intro W hW; (try dsimp only at hW); go_split_ands; go_simp; (try (simp (disch := omega) only [IntWalk.i64_in]; (try go_simp))); (try (split; (next => omega); (try go_simp))); try rfl; done))
  try simp only [Act.put, List.setIfInBounds_toArray, List.set_cons_zero, List.set_cons_succ]
  ((refine reg_yes (i := 2) (oi := { dst := some 5, op := Go.Op.fieldAddr 122 (Go.Operand.tmp 4) 2, type := 0, pos := "order.go:59", after := #[{ on := 1, ground := Go.Ground.data }], guard := none }) (v := ?_) rfl (by kernel_rfl) (by kernel_rfl) (by kernel_rfl) (fun _ _ _ h => h) rfl ?_ ?_); rotate_left; focus (intro W hW; (try dsimp only at hW); go_split_ands; go_simp; (try (simp (disch := omega) only [IntWalk.i64_in]; (try go_simp))); (try (split; (next => omega); (try go_simp))); try rfl; done))
  try simp only [Act.put, List.setIfInBounds_toArray, List.set_cons_zero, List.set_cons_succ]
  ((refine reg_yes (i := 3) (oi := { dst := some 6, op := Go.Op.load 46 (Go.Operand.tmp 5), type := 46, pos := "order.go:59", after := #[{ on := 2, ground := Go.Ground.data }], guard := none }) (v := ?_) rfl (by kernel_rfl) (by kernel_rfl) (by kernel_rfl) (fun _ _ _ h => h) rfl ?_ ?_); rotate_left; focus (intro W hW; (try dsimp only at hW); go_split_ands; go_simp; (try (simp (disch := omega) only [IntWalk.i64_in]; (try go_simp))); (try (split; (next => omega); (try go_simp))); try rfl; done))
  try simp only [Act.put, List.setIfInBounds_toArray, List.set_cons_zero, List.set_cons_succ]
  ((refine reg_yes (i := 4) (oi := { dst := some 7, op := Go.Op.move (Go.Operand.tmp 0), type := 25, pos := "order.go:59", after := #[], guard := none }) (v := ?_) rfl (by kernel_rfl) (by kernel_rfl) (by kernel_rfl) (fun _ _ _ h => h) rfl ?_ ?_); rotate_left; focus (intro W hW; (try dsimp only at hW); go_split_ands; go_simp; (try (simp (disch := omega) only [IntWalk.i64_in]; (try go_simp))); (try (split; (next => omega); (try go_simp))); try rfl; done))
  try simp only [Act.put, List.setIfInBounds_toArray, List.set_cons_zero, List.set_cons_succ]
  ((refine reg_yes (i := 5) (oi := { dst := some 8, op := Go.Op.nilCheck (Go.Operand.tmp 7), type := 0, pos := "order.go:59", after := #[{ on := 4, ground := Go.Ground.data }], guard := none }) (v := ?_) rfl (by kernel_rfl) (by kernel_rfl) (by kernel_rfl) (fun _ _ _ h => h) rfl ?_ ?_); rotate_left; focus (intro W hW; (try dsimp only at hW); go_split_ands; go_simp; (try (simp (disch := omega) only [IntWalk.i64_in]; (try go_simp))); (try (split; (next => omega); (try go_simp))); try rfl; done))
  try simp only [Act.put, List.setIfInBounds_toArray, List.set_cons_zero, List.set_cons_succ]
  ((refine reg_yes (i := 6) (oi := { dst := some 9, op := Go.Op.fieldAddr 122 (Go.Operand.tmp 8) 2, type := 0, pos := "order.go:59", after := #[{ on := 5, ground := Go.Ground.data }], guard := none }) (v := ?_) rfl (by kernel_rfl) (by kernel_rfl) (by kernel_rfl) (fun _ _ _ h => h) rfl ?_ ?_); rotate_left; focus (intro W hW; (try dsimp only at hW); go_split_ands; go_simp; (try (simp (disch := omega) only [IntWalk.i64_in]; (try go_simp))); (try (split; (next => omega); (try go_simp))); try rfl; done))
  try simp only [Act.put, List.setIfInBounds_toArray, List.set_cons_zero, List.set_cons_succ]
  ((refine reg_yes (i := 7) (oi := { dst := some 10, op := Go.Op.load 46 (Go.Operand.tmp 9), type := 46, pos := "order.go:59", after := #[{ on := 6, ground := Go.Ground.data }], guard := none }) (v := ?_) rfl (by kernel_rfl) (by kernel_rfl) (by kernel_rfl) (fun _ _ _ h => h) rfl ?_ ?_); rotate_left; focus (intro W hW; (try dsimp only at hW); go_split_ands; go_simp; (try (simp (disch := omega) only [IntWalk.i64_in]; (try go_simp))); (try (split; (next => omega); (try go_simp))); try rfl; done))
  try simp only [Act.put, List.setIfInBounds_toArray, List.set_cons_zero, List.set_cons_succ]
  ((refine reg_yes (i := 8) (oi := { dst := some 11, op := Go.Op.call { callee := Go.Callee.builtin Go.Builtin.len, args := #[Go.Operand.tmp 10], argTypes := #[46] }, type := 3, pos := "order.go:59", after := #[{ on := 7, ground := Go.Ground.data }], guard := none }) (v := ?_) rfl (by kernel_rfl) (by kernel_rfl) (by kernel_rfl) (fun _ _ _ h => h) rfl ?_ ?_); rotate_left; focus (intro W hW; (try dsimp only at hW); go_split_ands; go_simp; (try (simp (disch := omega) only [IntWalk.i64_in]; (try go_simp))); (try (split; (next => omega); (try go_simp))); try rfl; done))
  try simp only [Act.put, List.setIfInBounds_toArray, List.set_cons_zero, List.set_cons_succ]
  ((refine reg_yes (i := 9) (oi := { dst := some 12, op := Go.Op.binOp Go.BinOp.sub 3 (Go.Operand.tmp 11) (Go.Operand.const (Go.Value.int Go.IntKind.i64 1)) 3, type := 3, pos := "order.go:59", after := #[{ on := 8, ground := Go.Ground.data }], guard := none }) (v := ?_) rfl (by kernel_rfl) (by kernel_rfl) (by kernel_rfl) (fun _ _ _ h => h) rfl ?_ ?_); rotate_left; focus (intro W hW; (try dsimp only at hW); go_split_ands; go_simp; (try (simp (disch := omega) only [IntWalk.i64_in]; (try go_simp))); (try (split; (next => omega); (try go_simp))); try rfl; done))
  try simp only [Act.put, List.setIfInBounds_toArray, List.set_cons_zero, List.set_cons_succ]
  ((refine reg_yes (i := 10) (oi := { dst := some 13, op := Go.Op.indexAddr 46 (Go.Operand.tmp 6) (Go.Operand.tmp 12), type := 0, pos := "order.go:59", after := #[{ on := 3, ground := Go.Ground.data }, { on := 9, ground := Go.Ground.data }], guard := none }) (v := ?_) rfl (by kernel_rfl) (by kernel_rfl) (by kernel_rfl) (fun _ _ _ h => h) rfl ?_ ?_); rotate_left; focus (intro W hW; (try dsimp only at hW); go_split_ands; go_simp; (try (simp (disch := omega) only [IntWalk.i64_in]; (try go_simp))); (try (split; (next => omega); (try go_simp))); try rfl; done))
  try simp only [Act.put, List.setIfInBounds_toArray, List.set_cons_zero, List.set_cons_succ]
  ((refine reg_yes (i := 11) (oi := { dst := some 14, op := Go.Op.load 3 (Go.Operand.tmp 13), type := 3, pos := "order.go:59", after := #[{ on := 10, ground := Go.Ground.data }], guard := none }) (v := ?_) rfl (by kernel_rfl) (by kernel_rfl) (by kernel_rfl) (fun _ _ _ h => h) rfl ?_ ?_); rotate_left; focus (intro W hW; (try dsimp only at hW); go_split_ands; go_simp; (try (simp (disch := omega) only [IntWalk.i64_in]; (try go_simp))); (try (split; (next => omega); (try go_simp))); try rfl; done))
  try simp only [Act.put, List.setIfInBounds_toArray, List.set_cons_zero, List.set_cons_succ]
  ((refine reg_yes (i := 12) (oi := { dst := some 2, op := Go.Op.assign (Go.Operand.tmp 14), type := 3, pos := "order.go:59", after := #[{ on := 11, ground := Go.Ground.data }, { on := 0, ground := Go.Ground.phase }, { on := 1, ground := Go.Ground.phase }, { on := 2, ground := Go.Ground.phase }, { on := 3, ground := Go.Ground.phase }, { on := 4, ground := Go.Ground.phase }, { on := 5, ground := Go.Ground.phase }, { on := 6, ground := Go.Ground.phase }, { on := 7, ground := Go.Ground.phase }, { on := 8, ground := Go.Ground.phase }, { on := 9, ground := Go.Ground.phase }, { on := 10, ground := Go.Ground.phase }, { on := 11, ground := Go.Ground.phase }], guard := none }) (v := ?_) rfl (by kernel_rfl) (by kernel_rfl) (by kernel_rfl) (fun _ _ _ h => h) rfl ?_ ?_); rotate_left; focus (intro W hW; (try dsimp only at hW); go_split_ands; go_simp; (try (simp (disch := omega) only [IntWalk.i64_in]; (try go_simp))); (try (split; (next => omega); (try go_simp))); try rfl; done))
  try simp only [Act.put, List.setIfInBounds_toArray, List.set_cons_zero, List.set_cons_succ]
  -- ready: []
  refine reg_done (by kernel_rfl) (show (fun W => W.cell? ⟨p, 2, none⟩ = some (.slice (some ⟨b, o, none⟩) (m + 1) c) ∧ W.cell? ⟨b, o + m, none⟩ = some (.int .i64 x)) w.drew from ⟨c2, ha0⟩) ?_
  go_wp2_with (first | (with_reducible refine stop_append ?_) | (with_reducible refine stop_copy ?_) | (with_reducible refine stop_make ?_) | (with_reducible refine stop_lookup ?_) | (with_reducible refine stop_update ?_) | (with_reducible refine stop_slice ?_) | (with_reducible refine stop_range ?_) | (with_reducible refine stop_next ?_) | (with_reducible refine stop_convert ⟨_, rfl⟩ ?_) | (with_reducible refine stop_convertB ⟨_, _, _, rfl⟩ ?_) | (with_reducible refine stop_eqSlice ⟨_, _, rfl⟩ ?_))
  go_ret
  exact ⟨rfl, (Chg.refl No w).drew⟩
set_option maxRecDepth 100000 in
set_option maxHeartbeats 1000000 in
theorem oentries_any {sh lo hi p : Nat} {st : OSt} {w : World} (h : Ord w lo hi p st) (hI : Inv sh st) :
    Calls Try.prog 27 #[.pointer (some ⟨p, 0, none⟩)] w fun e w' => e = .returned (.int .i64 (st.after.length - 1)) ∧ w = w' := by
  obtain ⟨lv, rv, av, h⟩ := h
  have hm := hI.many
  obtain ⟨a, ha⟩ := hI.aft
  have hlen : st.after.length = a.length + 1 := by simp [ha]
  obtain ⟨A, c, rfl⟩ := h.ra.slice
  have c2 : w.cell? ⟨p, 2, none⟩ = some (.slice A st.after.length c) := cell_obj (i := 2) h.obj rfl
  rw [hlen] at c2 hm ⊢
  have Hm := Lib.hid (show (((a.length + 1 : Nat) : Int) - 1) = a.length by omega)
  rw [Hm.out]
  clear h hI ha hlen Hm
  generalize a.length = m at *
  go_enter Try.func27, Try.ntmps27
  go_wp2_with (first | (with_reducible refine stop_append ?_) | (with_reducible refine stop_copy ?_) | (with_reducible refine stop_make ?_) | (with_reducible refine stop_lookup ?_) | (with_reducible refine stop_update ?_) | (with_reducible refine stop_slice ?_) | (with_reducible refine stop_range ?_) | (with_reducible refine stop_next ?_) | (with_reducible refine stop_convert ⟨_, rfl⟩ ?_) | (with_reducible refine stop_convertB ⟨_, _, _, rfl⟩ ?_) | (with_reducible refine stop_eqSlice ⟨_, _, rfl⟩ ?_))
  go_ret
  exact ⟨rfl, rfl⟩
set_option maxRecDepth 100000 in
set_option maxHeartbeats 1000000 in
theorem ocut_any {sh lo hi p : Nat} {st : OSt} {w : World} (h : Ord w lo hi p st) (hI : Inv sh st) :
    Calls Try.prog 29 #[.pointer (some ⟨p, 0, none⟩)] w fun e w' => ∃ v', e = .returned v' ∧ Chg No w w' ∧ Sl (Lt w.heap.size) w' v' st.last := by
  obtain ⟨lv, rv, av, h⟩ := h
  have H := Lib.hid (vclone_any _ lv st.last w h.sl (by have := (vright_iff.1 hI.right).2.1; omega))
  have c0 : w.cell? ⟨p, 0, none⟩ = some lv := cell_obj (i := 0) h.obj rfl
  obtain ⟨A, c, rfl⟩ := h.sl.slice
  clear h hI
  go_enter Try.func29, Try.ntmps29
  go_wp2_with (first | (with_reducible refine stop_append ?_) | (with_reducible refine stop_copy ?_) | (with_reducible refine stop_make ?_) | (with_reducible refine stop_lookup ?_) | (with_reducible refine stop_update ?_) | (with_reducible refine stop_slice ?_) | (with_reducible refine stop_range ?_) | (with_reducible refine stop_next ?_) | (with_reducible refine stop_convert ⟨_, rfl⟩ ?_) | (with_reducible refine stop_convertB ⟨_, _, _, rfl⟩ ?_) | (with_reducible refine stop_eqSlice ⟨_, _, rfl⟩ ?_))
  refine H.out.mono ?_
  rintro e w1 ⟨v', rfl, hc, hs⟩
  have Hs := Lib.hid hs
  obtain ⟨A', c', rfl⟩ := hs.slice
  clear hs
  go_wp2_with (first | (with_reducible refine stop_append ?_) | (with_reducible refine stop_copy ?_) | (with_reducible refine stop_make ?_) | (with_reducible refine stop_lookup ?_) | (with_reducible refine stop_update ?_) | (with_reducible refine stop_slice ?_) | (with_reducible refine stop_range ?_) | (with_reducible refine stop_next ?_) | (with_reducible refine stop_convert ⟨_, rfl⟩ ?_) | (with_reducible refine stop_convertB ⟨_, _, _, rfl⟩ ?_) | (with_reducible refine stop_eqSlice ⟨_, _, rfl⟩ ?_))
  go_ret
  exact ⟨_, rfl, hc, Hs.out⟩
def afterF (st : OSt) (n : Int) : Option Int := if 0 ≤ n ∧ n < st.after.length then some (st.after.getD n.toNat 0) else none
def OptPost (r : Option Int) (w : World) (e : Ending) (w' : World) : Prop :=
  Chg No w w' ∧ ((∃ x, r = some x ∧ e = .returned (.tuple #[.int .i64 x, .bool true])) ∨ (r = none ∧ e = .returned (.tuple #[.int .i64 0, .bool false])))
set_option maxRecDepth 100000 in
set_option maxHeartbeats 1000000 in
theorem oafter_any {sh lo hi p : Nat} {st : OSt} {w : World} (h : Ord w lo hi p st) (hI : Inv sh st) (n : Int) :
    Calls Try.prog 24 #[.pointer (some ⟨p, 0, none⟩), .int .i64 n] w (OptPost (afterF st n) w) := by
  obtain ⟨lv, rv, av, h⟩ := h
  have hm := hI.many
  have hs := h.ra.sl
  obtain ⟨A, c, rfl⟩ := hs.slice
  have c2 : w.cell? ⟨p, 2, none⟩ = some (.slice A st.after.length c) := cell_obj (i := 2) h.obj rfl
  clear h hI
  by_cases h0 : n < 0
  · have H := Lib.hid (show afterF st n = none by simp [afterF]; omega)
    clear hs
    go_enter Try.func24, Try.ntmps24
    go_wp2_with (first | (with_reducible refine stop_append ?_) | (with_reducible refine stop_copy ?_) | (with_reducible refine stop_make ?_) | (with_reducible refine stop_lookup ?_) | (with_reducible refine stop_update ?_) | (with_reducible refine stop_slice ?_) | (with_reducible refine stop_range ?_) | (with_reducible refine stop_next ?_) | (with_reducible refine stop_convert ⟨_, rfl⟩ ?_) | (with_reducible refine stop_convertB ⟨_, _, _, rfl⟩ ?_) | (with_reducible refine stop_eqSlice ⟨_, _, rfl⟩ ?_))
    go_ret2
    rw [H.out]
    exact ⟨Chg.refl _ _, .inr ⟨rfl, rfl⟩⟩
  · by_cases h1 : n < st.after.length
    · obtain ⟨k, rfl⟩ : ∃ k : Nat, n = k := ⟨n.toNat, by omega⟩
      have hlt : k < st.after.length := by omega
      have H := Lib.hid (show afterF st k = some st.after[k] by
        simp only [afterF]; rw [if_pos ⟨by omega, h1⟩]; simp [List.getD_eq_getElem?_getD, hlt])
      obtain ⟨b, o, d, rfl, _, hbl, rfl, hc⟩ := hs.get k hlt
      have ha0 := hc 0 _ rfl
      simp only [show Rep.n Int = 1 from rfl, Nat.mul_one, Nat.add_zero] at ha0
      clear hc hs
      generalize st.after[k] = x at H ha0
      go_enter Try.func24, Try.ntmps24
      go_wp2_with (first | (with_reducible refine stop_append ?_) | (with_reducible refine stop_copy ?_) | (with_reducible refine stop_make ?_) | (with_reducible refine stop_lookup ?_) | (with_reducible refine stop_update ?_) | (with_reducible refine stop_slice ?_) | (with_reducible refine stop_range ?_) | (with_reducible refine stop_next ?_) | (with_reducible refine stop_convert ⟨_, rfl⟩ ?_) | (with_reducible refine stop_convertB ⟨_, _, _, rfl⟩ ?_) | (with_reducible refine stop_eqSlice ⟨_, _, rfl⟩ ?_))
      go_ret2
      rw [H.out]
      exact ⟨Chg.refl _ _, .inl ⟨_, rfl, rfl⟩⟩
    · have H := Lib.hid (show afterF st n = none by simp [afterF]; omega)
      clear hs
      go_enter Try.func24, Try.ntmps24
      go_wp2_with (first | (with_reducible refine stop_append ?_) | (with_reducible refine stop_copy ?_) | (with_reducible refine stop_make ?_) | (with_reducible refine stop_lookup ?_) | (with_reducible refine stop_update ?_) | (with_reducible refine stop_slice ?_) | (with_reducible refine stop_range ?_) | (with_reducible refine stop_next ?_) | (with_reducible refine stop_convert ⟨_, rfl⟩ ?_) | (with_reducible refine stop_convertB ⟨_, _, _, rfl⟩ ?_) | (with_reducible refine stop_eqSlice ⟨_, _, rfl⟩ ?_))
      go_ret2
      rw [H.out]
      exact ⟨Chg.refl _ _, .inr ⟨rfl, rfl⟩⟩
set_option maxRecDepth 100000 in
set_option maxHeartbeats 1000000 in
theorem ofind_any {sh lo hi p : Nat} {st : OSt} {w : World} (h : Ord w lo hi p st) (hI : Inv sh st) (s l : Int) (hl : -9223372036854775808 ≤ l ∧ l ≤ 9223372036854775807) :
    Calls Try.prog 18 #[.pointer (some ⟨p, 0, none⟩), .agg #[.int .i64 s, .int .i64 l]] w (OptPost (findF st.runs (s, l)) w) := by
  obtain ⟨lv, rv, av, h⟩ := h
  have hm := hI.runsLen
  have hs := h.rr.sl
  obtain ⟨A, c, rfl⟩ := hs.slice
  have c1 : w.cell? ⟨p, 1, none⟩ = some (.slice A st.runs.length c) := cell_obj (i := 1) h.obj rfl
  have Hb := Lib.hid (show ∀ r ∈ st.runs, 0 ≤ r.1 ∧ r.1 + r.2.2 ≤ 1000000 ∧ 0 ≤ r.2.1.2 from fun r hr => by
    have := hI.contig.mem hr
    have := hI.loc r hr
    have := hI.tot
    omega)
  clear h hI
  generalize st.runs = rs at *
  have hc0 := (Chg.refl No w).alloc (.cells #[.int .i64 s, .int .i64 l] 36)
  have o3 := alloc_obj w (.cells #[.int .i64 s, .int .i64 l] 36)
  have H := Lib.hid (hs.keepNo hc0)
  have c1 := hc0.cell c1 (not_no _)
  clear hs
  go_enter Try.func18, Try.ntmps18
  go_wp2_with (first | (with_reducible refine stop_append ?_) | (with_reducible refine stop_copy ?_) | (with_reducible refine stop_make ?_) | (with_reducible refine stop_lookup ?_) | (with_reducible refine stop_update ?_) | (with_reducible refine stop_slice ?_) | (with_reducible refine stop_range ?_) | (with_reducible refine stop_next ?_) | (with_reducible refine stop_convert ⟨_, rfl⟩ ?_) | (with_reducible refine stop_convertB ⟨_, _, _, rfl⟩ ?_) | (with_reducible refine stop_eqSlice ⟨_, _, rfl⟩ ?_))
  generalize w.alloc (.cells #[.int .i64 s, .int .i64 l] 36) = w0 at *
  generalize w.heap.size = q at *
  have p0 : w0.cell? ⟨q, 0, none⟩ = some (.int .i64 s) := cell_obj (i := 0) o3 rfl
  have p1 : w0.cell? ⟨q, 1, none⟩ = some (.int .i64 l) := cell_obj (i := 1) o3 rfl
  have Hp0 := Lib.hid p0
  have Hp1 := Lib.hid p1
  clear o3 p0 p1
  go_loopw [7, 8, 14] (fun _ _ v14 wr => ∃ k : Nat, k ≤ rs.length ∧ v14 = .int .i64 k ∧ Chg No w0 wr ∧ findF rs (s, l) = findF (rs.drop k) (s, l)) (fun _ _ v14 _ => rs.length - (intOf v14).toNat)
  case atStart => exact ⟨0, by omega, rfl, Chg.refl _ _, rfl⟩
  case round =>
    obtain ⟨k, hk, rfl, hc1, hf⟩ := hrel
    have Hf := Lib.hid hf; clear hf
    by_cases hlt : k < rs.length
    · obtain ⟨b, o, d, rfl, _, hbl, ⟨d1, d2, rfl, rfl, ⟨d3, d4, rfl, ⟨d5, d6, rfl, rfl, rfl⟩, rfl⟩⟩, ha⟩ := (H.out.keepNo hc1).get k hlt
      have hd := Lib.hid (show findF (rs.drop k) (s, l) = findF (rs[k] :: rs.drop (k + 1)) (s, l) by rw [← List.drop_eq_getElem_cons hlt])
      have hb := Hb.out _ (List.getElem_mem hlt)
      generalize rs[k] = x at ha hd hb
      obtain ⟨px, ⟨sx, lx⟩, mx⟩ := x
      simp only at hb ha
      have a0 := ha 0 _ rfl
      have a1 := ha 1 _ rfl
      have a2 := ha 2 _ rfl
      have a3 := ha 3 _ rfl
      simp only [show Rep.n (Int × (Int × Int) × Int) = 4 from rfl, Nat.add_zero] at a0 a1 a2 a3
      clear ha
      have p0 := hc1.cell Hp0.out (not_no _)
      have p1 := hc1.cell Hp1.out (not_no _)
      have hlb : q ≠ wr.heap.size := fun e => by have := World.block_lt_of_cell? _ _ p0; simp at this; omega
      have hca := (Chg.refl No wr).alloc (.cells #[.int .i64 px, .int .i64 sx, .int .i64 lx, .int .i64 mx] 124)
      have k0 := hca.cell p0 (not_no _)
      have k1 := hca.cell p1 (not_no _)
      have hc2 := hc1.trans hca
      clear p0 p1
      by_cases hs1 : sx = s
      · subst hs1
        by_cases hl1 : lx ≤ l
        · have hw : IntKind.i64.wrap (l - lx) = l - lx := IntWalk.i64_in _ (by omega)
          by_cases hm1 : l - lx < mx
          · have Hr := Lib.hid (show findF ((px, (sx, lx), mx) :: rs.drop (k + 1)) (sx, l) = some (px + (l - lx)) by
              simp only [findF]; rw [if_pos ⟨trivial, hl1, hm1⟩])
            have hw2 : IntKind.i64.wrap (px + (l - lx)) = px + (l - lx) := IntWalk.i64_in _ (by omega)
            go_wp2_with (first | (with_reducible refine stop_append ?_) | (with_reducible refine stop_copy ?_) | (with_reducible refine stop_make ?_) | (with_reducible refine stop_lookup ?_) | (with_reducible refine stop_update ?_) | (with_reducible refine stop_slice ?_) | (with_reducible refine stop_range ?_) | (with_reducible refine stop_next ?_) | (with_reducible refine stop_convert ⟨_, rfl⟩ ?_) | (with_reducible refine stop_convertB ⟨_, _, _, rfl⟩ ?_) | (with_reducible refine stop_eqSlice ⟨_, _, rfl⟩ ?_))
            go_ret2
            rw [Hf.out, hd.out, Hr.out]
            exact ⟨hc0.trans hc2, .inl ⟨_, rfl, rfl⟩⟩
          · have Hr := Lib.hid (show findF ((px, (sx, lx), mx) :: rs.drop (k + 1)) (sx, l) = findF (rs.drop (k + 1)) (sx, l) by
              simp only [findF]; rw [if_neg (fun h => hm1 h.2.2)])
            go_wp2_with (first | (with_reducible refine stop_append ?_) | (with_reducible refine stop_copy ?_) | (with_reducible refine stop_make ?_) | (with_reducible refine stop_lookup ?_) | (with_reducible refine stop_update ?_) | (with_reducible refine stop_slice ?_) | (with_reducible refine stop_range ?_) | (with_reducible refine stop_next ?_) | (with_reducible refine stop_convert ⟨_, rfl⟩ ?_) | (with_reducible refine stop_convertB ⟨_, _, _, rfl⟩ ?_) | (with_reducible refine stop_eqSlice ⟨_, _, rfl⟩ ?_))
            go_roundw
            case rel => exact ⟨k + 1, by omega, by go_num, hc2, by rw [Hf.out, hd.out, Hr.out]⟩
            case measure => simp [intOf]; omega
        · have Hr := Lib.hid (show findF ((px, (sx, lx), mx) :: rs.drop (k + 1)) (sx, l) = findF (rs.drop (k + 1)) (sx, l) by
            simp only [findF]; rw [if_neg (fun h => hl1 h.2.1)])
          go_wp2_with (first | (with_reducible refine stop_append ?_) | (with_reducible refine stop_copy ?_) | (with_reducible refine stop_make ?_) | (with_reducible refine stop_lookup ?_) | (with_reducible refine stop_update ?_) | (with_reducible refine stop_slice ?_) | (with_reducible refine stop_range ?_) | (with_reducible refine stop_next ?_) | (with_reducible refine stop_convert ⟨_, rfl⟩ ?_) | (with_reducible refine stop_convertB ⟨_, _, _, rfl⟩ ?_) | (with_reducible refine stop_eqSlice ⟨_, _, rfl⟩ ?_))
          go_roundw
          case rel => exact ⟨k + 1, by omega, by go_num, hc2, by rw [Hf.out, hd.out, Hr.out]⟩
          case measure => simp [intOf]; omega
      · have Hr := Lib.hid (show findF ((px, (sx, lx), mx) :: rs.drop (k + 1)) (s, l) = findF (rs.drop (k + 1)) (s, l) by
          simp only [findF]; rw [if_neg (fun h => hs1 h.1)])
        have hs2 : (sx == s) = false := by simpa using hs1
        clear hs1
        go_wp2_with (first | (with_reducible refine stop_append ?_) | (with_reducible refine stop_copy ?_) | (with_reducible refine stop_make ?_) | (with_reducible refine stop_lookup ?_) | (with_reducible refine stop_update ?_) | (with_reducible refine stop_slice ?_) | (with_reducible refine stop_range ?_) | (with_reducible refine stop_next ?_) | (with_reducible refine stop_convert ⟨_, rfl⟩ ?_) | (with_reducible refine stop_convertB ⟨_, _, _, rfl⟩ ?_) | (with_reducible refine stop_eqSlice ⟨_, _, rfl⟩ ?_))
        go_roundw
        case rel => exact ⟨k + 1, by omega, by go_num, hc2, by rw [Hf.out, hd.out, Hr.out]⟩
        case measure => simp [intOf]; omega
    · obtain rfl : k = rs.length := by omega
      rw [List.drop_length] at Hf
      go_wp2_with (first | (with_reducible refine stop_append ?_) | (with_reducible refine stop_copy ?_) | (with_reducible refine stop_make ?_) | (with_reducible refine stop_lookup ?_) | (with_reducible refine stop_update ?_) | (with_reducible refine stop_slice ?_) | (with_reducible refine stop_range ?_) | (with_reducible refine stop_next ?_) | (with_reducible refine stop_convert ⟨_, rfl⟩ ?_) | (with_reducible refine stop_convertB ⟨_, _, _, rfl⟩ ?_) | (with_reducible refine stop_eqSlice ⟨_, _, rfl⟩ ?_))
      go_ret2
      rw [Hf.out]
      exact ⟨hc0.trans hc1, .inr ⟨rfl, rfl⟩⟩
end Go.Proofs.Ytbjpoamnglfjeaa
