/- Walks of package order: At, with the library's search. -/
import Derived.Test.YtbjpoamnglfjeaaOrdA
set_option linter.unusedVariables false
set_option linter.unusedSimpArgs false
namespace Go.Proofs.Ytbjpoamnglfjeaa
open Go.RowKit Cb

def SearchPost (n : Nat) (p : Nat → Bool) (w : World) (e : Ending) (w' : World) : Prop :=
  ∃ r : Nat, e = .returned (.int .i64 r) ∧ r ≤ n ∧ (∀ i, i + 1 = r → p i = false) ∧ (r < n → p r = true) ∧ Chg No w w'
set_option maxRecDepth 100000 in
set_option maxHeartbeats 1000000 in
theorem search_any (n : Nat) (hn : n ≤ 1000000) (p : Nat → Bool) (g : FuncId) (c1 c2 : Value) (hg : ∀ args W, (callFunc g args).run Try.prog W = .ok (.enter g args) W) (w : World)
    (hp : ∀ i, i < n → ∀ W, Chg No w W → Calls Try.prog g #[.int .i64 i, c1, c2] W fun e w' => e = .returned (.bool (p i)) ∧ Chg No W w') :
    Calls Try.prog 59 #[.int .i64 n, .func (.func g) #[] #[c1, c2]] w (SearchPost n p w) := by
  have Hp := Lib.hid hp
  clear hp
  go_enter Try.func59, Try.ntmps59
  go_wp2_with (first | (with_reducible refine stop_append ?_) | (with_reducible refine stop_copy ?_) | (with_reducible refine stop_make ?_) | (with_reducible refine stop_lookup ?_) | (with_reducible refine stop_update ?_) | (with_reducible refine stop_slice ?_) | (with_reducible refine stop_range ?_) | (with_reducible refine stop_next ?_) | (with_reducible refine stop_convert ⟨_, rfl⟩ ?_) | (with_reducible refine stop_convertB ⟨_, _, _, rfl⟩ ?_) | (with_reducible refine stop_eqSlice ⟨_, _, rfl⟩ ?_))
  go_loopw [5, 6, 7] (fun v5 v6 _ wr => ∃ i j : Nat, i ≤ j ∧ j ≤ n ∧ v5 = .int .i64 i ∧ v6 = .int .i64 j ∧ Chg No w wr ∧ (∀ k, k + 1 = i → p k = false) ∧ (j < n → p j = true)) (fun v5 v6 _ _ => (intOf v6).toNat - (intOf v5).toNat)
  case atStart => exact ⟨0, n, by omega, by omega, rfl, rfl, Chg.refl _ _, fun _ h => by omega, fun h => by omega⟩
  case round =>
    obtain ⟨i, j, hij, hjn, rfl, rfl, hc, hlo, hhi⟩ := hrel
    have Hlo := Lib.hid hlo
    have Hhi := Lib.hid hhi
    clear hlo hhi
    by_cases hlt : i < j
    · obtain ⟨m, hm, hm1, hm2⟩ : ∃ m : Nat, ((i : Int) + j) / 2 = m ∧ i ≤ m ∧ m < j := ⟨(i + j) / 2, by omega, by omega, by omega⟩
      have Hcall := Lib.hid (Hp.out m (by omega) wr hc)
      have Hm := Lib.hid hm
      clear hm
      cases hpm : p m with
      | true =>
        have Hpm := Lib.hid hpm
        rw [hpm] at Hcall
        clear hpm
        go_wp2_with (first | (with_reducible refine stop_append ?_) | (with_reducible refine stop_copy ?_) | (with_reducible refine stop_make ?_) | (with_reducible refine stop_lookup ?_) | (with_reducible refine stop_update ?_) | (with_reducible refine stop_slice ?_) | (with_reducible refine stop_range ?_) | (with_reducible refine stop_next ?_) | (with_reducible refine stop_convert ⟨_, rfl⟩ ?_) | (with_reducible refine stop_convertB ⟨_, _, _, rfl⟩ ?_) | (with_reducible refine stop_eqSlice ⟨_, _, rfl⟩ ?_))
        rw [Hm.out]
        refine Hcall.out.mono ?_
        rintro e w2 ⟨rfl, hc2⟩
        go_wp2_with (first | (with_reducible refine stop_append ?_) | (with_reducible refine stop_copy ?_) | (with_reducible refine stop_make ?_) | (with_reducible refine stop_lookup ?_) | (with_reducible refine stop_update ?_) | (with_reducible refine stop_slice ?_) | (with_reducible refine stop_range ?_) | (with_reducible refine stop_next ?_) | (with_reducible refine stop_convert ⟨_, rfl⟩ ?_) | (with_reducible refine stop_convertB ⟨_, _, _, rfl⟩ ?_) | (with_reducible refine stop_eqSlice ⟨_, _, rfl⟩ ?_))
        go_roundw
        case rel => exact ⟨i, m, hm1, by omega, rfl, rfl, hc.trans hc2, Hlo.out, fun _ => Hpm.out⟩
        case measure => simp [intOf]; omega
      | false =>
        have Hpm := Lib.hid hpm
        rw [hpm] at Hcall
        clear hpm
        go_wp2_with (first | (with_reducible refine stop_append ?_) | (with_reducible refine stop_copy ?_) | (with_reducible refine stop_make ?_) | (with_reducible refine stop_lookup ?_) | (with_reducible refine stop_update ?_) | (with_reducible refine stop_slice ?_) | (with_reducible refine stop_range ?_) | (with_reducible refine stop_next ?_) | (with_reducible refine stop_convert ⟨_, rfl⟩ ?_) | (with_reducible refine stop_convertB ⟨_, _, _, rfl⟩ ?_) | (with_reducible refine stop_eqSlice ⟨_, _, rfl⟩ ?_))
        rw [Hm.out]
        refine Hcall.out.mono ?_
        rintro e w2 ⟨rfl, hc2⟩
        go_wp2_with (first | (with_reducible refine stop_append ?_) | (with_reducible refine stop_copy ?_) | (with_reducible refine stop_make ?_) | (with_reducible refine stop_lookup ?_) | (with_reducible refine stop_update ?_) | (with_reducible refine stop_slice ?_) | (with_reducible refine stop_range ?_) | (with_reducible refine stop_next ?_) | (with_reducible refine stop_convert ⟨_, rfl⟩ ?_) | (with_reducible refine stop_convertB ⟨_, _, _, rfl⟩ ?_) | (with_reducible refine stop_eqSlice ⟨_, _, rfl⟩ ?_))
        go_roundw
        case rel => exact ⟨m + 1, j, by omega, by omega, by go_num, rfl, hc.trans hc2, fun k hk => by
          obtain rfl : k = m := by omega
          exact Hpm.out, Hhi.out⟩
        case measure => simp [intOf]; omega
    · obtain rfl : i = j := by omega
      go_wp2_with (first | (with_reducible refine stop_append ?_) | (with_reducible refine stop_copy ?_) | (with_reducible refine stop_make ?_) | (with_reducible refine stop_lookup ?_) | (with_reducible refine stop_update ?_) | (with_reducible refine stop_slice ?_) | (with_reducible refine stop_range ?_) | (with_reducible refine stop_next ?_) | (with_reducible refine stop_convert ⟨_, rfl⟩ ?_) | (with_reducible refine stop_convertB ⟨_, _, _, rfl⟩ ?_) | (with_reducible refine stop_eqSlice ⟨_, _, rfl⟩ ?_))
      go_ret
      exact ⟨_, rfl, hjn, Hlo.out, Hhi.out, hc⟩
def atF (st : OSt) (pos : Int) : Option (Int × Int) := if 0 ≤ pos ∧ pos < st.len then (rowF st)[pos.toNat]? else none
def AtPost (r : Option (Int × Int)) (w : World) (e : Ending) (w' : World) : Prop :=
  Chg No w w' ∧ ((∃ x, r = some x ∧ e = .returned (.tuple #[.agg #[.int .i64 x.1, .int .i64 x.2], .bool true])) ∨ (r = none ∧ e = .returned (.tuple #[.agg #[.int .i64 0, .int .i64 0], .bool false])))
set_option maxRecDepth 100000 in
set_option maxHeartbeats 1000000 in
theorem at1_any (p q2 q3 : Nat) (A : Option Addr) (c : Nat) (rs : List Rn) (F : Nat → Prop) (pos : Int) (w : World) (hl : rs.length ≤ 1000000) (hs : Sl F w (.slice A rs.length c) rs) (h2 : w.cell? ⟨q2, 0, none⟩ = some (.pointer (some ⟨p, 0, none⟩))) (h3 : w.cell? ⟨q3, 0, none⟩ = some (.int .i64 pos))
    (h1 : w.cell? ⟨p, 1, none⟩ = some (.slice A rs.length c)) (i : Nat) (hi : i < rs.length) :
    Calls Try.prog 60 #[.int .i64 i, .pointer (some ⟨q2, 0, none⟩), .pointer (some ⟨q3, 0, none⟩)] w fun e w' => e = .returned (.bool (decide (pos < (rs.getD i (0, (0, 0), 0)).1))) ∧ Chg No w w' := by
  obtain ⟨b, o, d, rfl, _, hbl, ⟨d1, d2, rfl, rfl, _⟩, ha⟩ := hs.get i hi
  have a0 := ha 0 _ rfl
  simp only [show Rep.n (Int × (Int × Int) × Int) = 4 from rfl, Nat.add_zero] at a0
  rw [show rs.getD i (0, (0, 0), 0) = rs[i] by simp [List.getD_eq_getElem?_getD, hi]]
  clear ha hs
  generalize rs[i].1 = x at a0 ⊢
  go_enter Try.func60, Try.ntmps60
  go_wp2_with (first | (with_reducible refine stop_append ?_) | (with_reducible refine stop_copy ?_) | (with_reducible refine stop_make ?_) | (with_reducible refine stop_lookup ?_) | (with_reducible refine stop_update ?_) | (with_reducible refine stop_slice ?_) | (with_reducible refine stop_range ?_) | (with_reducible refine stop_next ?_) | (with_reducible refine stop_convert ⟨_, rfl⟩ ?_) | (with_reducible refine stop_convertB ⟨_, _, _, rfl⟩ ?_) | (with_reducible refine stop_eqSlice ⟨_, _, rfl⟩ ?_))
  refine reg_start (fun W => W.cell? ⟨q2, 0, none⟩ = some (.pointer (some ⟨p, 0, none⟩)) ∧ W.cell? ⟨q3, 0, none⟩ = some (.int .i64 pos) ∧ W.cell? ⟨p, 1, none⟩ = some (.slice (some ⟨b, o, none⟩) rs.length c) ∧ W.cell? ⟨b, o + i * 4, none⟩ = some (.int .i64 x)) (by kernel_rfl) ?_
  ((refine reg_yes (i := 0) (oi := { dst := some 5, op := Go.Op.load 25 (Go.Operand.tmp 1), type := 25, pos := "order.go:109", after := #[], guard := none }) (v := ?_) rfl (by kernel_rfl) (by kernel_rfl) (by kernel_rfl) (fun _ _ _ h => h) rfl ?_ ?_); rotate_left; focus (intro W hW; (try dsimp only at hW); go_split_ands; go_simp; (try (simp (disch := omega) only [IntWalk.i64_in]; (try go_simp))); (try (split; (next => omega); (try go_simp))); try rfl; done))
  try simp only [Act.put, List.setIfInBounds_toArray, List.set_cons_zero, List.set_cons_succ]
  ((refine reg_yes (i := 1) (oi := { dst := some 6, op := Go.Op.nilCheck (Go.Operand.tmp 5), type := 0, pos := "order.go:109", after := #[{ on := 0, ground := Go.Ground.data }], guard := none }) (v := ?_) rfl (by kernel_rfl) (by kernel_rfl) (by kernel_rfl) (fun _ _ _ h => h) rfl ?_ ?_); rotate_left; focus (intro W hW; (try dsimp only at hW); go_split_ands; go_simp; (try (simp (disch := omega) only [IntWalk.i64_in]; (try go_simp))); (try (split; (next => omega); (try go_simp))); try rfl; done))
  try simp only [Act.put, List.setIfInBounds_toArray, List.set_cons_zero, List.set_cons_succ]
  ((refine reg_yes (i := 2) (oi := { dst := some 7, op := Go.Op.fieldAddr 122 (Go.Operand.tmp 6) 1, type := 0, pos := "order.go:109", after := #[{ on := 1, ground := Go.Ground.data }], guard := none }) (v := ?_) rfl (by kernel_rfl) (by kernel_rfl) (by kernel_rfl) (fun _ _ _ h => h) rfl ?_ ?_); rotate_left; focus (intro W hW; (try dsimp only at hW); go_split_ands; go_simp; (try (simp (disch := omega) only [IntWalk.i64_in]; (try go_simp))); (try (split; (next => omega); (try go_simp))); try rfl; done))
  try simp only [Act.put, List.setIfInBounds_toArray, List.set_cons_zero, List.set_cons_succ]
  ((refine reg_yes (i := 3) (oi := { dst := some 8, op := Go.Op.load 120 (Go.Operand.tmp 7), type := 120, pos := "order.go:109", after := #[{ on := 2, ground := Go.Ground.data }], guard := none }) (v := ?_) rfl (by kernel_rfl) (by kernel_rfl) (by kernel_rfl) (fun _ _ _ h => h) rfl ?_ ?_); rotate_left; focus (intro W hW; (try dsimp only at hW); go_split_ands; go_simp; (try (simp (disch := omega) only [IntWalk.i64_in]; (try go_simp))); (try (split; (next => omega); (try go_simp))); try rfl; done))
  try simp only [Act.put, List.setIfInBounds_toArray, List.set_cons_zero, List.set_cons_succ]
  ((refine reg_yes (i := 4) (oi := { dst := some 9, op := Go.Op.move (Go.Operand.tmp 0), type := 3, pos := "order.go:109", after := #[], guard := none }) (v := ?_) rfl (by kernel_rfl) (by kernel_rfl) (by kernel_rfl) (fun _ _ _ h => h) rfl ?_ ?_); rotate_left; focus (intro W hW; (try dsimp only at hW); go_split_ands; go_simp; (try (simp (disch := omega) only [IntWalk.i64_in]; (try go_simp))); (try (split; (next => omega); (try go_simp))); try rfl; done))
  try simp only [Act.put, List.setIfInBounds_toArray, List.set_cons_zero, List.set_cons_succ]
  ((refine reg_yes (i := 5) (oi := { dst := some 10, op := Go.Op.indexAddr 120 (Go.Operand.tmp 8) (Go.Operand.tmp 9), type := 0, pos := "order.go:109", after := #[{ on := 3, ground := Go.Ground.data }, { on := 4, ground := Go.Ground.data }], guard := none }) (v := ?_) rfl (by kernel_rfl) (by kernel_rfl) (by kernel_rfl) (fun _ _ _ h => h) rfl ?_ ?_); rotate_left; focus (intro W hW; (try dsimp only at hW); go_split_ands; go_simp; (try (simp (disch := omega) only [IntWalk.i64_in]; (try go_simp))); (try (split; (next => omega); (try go_simp))); try rfl; done))
  try simp only [Act.put, List.setIfInBounds_toArray, List.set_cons_zero, List.set_cons_succ]
  ((refine reg_yes (i := 6) (oi := { dst := some 11, op := Go.Op.fieldAddr 124 (Go.Operand.tmp 10) 0, type := 0, pos := "order.go:109", after := #[{ on := 5, ground := Go.Ground.data }], guard := none }) (v := ?_) rfl (by kernel_rfl) (by kernel_rfl) (by kernel_rfl) (fun _ _ _ h => h) rfl ?_ ?_); rotate_left; focus (intro W hW; (try dsimp only at hW); go_split_ands; go_simp; (try (simp (disch := omega) only [IntWalk.i64_in]; (try go_simp))); (try (split; (next => omega); (try go_simp))); try rfl; done))
  try simp only [Act.put, List.setIfInBounds_toArray, List.set_cons_zero, List.set_cons_succ]
  ((refine reg_yes (i := 7) (oi := { dst := some 12, op := Go.Op.load 3 (Go.Operand.tmp 11), type := 3, pos := "order.go:109", after := #[{ on := 6, ground := Go.Ground.data }], guard := none }) (v := ?_) rfl (by kernel_rfl) (by kernel_rfl) (by kernel_rfl) (fun _ _ _ h => h) rfl ?_ ?_); rotate_left; focus (intro W hW; (try dsimp only at hW); go_split_ands; go_simp; (try (simp (disch := omega) only [IntWalk.i64_in]; (try go_simp))); (try (split; (next => omega); (try go_simp))); try rfl; done))
  try simp only [Act.put, List.setIfInBounds_toArray, List.set_cons_zero, List.set_cons_succ]
  ((refine reg_yes (i := 8) (oi := { dst := some 13, op := Go.Op.load 3 (Go.Operand.tmp 2), type := 3, pos := "order.go:109", after := #[], guard := none }) (v := ?_) rfl (by kernel_rfl) (by kernel_rfl) (by kernel_rfl) (fun _ _ _ h => h) rfl ?_ ?_); rotate_left; focus (intro W hW; (try dsimp only at hW); go_split_ands; go_simp; (try (simp (disch := omega) only [IntWalk.i64_in]; (try go_simp))); (try (split; (next => omega); (try go_simp))); try rfl; done))
  try simp only [Act.put, List.setIfInBounds_toArray, List.set_cons_zero, List.set_cons_succ]
  ((refine reg_yes (i := 9) (oi := { dst := some 14, op := Go.Op.binOp Go.BinOp.gtr 3 (Go.Operand.tmp 12) (Go.Operand.tmp 13) 3, type := 4, pos := "order.go:109", after := #[{ on := 7, ground := Go.Ground.data }, { on := 8, ground := Go.Ground.data }], guard := none }) (v := ?_) rfl (by kernel_rfl) (by kernel_rfl) (by kernel_rfl) (fun _ _ _ h => h) rfl ?_ ?_); rotate_left; focus (intro W hW; (try dsimp only at hW); go_split_ands; go_simp; (try (simp (disch := omega) only [IntWalk.i64_in]; (try go_simp))); (try (split; (next => omega); (try go_simp))); try rfl; done))
  try simp only [Act.put, List.setIfInBounds_toArray, List.set_cons_zero, List.set_cons_succ]
  ((refine reg_yes (i := 10) (oi := { dst := some 4, op := Go.Op.assign (Go.Operand.tmp 14), type := 4, pos := "order.go:109", after := #[{ on := 9, ground := Go.Ground.data }, { on := 0, ground := Go.Ground.phase }, { on := 1, ground := Go.Ground.phase }, { on := 2, ground := Go.Ground.phase }, { on := 3, ground := Go.Ground.phase }, { on := 4, ground := Go.Ground.phase }, { on := 5, ground := Go.Ground.phase }, { on := 6, ground := Go.Ground.phase }, { on := 7, ground := Go.Ground.phase }, { on := 8, ground := Go.Ground.phase }, { on := 9, ground := Go.Ground.phase }], guard := none }) (v := ?_) rfl (by kernel_rfl) (by kernel_rfl) (by kernel_rfl) (fun _ _ _ h => h) rfl ?_ ?_); rotate_left; focus (intro W hW; (try dsimp only at hW); go_split_ands; go_simp; (try (simp (disch := omega) only [IntWalk.i64_in]; (try go_simp))); (try (split; (next => omega); (try go_simp))); try rfl; done))
  try simp only [Act.put, List.setIfInBounds_toArray, List.set_cons_zero, List.set_cons_succ]
  -- ready: []
  refine reg_done (by kernel_rfl) (show (fun W => W.cell? ⟨q2, 0, none⟩ = some (.pointer (some ⟨p, 0, none⟩)) ∧ W.cell? ⟨q3, 0, none⟩ = some (.int .i64 pos) ∧ W.cell? ⟨p, 1, none⟩ = some (.slice (some ⟨b, o, none⟩) rs.length c) ∧ W.cell? ⟨b, o + i * 4, none⟩ = some (.int .i64 x)) w.drew from ⟨h2, h3, h1, a0⟩) ?_
  go_wp2_with (first | (with_reducible refine stop_append ?_) | (with_reducible refine stop_copy ?_) | (with_reducible refine stop_make ?_) | (with_reducible refine stop_lookup ?_) | (with_reducible refine stop_update ?_) | (with_reducible refine stop_slice ?_) | (with_reducible refine stop_range ?_) | (with_reducible refine stop_next ?_) | (with_reducible refine stop_convert ⟨_, rfl⟩ ?_) | (with_reducible refine stop_convertB ⟨_, _, _, rfl⟩ ?_) | (with_reducible refine stop_eqSlice ⟨_, _, rfl⟩ ?_))
  go_ret
  exact ⟨rfl, (Chg.refl No w).drew⟩
set_option maxRecDepth 100000 in
set_option maxHeartbeats 1000000 in
theorem at_any {sh lo hi p : Nat} {st : OSt} {w : World} (h : Ord w lo hi p st) (hI : Inv sh st) (pos : Int) :
    Calls Try.prog 21 #[.pointer (some ⟨p, 0, none⟩), .int .i64 pos] w (AtPost (atF st pos) w) := by
  have hlen := Lib.hid (fun W hW => olen_any (h.keepNo (w' := W) hW) hI)
  have hpl : p < w.heap.size := by obtain ⟨lv, rv, av, h⟩ := h; exact lt_of_heap h.obj
  have hc3 : Chg No w (((w.alloc (.cells #[.pointer (some ⟨p, 0, none⟩)] 25)).alloc (.cells #[.int .i64 pos] 3)).alloc (.cells #[.int .i64 0, .int .i64 0] 36)) := (((Chg.refl No w).alloc _).alloc _).alloc _
  have o2 : (((w.alloc (.cells #[.pointer (some ⟨p, 0, none⟩)] 25)).alloc (.cells #[.int .i64 pos] 3)).alloc (.cells #[.int .i64 0, .int .i64 0] 36)).heap[w.heap.size]? = some (.cells #[.pointer (some ⟨p, 0, none⟩)] 25 (0, 0)) :=
    (((Chg.refl No _).alloc _).alloc _).obj (alloc_obj w _) (not_no _)
  have o3 : (((w.alloc (.cells #[.pointer (some ⟨p, 0, none⟩)] 25)).alloc (.cells #[.int .i64 pos] 3)).alloc (.cells #[.int .i64 0, .int .i64 0] 36)).heap[w.heap.size + 1]? = some (.cells #[.int .i64 pos] 3 (0, 0)) := by
    have := alloc_obj (w.alloc (.cells #[.pointer (some ⟨p, 0, none⟩)] 25)) (.cells #[.int .i64 pos] 3)
    rw [World.size_alloc] at this
    exact ((Chg.refl No _).alloc _).obj this (not_no _)
  have o4 : (((w.alloc (.cells #[.pointer (some ⟨p, 0, none⟩)] 25)).alloc (.cells #[.int .i64 pos] 3)).alloc (.cells #[.int .i64 0, .int .i64 0] 36)).heap[w.heap.size + 1 + 1]? = some (.cells #[.int .i64 0, .int .i64 0] 36 (0, 0)) := by
    have := alloc_obj ((w.alloc (.cells #[.pointer (some ⟨p, 0, none⟩)] 25)).alloc (.cells #[.int .i64 pos] 3)) (.cells #[.int .i64 0, .int .i64 0] 36)
    rw [World.size_alloc, World.size_alloc] at this
    exact this
  have hq : w.heap.size ≤ w.heap.size ∧ w.heap.size < w.heap.size + 1 ∧ w.heap.size + 1 < w.heap.size + 1 + 1 := ⟨Nat.le_refl _, by omega, by omega⟩
  have hwe : ∀ (W : World) (x : Value), w.heap.size ≤ W.heap.size → True := fun _ _ _ => trivial
  have hAll : (pos < 0 ∧ atF st pos = none) ∨ (0 ≤ pos ∧ st.len ≤ pos ∧ atF st pos = none) ∨ (0 ≤ pos ∧ pos < st.len) := by
    by_cases h0 : pos < 0
    · exact .inl ⟨h0, by simp [atF]; omega⟩
    · by_cases h1 : st.len ≤ pos
      · exact .inr (.inl ⟨by omega, h1, by simp [atF]; omega⟩)
      · exact .inr (.inr ⟨by omega, by omega⟩)
  rcases hAll with ⟨h0, H⟩ | ⟨h0, h1, H⟩ | ⟨h0, h1⟩
  · have H := Lib.hid H
    clear h hlen hwe
    go_enter Try.func21, Try.ntmps21
    go_wp2_with (first | (with_reducible refine stop_append ?_) | (with_reducible refine stop_copy ?_) | (with_reducible refine stop_make ?_) | (with_reducible refine stop_lookup ?_) | (with_reducible refine stop_update ?_) | (with_reducible refine stop_slice ?_) | (with_reducible refine stop_range ?_) | (with_reducible refine stop_next ?_) | (with_reducible refine stop_convert ⟨_, rfl⟩ ?_) | (with_reducible refine stop_convertB ⟨_, _, _, rfl⟩ ?_) | (with_reducible refine stop_eqSlice ⟨_, _, rfl⟩ ?_))
    generalize ((w.alloc (.cells #[.pointer (some ⟨p, 0, none⟩)] 25)).alloc (.cells #[.int .i64 pos] 3)).alloc (.cells #[.int .i64 0, .int .i64 0] 36) = w0 at *
    generalize hq4 : w.heap.size + 1 + 1 = q4 at *
    generalize hq3 : w.heap.size + 1 = q3 at *
    generalize hq2 : w.heap.size = q2 at *
    have c2 : w0.cell? ⟨q2, 0, none⟩ = some (.pointer (some ⟨p, 0, none⟩)) := cell_obj (i := 0) o2 rfl
    have c3 : w0.cell? ⟨q3, 0, none⟩ = some (.int .i64 pos) := cell_obj (i := 0) o3 rfl
    have hA : ∀ i, At q4 i → w.heap.size ≤ i := fun i h => by simp only [At] at h; omega
    clear o2 o3
    refine pl_start (fun W => W.cell? ⟨q2, 0, none⟩ = some (.pointer (some ⟨p, 0, none⟩)) ∧ W.cell? ⟨q3, 0, none⟩ = some (.int .i64 pos) ∧ Chg No w0 W) (by kernel_rfl) (by kernel_rfl) ⟨c2, c3, (Chg.refl No w0).drew⟩ ?_
    ((refine pl_yes (i := 0) (oi := { dst := some 8, op := Go.Op.load 3 (Go.Operand.tmp 3), type := 3, pos := "order.go:106", after := #[], guard := none }) (v := ?_) rfl (by kernel_rfl) (by kernel_rfl) rfl ?_ ?_); rotate_left; focus (intro W hW; (try dsimp only at hW); go_split_ands; go_simp; (try (simp (disch := omega) only [IntWalk.i64_in]; (try go_simp))); (try (split; (next => omega); (try go_simp))); try rfl; done))
    try simp only [Act.put, List.setIfInBounds_toArray, List.set_cons_zero, List.set_cons_succ]
    ((refine pl_yes (i := 1) (oi := { dst := some 9, op := Go.Op.binOp Go.BinOp.lss 3 (Go.Operand.tmp 8) (Go.Operand.const (Go.Value.int Go.IntKind.i64 0)) 3, type := 4, pos := "order.go:106", after := #[{ on := 0, ground := Go.Ground.data }], guard := none }) (v := ?_) rfl (by kernel_rfl) (by kernel_rfl) rfl ?_ ?_); rotate_left; focus (intro W hW; (try dsimp only at hW); go_split_ands; go_simp; (try (simp (disch := omega) only [IntWalk.i64_in]; (try go_simp))); (try (split; (next => omega); (try go_simp))); try rfl; done))
    try simp only [Act.put, List.setIfInBounds_toArray, List.set_cons_zero, List.set_cons_succ]
    ((refine pl_yes (i := 2) (oi := { dst := some 10, op := Go.Op.move (Go.Operand.tmp 9), type := 4, pos := "order.go:106", after := #[{ on := 1, ground := Go.Ground.data }], guard := none }) (v := ?_) rfl (by kernel_rfl) (by kernel_rfl) rfl ?_ ?_); rotate_left; focus (intro W hW; (try dsimp only at hW); go_split_ands; go_simp; (try (simp (disch := omega) only [IntWalk.i64_in]; (try go_simp))); (try (split; (next => omega); (try go_simp))); try rfl; done))
    try simp only [Act.put, List.setIfInBounds_toArray, List.set_cons_zero, List.set_cons_succ]
    first | (refine pl_no (i := 3) (oi := { dst := some 11, op := Go.Op.load 3 (Go.Operand.tmp 3), type := 3, pos := "order.go:106", after := #[{ on := 2, ground := Go.Ground.guard }], guard := some (2, false) }) rfl (by kernel_rfl) (by kernel_rfl) rfl ?_) | ((refine pl_yes (i := 3) (oi := { dst := some 11, op := Go.Op.load 3 (Go.Operand.tmp 3), type := 3, pos := "order.go:106", after := #[{ on := 2, ground := Go.Ground.guard }], guard := some (2, false) }) (v := ?_) rfl (by kernel_rfl) (by kernel_rfl) rfl ?_ ?_); rotate_left; focus (intro W hW; (try dsimp only at hW); go_split_ands; go_simp; (try (simp (disch := omega) only [IntWalk.i64_in]; (try go_simp))); (try (split; (next => omega); (try go_simp))); try rfl; done))
    try simp only [Act.put, List.setIfInBounds_toArray, List.set_cons_zero, List.set_cons_succ]
    first | (refine pl_no (i := 4) (oi := { dst := some 12, op := Go.Op.load 25 (Go.Operand.tmp 2), type := 25, pos := "order.go:106", after := #[{ on := 2, ground := Go.Ground.guard }], guard := some (2, false) }) rfl (by kernel_rfl) (by kernel_rfl) rfl ?_) | ((refine pl_yes (i := 4) (oi := { dst := some 12, op := Go.Op.load 25 (Go.Operand.tmp 2), type := 25, pos := "order.go:106", after := #[{ on := 2, ground := Go.Ground.guard }], guard := some (2, false) }) (v := ?_) rfl (by kernel_rfl) (by kernel_rfl) rfl ?_ ?_); rotate_left; focus (intro W hW; (try dsimp only at hW); go_split_ands; go_simp; (try (simp (disch := omega) only [IntWalk.i64_in]; (try go_simp))); (try (split; (next => omega); (try go_simp))); try rfl; done))
    try simp only [Act.put, List.setIfInBounds_toArray, List.set_cons_zero, List.set_cons_succ]
    -- ready: [5]
    refine pl_no (i := 5) (oi := { dst := some 13, op := Go.Op.call { callee := Go.Callee.value (Go.Operand.func 20), args := #[Go.Operand.tmp 12], argTypes := #[25] }, type := 3, pos := "order.go:106", after := #[{ on := 4, ground := Go.Ground.data }, { on := 2, ground := Go.Ground.chain }, { on := 2, ground := Go.Ground.guard }], guard := some (2, false) }) rfl (by kernel_rfl) (by kernel_rfl) rfl ?_
    try simp only [Act.put, List.setIfInBounds_toArray, List.set_cons_zero, List.set_cons_succ]
    first | (refine pl_no (i := 6) (oi := { dst := some 14, op := Go.Op.binOp Go.BinOp.geq 3 (Go.Operand.tmp 11) (Go.Operand.tmp 13) 3, type := 4, pos := "order.go:106", after := #[{ on := 3, ground := Go.Ground.data }, { on := 5, ground := Go.Ground.data }, { on := 2, ground := Go.Ground.guard }], guard := some (2, false) }) rfl (by kernel_rfl) (by kernel_rfl) rfl ?_) | ((refine pl_yes (i := 6) (oi := { dst := some 14, op := Go.Op.binOp Go.BinOp.geq 3 (Go.Operand.tmp 11) (Go.Operand.tmp 13) 3, type := 4, pos := "order.go:106", after := #[{ on := 3, ground := Go.Ground.data }, { on := 5, ground := Go.Ground.data }, { on := 2, ground := Go.Ground.guard }], guard := some (2, false) }) (v := ?_) rfl (by kernel_rfl) (by kernel_rfl) rfl ?_ ?_); rotate_left; focus (intro W hW; (try dsimp only at hW); go_split_ands; go_simp; (try (simp (disch := omega) only [IntWalk.i64_in]; (try go_simp))); (try (split; (next => omega); (try go_simp))); try rfl; done))
    try simp only [Act.put, List.setIfInBounds_toArray, List.set_cons_zero, List.set_cons_succ]
    ((refine pl_yes (i := 7) (oi := { dst := some 15, op := Go.Op.pick (Go.Operand.tmp 10) (Go.Operand.const (Go.Value.bool true)) (Go.Operand.tmp 14), type := 4, pos := "order.go:106", after := #[{ on := 2, ground := Go.Ground.data }, { on := 6, ground := Go.Ground.data }], guard := none }) (v := ?_) rfl (by kernel_rfl) (by kernel_rfl) rfl ?_ ?_); rotate_left; focus (intro W hW; (try dsimp only at hW); go_split_ands; go_simp; (try (simp (disch := omega) only [IntWalk.i64_in]; (try go_simp))); (try (split; (next => omega); (try go_simp))); try rfl; done))
    try simp only [Act.put, List.setIfInBounds_toArray, List.set_cons_zero, List.set_cons_succ]
    -- ready: []
    refine pl_done (by kernel_rfl)  ?_
    rintro w1 ⟨_, _, hc1⟩
    have o4 := hc1.obj o4 (not_no _)
    have f0 := free_obj (i := 0) o4
    have f1 := free_obj (i := 1) o4
    have b0 : w1.cell? ⟨q4, 0, none⟩ = some (.int .i64 0) := cell_obj (i := 0) o4 rfl
    have b1 : w1.cell? ⟨q4, 1, none⟩ = some (.int .i64 0) := cell_obj (i := 1) o4 rfl
    go_wp2_with (first | (with_reducible refine stop_append ?_) | (with_reducible refine stop_copy ?_) | (with_reducible refine stop_make ?_) | (with_reducible refine stop_lookup ?_) | (with_reducible refine stop_update ?_) | (with_reducible refine stop_slice ?_) | (with_reducible refine stop_range ?_) | (with_reducible refine stop_next ?_) | (with_reducible refine stop_convert ⟨_, rfl⟩ ?_) | (with_reducible refine stop_convertB ⟨_, _, _, rfl⟩ ?_) | (with_reducible refine stop_eqSlice ⟨_, _, rfl⟩ ?_))
    refine bodyPost_ret (v := .tuple #[.agg #[.int .i64 0, .int .i64 0], .bool false]) (by simp [results, Try.results21, go_sem, *]) rfl ?_
    rw [H.out]
    exact ⟨((hc3.trans hc1).old (chg_set _) hA).old (chg_set _) hA, .inr ⟨rfl, rfl⟩⟩
  · have H := Lib.hid H
    have Hd0 := Lib.hid (show decide (pos < 0) = false by simp; omega)
    clear h hwe
    have Hlen := Lib.hid (fun W hW => hlen.out W hW)
    generalize hsl : st.len = n at Hlen h1
    clear hsl hlen
    go_enter Try.func21, Try.ntmps21
    go_wp2_with (first | (with_reducible refine stop_append ?_) | (with_reducible refine stop_copy ?_) | (with_reducible refine stop_make ?_) | (with_reducible refine stop_lookup ?_) | (with_reducible refine stop_update ?_) | (with_reducible refine stop_slice ?_) | (with_reducible refine stop_range ?_) | (with_reducible refine stop_next ?_) | (with_reducible refine stop_convert ⟨_, rfl⟩ ?_) | (with_reducible refine stop_convertB ⟨_, _, _, rfl⟩ ?_) | (with_reducible refine stop_eqSlice ⟨_, _, rfl⟩ ?_))
    generalize ((w.alloc (.cells #[.pointer (some ⟨p, 0, none⟩)] 25)).alloc (.cells #[.int .i64 pos] 3)).alloc (.cells #[.int .i64 0, .int .i64 0] 36) = w0 at *
    generalize hq4 : w.heap.size + 1 + 1 = q4 at *
    generalize hq3 : w.heap.size + 1 = q3 at *
    generalize hq2 : w.heap.size = q2 at *
    have hA : ∀ i, At q4 i → w.heap.size ≤ i := fun i h => by simp only [At] at h; omega
    have c2 : w0.cell? ⟨q2, 0, none⟩ = some (.pointer (some ⟨p, 0, none⟩)) := cell_obj (i := 0) o2 rfl
    have c3 : w0.cell? ⟨q3, 0, none⟩ = some (.int .i64 pos) := cell_obj (i := 0) o3 rfl
    clear o2 o3
    refine pl_start (fun W => W.cell? ⟨q2, 0, none⟩ = some (.pointer (some ⟨p, 0, none⟩)) ∧ W.cell? ⟨q3, 0, none⟩ = some (.int .i64 pos) ∧ Chg No w0 W) (by kernel_rfl) (by kernel_rfl) ⟨c2, c3, (Chg.refl No w0).drew⟩ ?_
    ((refine pl_yes (i := 0) (oi := { dst := some 8, op := Go.Op.load 3 (Go.Operand.tmp 3), type := 3, pos := "order.go:106", after := #[], guard := none }) (v := ?_) rfl (by kernel_rfl) (by kernel_rfl) rfl ?_ ?_); rotate_left; focus (intro W hW; (try dsimp only at hW); go_split_ands; go_simp; (try (simp (disch := omega) only [IntWalk.i64_in]; (try go_simp))); (try (split; (next => omega); (try go_simp))); try rfl; done))
    try simp only [Act.put, List.setIfInBounds_toArray, List.set_cons_zero, List.set_cons_succ]
    ((refine pl_yes (i := 1) (oi := { dst := some 9, op := Go.Op.binOp Go.BinOp.lss 3 (Go.Operand.tmp 8) (Go.Operand.const (Go.Value.int Go.IntKind.i64 0)) 3, type := 4, pos := "order.go:106", after := #[{ on := 0, ground := Go.Ground.data }], guard := none }) (v := ?_) rfl (by kernel_rfl) (by kernel_rfl) rfl ?_ ?_); rotate_left; focus (intro W hW; (try dsimp only at hW); go_split_ands; go_simp; (try (simp (disch := omega) only [IntWalk.i64_in]; (try go_simp))); (try (split; (next => omega); (try go_simp))); try rfl; done))
    try simp only [Act.put, List.setIfInBounds_toArray, List.set_cons_zero, List.set_cons_succ]
    ((refine pl_yes (i := 2) (oi := { dst := some 10, op := Go.Op.move (Go.Operand.tmp 9), type := 4, pos := "order.go:106", after := #[{ on := 1, ground := Go.Ground.data }], guard := none }) (v := ?_) rfl (by kernel_rfl) (by kernel_rfl) rfl ?_ ?_); rotate_left; focus (intro W hW; (try dsimp only at hW); go_split_ands; go_simp; (try (simp (disch := omega) only [IntWalk.i64_in]; (try go_simp))); (try (split; (next => omega); (try go_simp))); try rfl; done))
    try simp only [Act.put, List.setIfInBounds_toArray, List.set_cons_zero, List.set_cons_succ]
    -- ready: [3, 4]
    rw [Hd0.out]
    first | (refine pl_no (i := 3) (oi := { dst := some 11, op := Go.Op.load 3 (Go.Operand.tmp 3), type := 3, pos := "order.go:106", after := #[{ on := 2, ground := Go.Ground.guard }], guard := some (2, false) }) rfl (by kernel_rfl) (by kernel_rfl) rfl ?_) | ((refine pl_yes (i := 3) (oi := { dst := some 11, op := Go.Op.load 3 (Go.Operand.tmp 3), type := 3, pos := "order.go:106", after := #[{ on := 2, ground := Go.Ground.guard }], guard := some (2, false) }) (v := ?_) rfl (by kernel_rfl) (by kernel_rfl) rfl ?_ ?_); rotate_left; focus (intro W hW; (try dsimp only at hW); go_split_ands; go_simp; (try (simp (disch := omega) only [IntWalk.i64_in]; (try go_simp))); (try (split; (next => omega); (try go_simp))); try rfl; done))
    try simp only [Act.put, List.setIfInBounds_toArray, List.set_cons_zero, List.set_cons_succ]
    first | (refine pl_no (i := 4) (oi := { dst := some 12, op := Go.Op.load 25 (Go.Operand.tmp 2), type := 25, pos := "order.go:106", after := #[{ on := 2, ground := Go.Ground.guard }], guard := some (2, false) }) rfl (by kernel_rfl) (by kernel_rfl) rfl ?_) | ((refine pl_yes (i := 4) (oi := { dst := some 12, op := Go.Op.load 25 (Go.Operand.tmp 2), type := 25, pos := "order.go:106", after := #[{ on := 2, ground := Go.Ground.guard }], guard := some (2, false) }) (v := ?_) rfl (by kernel_rfl) (by kernel_rfl) rfl ?_ ?_); rotate_left; focus (intro W hW; (try dsimp only at hW); go_split_ands; go_simp; (try (simp (disch := omega) only [IntWalk.i64_in]; (try go_simp))); (try (split; (next => omega); (try go_simp))); try rfl; done))
    try simp only [Act.put, List.setIfInBounds_toArray, List.set_cons_zero, List.set_cons_succ]
    -- ready: [5]
    refine pl_call (i := 5) (oi := { dst := some 13, op := Go.Op.call { callee := Go.Callee.value (Go.Operand.func 20), args := #[Go.Operand.tmp 12], argTypes := #[25] }, type := 3, pos := "order.go:106", after := #[{ on := 4, ground := Go.Ground.data }, { on := 2, ground := Go.Ground.chain }, { on := 2, ground := Go.Ground.guard }], guard := some (2, false) }) (.int .i64 n) rfl (by kernel_rfl) (by kernel_rfl) rfl (by exact (fun W hW => (Hlen.out W (hc3.trans hW.2.2)).mono fun e w' h => ⟨h.1, h.2.cell hW.1 (not_no _), h.2.cell hW.2.1 (not_no _), hW.2.2.trans h.2⟩)) (fun W => by kernel_rfl) ?_
    try simp only [Act.put, List.setIfInBounds_toArray, List.set_cons_zero, List.set_cons_succ]
    first | (refine pl_no (i := 6) (oi := { dst := some 14, op := Go.Op.binOp Go.BinOp.geq 3 (Go.Operand.tmp 11) (Go.Operand.tmp 13) 3, type := 4, pos := "order.go:106", after := #[{ on := 3, ground := Go.Ground.data }, { on := 5, ground := Go.Ground.data }, { on := 2, ground := Go.Ground.guard }], guard := some (2, false) }) rfl (by kernel_rfl) (by kernel_rfl) rfl ?_) | ((refine pl_yes (i := 6) (oi := { dst := some 14, op := Go.Op.binOp Go.BinOp.geq 3 (Go.Operand.tmp 11) (Go.Operand.tmp 13) 3, type := 4, pos := "order.go:106", after := #[{ on := 3, ground := Go.Ground.data }, { on := 5, ground := Go.Ground.data }, { on := 2, ground := Go.Ground.guard }], guard := some (2, false) }) (v := ?_) rfl (by kernel_rfl) (by kernel_rfl) rfl ?_ ?_); rotate_left; focus (intro W hW; (try dsimp only at hW); go_split_ands; go_simp; (try (simp (disch := omega) only [IntWalk.i64_in]; (try go_simp))); (try (split; (next => omega); (try go_simp))); try rfl; done))
    try simp only [Act.put, List.setIfInBounds_toArray, List.set_cons_zero, List.set_cons_succ]
    ((refine pl_yes (i := 7) (oi := { dst := some 15, op := Go.Op.pick (Go.Operand.tmp 10) (Go.Operand.const (Go.Value.bool true)) (Go.Operand.tmp 14), type := 4, pos := "order.go:106", after := #[{ on := 2, ground := Go.Ground.data }, { on := 6, ground := Go.Ground.data }], guard := none }) (v := ?_) rfl (by kernel_rfl) (by kernel_rfl) rfl ?_ ?_); rotate_left; focus (intro W hW; (try dsimp only at hW); go_split_ands; go_simp; (try (simp (disch := omega) only [IntWalk.i64_in]; (try go_simp))); (try (split; (next => omega); (try go_simp))); try rfl; done))
    try simp only [Act.put, List.setIfInBounds_toArray, List.set_cons_zero, List.set_cons_succ]
    -- ready: []
    refine pl_done (by kernel_rfl)  ?_
    rintro w1 ⟨_, _, hc1⟩
    have o4 := hc1.obj o4 (not_no _)
    have f0 := free_obj (i := 0) o4
    have f1 := free_obj (i := 1) o4
    have b0 : w1.cell? ⟨q4, 0, none⟩ = some (.int .i64 0) := cell_obj (i := 0) o4 rfl
    have b1 : w1.cell? ⟨q4, 1, none⟩ = some (.int .i64 0) := cell_obj (i := 1) o4 rfl
    go_wp2_with (first | (with_reducible refine stop_append ?_) | (with_reducible refine stop_copy ?_) | (with_reducible refine stop_make ?_) | (with_reducible refine stop_lookup ?_) | (with_reducible refine stop_update ?_) | (with_reducible refine stop_slice ?_) | (with_reducible refine stop_range ?_) | (with_reducible refine stop_next ?_) | (with_reducible refine stop_convert ⟨_, rfl⟩ ?_) | (with_reducible refine stop_convertB ⟨_, _, _, rfl⟩ ?_) | (with_reducible refine stop_eqSlice ⟨_, _, rfl⟩ ?_))
    refine bodyPost_ret (v := .tuple #[.agg #[.int .i64 0, .int .i64 0], .bool false]) (by simp [results, Try.results21, go_sem, *]) rfl ?_
    rw [H.out]
    exact ⟨((hc3.trans hc1).old (chg_set _) hA).old (chg_set _) hA, .inr ⟨rfl, rfl⟩⟩
  · have Hd0 := Lib.hid (show decide (pos < 0) = false by simp; omega)
    have Hlen := Lib.hid (fun W hW => hlen.out W hW)
    have hcon := hI.contig
    have hmany := hI.runsLen
    have htot := hI.tot
    have hat := Lib.hid (show atF st pos = (rowF st)[pos.toNat]? by simp only [atF]; rw [if_pos ⟨h0, h1⟩])
    have hrow : rowF st = st.runs.flatMap expand := rfl
    rw [hrow] at hat
    have hloc := hI.loc
    rw [hI.olen] at h1 Hlen
    have h1' := h1
    obtain ⟨lv, rv, av, h⟩ := h
    have hs := h.rr.sl
    obtain ⟨A, c, rfl⟩ := hs.slice
    have cp : w.cell? ⟨p, 1, none⟩ = some (.slice A st.runs.length c) := cell_obj (i := 1) h.obj rfl
    have cp := hc3.cell cp (not_no _)
    have Hs := Lib.hid (hs.keepNo hc3)
    have Hcon := Lib.hid hcon
    have Hloc := Lib.hid hloc
    clear h hwe hlen hs hI hrow hcon hloc
    generalize st.last.sum = n at Hlen h1 Hcon htot
    generalize st.runs = rs at *
    go_enter Try.func21, Try.ntmps21
    go_wp2_with (first | (with_reducible refine stop_append ?_) | (with_reducible refine stop_copy ?_) | (with_reducible refine stop_make ?_) | (with_reducible refine stop_lookup ?_) | (with_reducible refine stop_update ?_) | (with_reducible refine stop_slice ?_) | (with_reducible refine stop_range ?_) | (with_reducible refine stop_next ?_) | (with_reducible refine stop_convert ⟨_, rfl⟩ ?_) | (with_reducible refine stop_convertB ⟨_, _, _, rfl⟩ ?_) | (with_reducible refine stop_eqSlice ⟨_, _, rfl⟩ ?_))
    generalize ((w.alloc (.cells #[.pointer (some ⟨p, 0, none⟩)] 25)).alloc (.cells #[.int .i64 pos] 3)).alloc (.cells #[.int .i64 0, .int .i64 0] 36) = w0 at *
    generalize hq4 : w.heap.size + 1 + 1 = q4 at *
    generalize hq3 : w.heap.size + 1 = q3 at *
    generalize hq2 : w.heap.size = q2 at *
    have hA : ∀ i, At q4 i → w.heap.size ≤ i := fun i h => by simp only [At] at h; omega
    have c2 : w0.cell? ⟨q2, 0, none⟩ = some (.pointer (some ⟨p, 0, none⟩)) := cell_obj (i := 0) o2 rfl
    have c3 : w0.cell? ⟨q3, 0, none⟩ = some (.int .i64 pos) := cell_obj (i := 0) o3 rfl
    clear o2 o3
    refine pl_start (fun W => W.cell? ⟨q2, 0, none⟩ = some (.pointer (some ⟨p, 0, none⟩)) ∧ W.cell? ⟨q3, 0, none⟩ = some (.int .i64 pos) ∧ Chg No w0 W) (by kernel_rfl) (by kernel_rfl) ⟨c2, c3, (Chg.refl No w0).drew⟩ ?_
    ((refine pl_yes (i := 0) (oi := { dst := some 8, op := Go.Op.load 3 (Go.Operand.tmp 3), type := 3, pos := "order.go:106", after := #[], guard := none }) (v := ?_) rfl (by kernel_rfl) (by kernel_rfl) rfl ?_ ?_); rotate_left; focus (intro W hW; (try dsimp only at hW); go_split_ands; go_simp; (try (simp (disch := omega) only [IntWalk.i64_in]; (try go_simp))); (try (split; (next => omega); (try go_simp))); try rfl; done))
    try simp only [Act.put, List.setIfInBounds_toArray, List.set_cons_zero, List.set_cons_succ]
    ((refine pl_yes (i := 1) (oi := { dst := some 9, op := Go.Op.binOp Go.BinOp.lss 3 (Go.Operand.tmp 8) (Go.Operand.const (Go.Value.int Go.IntKind.i64 0)) 3, type := 4, pos := "order.go:106", after := #[{ on := 0, ground := Go.Ground.data }], guard := none }) (v := ?_) rfl (by kernel_rfl) (by kernel_rfl) rfl ?_ ?_); rotate_left; focus (intro W hW; (try dsimp only at hW); go_split_ands; go_simp; (try (simp (disch := omega) only [IntWalk.i64_in]; (try go_simp))); (try (split; (next => omega); (try go_simp))); try rfl; done))
    try simp only [Act.put, List.setIfInBounds_toArray, List.set_cons_zero, List.set_cons_succ]
    ((refine pl_yes (i := 2) (oi := { dst := some 10, op := Go.Op.move (Go.Operand.tmp 9), type := 4, pos := "order.go:106", after := #[{ on := 1, ground := Go.Ground.data }], guard := none }) (v := ?_) rfl (by kernel_rfl) (by kernel_rfl) rfl ?_ ?_); rotate_left; focus (intro W hW; (try dsimp only at hW); go_split_ands; go_simp; (try (simp (disch := omega) only [IntWalk.i64_in]; (try go_simp))); (try (split; (next => omega); (try go_simp))); try rfl; done))
    try simp only [Act.put, List.setIfInBounds_toArray, List.set_cons_zero, List.set_cons_succ]
    -- ready: [3, 4]
    rw [Hd0.out]
    first | (refine pl_no (i := 3) (oi := { dst := some 11, op := Go.Op.load 3 (Go.Operand.tmp 3), type := 3, pos := "order.go:106", after := #[{ on := 2, ground := Go.Ground.guard }], guard := some (2, false) }) rfl (by kernel_rfl) (by kernel_rfl) rfl ?_) | ((refine pl_yes (i := 3) (oi := { dst := some 11, op := Go.Op.load 3 (Go.Operand.tmp 3), type := 3, pos := "order.go:106", after := #[{ on := 2, ground := Go.Ground.guard }], guard := some (2, false) }) (v := ?_) rfl (by kernel_rfl) (by kernel_rfl) rfl ?_ ?_); rotate_left; focus (intro W hW; (try dsimp only at hW); go_split_ands; go_simp; (try (simp (disch := omega) only [IntWalk.i64_in]; (try go_simp))); (try (split; (next => omega); (try go_simp))); try rfl; done))
    try simp only [Act.put, List.setIfInBounds_toArray, List.set_cons_zero, List.set_cons_succ]
    first | (refine pl_no (i := 4) (oi := { dst := some 12, op := Go.Op.load 25 (Go.Operand.tmp 2), type := 25, pos := "order.go:106", after := #[{ on := 2, ground := Go.Ground.guard }], guard := some (2, false) }) rfl (by kernel_rfl) (by kernel_rfl) rfl ?_) | ((refine pl_yes (i := 4) (oi := { dst := some 12, op := Go.Op.load 25 (Go.Operand.tmp 2), type := 25, pos := "order.go:106", after := #[{ on := 2, ground := Go.Ground.guard }], guard := some (2, false) }) (v := ?_) rfl (by kernel_rfl) (by kernel_rfl) rfl ?_ ?_); rotate_left; focus (intro W hW; (try dsimp only at hW); go_split_ands; go_simp; (try (simp (disch := omega) only [IntWalk.i64_in]; (try go_simp))); (try (split; (next => omega); (try go_simp))); try rfl; done))
    try simp only [Act.put, List.setIfInBounds_toArray, List.set_cons_zero, List.set_cons_succ]
    -- ready: [5]
    refine pl_call (i := 5) (oi := { dst := some 13, op := Go.Op.call { callee := Go.Callee.value (Go.Operand.func 20), args := #[Go.Operand.tmp 12], argTypes := #[25] }, type := 3, pos := "order.go:106", after := #[{ on := 4, ground := Go.Ground.data }, { on := 2, ground := Go.Ground.chain }, { on := 2, ground := Go.Ground.guard }], guard := some (2, false) }) (.int .i64 n) rfl (by kernel_rfl) (by kernel_rfl) rfl (by exact (fun W hW => (Hlen.out W (hc3.trans hW.2.2)).mono fun e w' h => ⟨h.1, h.2.cell hW.1 (not_no _), h.2.cell hW.2.1 (not_no _), hW.2.2.trans h.2⟩)) (fun W => by kernel_rfl) ?_
    try simp only [Act.put, List.setIfInBounds_toArray, List.set_cons_zero, List.set_cons_succ]
    first | (refine pl_no (i := 6) (oi := { dst := some 14, op := Go.Op.binOp Go.BinOp.geq 3 (Go.Operand.tmp 11) (Go.Operand.tmp 13) 3, type := 4, pos := "order.go:106", after := #[{ on := 3, ground := Go.Ground.data }, { on := 5, ground := Go.Ground.data }, { on := 2, ground := Go.Ground.guard }], guard := some (2, false) }) rfl (by kernel_rfl) (by kernel_rfl) rfl ?_) | ((refine pl_yes (i := 6) (oi := { dst := some 14, op := Go.Op.binOp Go.BinOp.geq 3 (Go.Operand.tmp 11) (Go.Operand.tmp 13) 3, type := 4, pos := "order.go:106", after := #[{ on := 3, ground := Go.Ground.data }, { on := 5, ground := Go.Ground.data }, { on := 2, ground := Go.Ground.guard }], guard := some (2, false) }) (v := ?_) rfl (by kernel_rfl) (by kernel_rfl) rfl ?_ ?_); rotate_left; focus (intro W hW; (try dsimp only at hW); go_split_ands; go_simp; (try (simp (disch := omega) only [IntWalk.i64_in]; (try go_simp))); (try (split; (next => omega); (try go_simp))); try rfl; done))
    try simp only [Act.put, List.setIfInBounds_toArray, List.set_cons_zero, List.set_cons_succ]
    ((refine pl_yes (i := 7) (oi := { dst := some 15, op := Go.Op.pick (Go.Operand.tmp 10) (Go.Operand.const (Go.Value.bool true)) (Go.Operand.tmp 14), type := 4, pos := "order.go:106", after := #[{ on := 2, ground := Go.Ground.data }, { on := 6, ground := Go.Ground.data }], guard := none }) (v := ?_) rfl (by kernel_rfl) (by kernel_rfl) rfl ?_ ?_); rotate_left; focus (intro W hW; (try dsimp only at hW); go_split_ands; go_simp; (try (simp (disch := omega) only [IntWalk.i64_in]; (try go_simp))); (try (split; (next => omega); (try go_simp))); try rfl; done))
    try simp only [Act.put, List.setIfInBounds_toArray, List.set_cons_zero, List.set_cons_succ]
    -- ready: []
    refine pl_done (by kernel_rfl)  ?_
    rintro w1 ⟨c2, c3, hc1⟩
    have cp1 := hc1.cell cp (not_no _)
    have o4 := hc1.obj o4 (not_no _)
    have Hs1 := Lib.hid (Hs.out.keepNo hc1)
    clear Hs cp Hlen
    go_wp2_with (first | (with_reducible refine stop_append ?_) | (with_reducible refine stop_copy ?_) | (with_reducible refine stop_make ?_) | (with_reducible refine stop_lookup ?_) | (with_reducible refine stop_update ?_) | (with_reducible refine stop_slice ?_) | (with_reducible refine stop_range ?_) | (with_reducible refine stop_next ?_) | (with_reducible refine stop_convert ⟨_, rfl⟩ ?_) | (with_reducible refine stop_convertB ⟨_, _, _, rfl⟩ ?_) | (with_reducible refine stop_eqSlice ⟨_, _, rfl⟩ ?_))
    refine (search_any rs.length hmany (fun i => decide (pos < (rs.getD i (0, (0, 0), 0)).1)) 60 _ _ (fun args W => by kernel_rfl) w1 (fun i hi W hW => at1_any p q2 q3 A c rs _ pos W hmany (Hs1.out.keepNo hW) (hW.cell c2 (not_no _)) (hW.cell c3 (not_no _)) (hW.cell cp1 (not_no _)) i hi)).mono ?_
    rintro e w2 ⟨r, rfl, hr, hlo, hhi, hc2⟩
    obtain ⟨hr1, hrl, hb1, hb2, hb3⟩ := at_of Hcon.out h0 h1 hr (fun i hi hir => by
      have := hlo i hir
      simpa [List.getD_eq_getElem?_getD, hi] using this) (fun hlt => by
      have := hhi hlt
      simpa [List.getD_eq_getElem?_getD, hlt] using this)
    obtain ⟨m, rfl⟩ : ∃ m, r = m + 1 := ⟨r - 1, by omega⟩
    simp only [Nat.add_sub_cancel] at hrl hb1 hb2 hb3
    have hlc := Hloc.out _ (List.getElem_mem hrl)
    obtain ⟨b, o, d, rfl, _, hbl, ⟨d1, d2, rfl, rfl, ⟨d3, d4, rfl, ⟨d5, d6, rfl, rfl, rfl⟩, rfl⟩⟩, ha⟩ := (Hs1.out.keepNo hc2).get m hrl
    rw [hb3] at hat
    generalize rs[m] = x at ha hb1 hb2 hat hlc
    obtain ⟨px, ⟨sx, lx⟩, mx⟩ := x
    simp only at hb1 hb2 ha hat hlc
    have a0 := ha 0 _ rfl
    have a1 := ha 1 _ rfl
    have a2 := ha 2 _ rfl
    have a3 := ha 3 _ rfl
    simp only [show Rep.n (Int × (Int × Int) × Int) = 4 from rfl, Nat.add_zero] at a0 a1 a2 a3
    clear ha hb3 hlo hhi
    have c2 := hc2.cell c2 (not_no _)
    have c3 := hc2.cell c3 (not_no _)
    have cp2 := hc2.cell cp1 (not_no _)
    have o4 := hc2.obj o4 (not_no _)
    have hca := (Chg.refl No w2).alloc (.cells #[.int .i64 px, .int .i64 sx, .int .i64 lx, .int .i64 mx] 124)
    have k3 := hca.cell c3 (not_no _)
    have o4a := hca.obj o4 (not_no _)
    have f0 := free_obj (i := 0) o4a
    have f1 := free_obj (i := 1) o4a
    have b0 := cell_obj (i := 0) o4a (u := .int .i64 0) rfl
    have b1 := cell_obj (i := 1) o4a (u := .int .i64 0) rfl
    have hl4 : q4 ≠ w2.heap.size := fun e => by have := lt_of_heap o4; omega
    have hl3 : q3 ≠ w2.heap.size := fun e => by have := lt_of_heap o4; omega
    have hw1 : IntKind.i64.wrap (lx + pos) = lx + pos := IntWalk.i64_in _ (by omega)
    have hw2 : IntKind.i64.wrap (lx + pos - px) = lx + pos - px := IntWalk.i64_in _ (by omega)
    have hmr : (m : Int) < rs.length := by omega
    have hcw := ((hc3.trans hc1).trans hc2).trans hca
    clear o4 o4a
    go_wp2_with (first | (with_reducible refine stop_append ?_) | (with_reducible refine stop_copy ?_) | (with_reducible refine stop_make ?_) | (with_reducible refine stop_lookup ?_) | (with_reducible refine stop_update ?_) | (with_reducible refine stop_slice ?_) | (with_reducible refine stop_range ?_) | (with_reducible refine stop_next ?_) | (with_reducible refine stop_convert ⟨_, rfl⟩ ?_) | (with_reducible refine stop_convertB ⟨_, _, _, rfl⟩ ?_) | (with_reducible refine stop_eqSlice ⟨_, _, rfl⟩ ?_))
    refine bodyPost_ret (v := .tuple #[.agg #[.int .i64 sx, .int .i64 (lx + pos - px)], .bool true]) (by simp [results, Try.results21, go_sem, *]) rfl ?_
    rw [hat.out]
    exact ⟨(hcw.old (chg_set _) hA).old (chg_set _) hA, .inl ⟨_, rfl, rfl⟩⟩
end Go.Proofs.Ytbjpoamnglfjeaa
