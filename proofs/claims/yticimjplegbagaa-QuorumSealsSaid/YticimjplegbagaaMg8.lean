/- Texts QuoH, QuoI. -/
import Derived.Test.YticimjplegbagaaMg7
/- Walks of package quorum: Heard of a primary. -/
set_option linter.unusedVariables false
set_option linter.unusedSimpArgs false
namespace Go.Proofs.Yticimjplegbagaa
open Go.RowKit Cb

def hasF (m : List (Int × Int)) (x : Int) : Int := (mget m x).getD 0
def hearP (st : PSt) (x n : Int) (is : Bool) : PSt := ⟨st.t, st.n, st.need, st.nodes, st.l, st.last, mset st.m x (max (hasF st.m x) n), st.sealed || is⟩
/-- May a message be heard? -/
def hearB (st : PSt) (m : Msg) : Bool := decide (m.1.1 = 4 ∨ m.1.1 = 6) && (right46 m && (decide (m.1.2.2.2 = st.t) && (decide (m.1.2.1 ∈ st.nodes) && decide (m.2.1.2 ≤ (st.l.length : Int)))))
def heardF (st : PSt) (m : Msg) : PSt × Bool := if hearB st m = true then (hearP st m.1.2.1 m.2.1.2 m.2.2.1, true) else (st, false)
theorem zIntQ : (Try.prog.info? 3).bind (·.zero) = some (.int .i64 0) := by kernel_rfl
theorem run_hasF {w : World} {r : Nat} {m : List (Int × Int)} (h : MapAt w r (Value.int .i64) (Value.int .i64) m) (x : Int) : (Instr.lookup 99 (.map (some r)) (.int .i64 x) false).run Try.prog w = .ok (.int .i64 (hasF m x)) w := by
  have := run_lookup klN Try.underlying99 zIntQ h x false
  rw [this]
  simp only [hasF, Bool.false_eq_true, if_false]
  cases mget m x <;> rfl

set_option maxRecDepth 100000 in
set_option maxHeartbeats 8000000 in
theorem heard_kind (S : Nat → Prop) (p : Nat) (st : PSt) (xk xf xo xt xs xn r1 r2 e0 e1 e3 e4 e5 bal old tt : Int) (xb : Bool) (tags cut q : List Int) (s : List (List Int)) (data : ByteArray) (Ag Ac Aq As : Option Addr) (cg cc cq cs : Nat) (w : World) (h : Pri w S p st) (hb : st.nodes.length * 8 ≤ 140737488355328)
    (hk4 : (xk == 4) = false) (hk6 : (xk == 6) = false) :
    Calls Try.prog 28 #[.pointer (some ⟨p, 0, none⟩), .agg #[.int .i64 xk, .int .i64 xf, .int .i64 xo, .int .i64 xt, .int .i64 xs, .int .i64 xn, .bool xb, .int .i64 r1, .int .i64 r2, .slice Ag tags.length cg, .string data, .int .i64 e0, .int .i64 e1, .slice Ac cut.length cc, .int .i64 e3, .int .i64 e4, .int .i64 e5, .int .i64 bal, .int .i64 old, .int .i64 tt, .slice Aq q.length cq, .slice As s.length cs]] w fun e w' => e = .returned (.bool false) ∧ Chg No w w' := by
  obtain ⟨r, vn, vl, vz, h⟩ := h
  have H := Lib.hid h
  have Hin := Lib.hid (fun W (hW : Chg No w W) => lcontains_any _ vn st.nodes xf W (h.nodes.keepNo hW) hb)
  obtain ⟨An, cn, rfl⟩ := h.nodes.slice
  obtain ⟨Al, cl, rfl⟩ := h.l.slice
  have p0 := cell_obj (i := 0) h.obj rfl
  have p3 := cell_obj (i := 3) h.obj rfl
  have p4 := cell_obj (i := 4) h.obj rfl
  clear h
  go_enter Try.func28, Try.ntmps28
  go_wp2_with (with_reducible first | refine stop_append ?_ | refine stop_copy ?_ | refine stop_make ?_ | refine stop_lookup ?_ | refine stop_update ?_ | refine stop_slice ?_ | refine stop_range ?_ | refine stop_next ?_ | refine stop_convert ⟨_, rfl⟩ ?_ | refine stop_convertB ⟨_, _, _, rfl⟩ ?_ | refine stop_eqSlice ⟨_, _, rfl⟩ ?_ | refine stop_store ?_ | refine stop_alloc ?_ | refine stop_box ?_)
  refine step_box #[.int .i64 xk, .int .i64 xf, .int .i64 xo, .int .i64 xt, .int .i64 xs, .int .i64 xn, .bool xb, .int .i64 r1, .int .i64 r2, .slice Ag tags.length cg, .string data, .int .i64 e0, .int .i64 e1, .slice Ac cut.length cc, .int .i64 e3, .int .i64 e4, .int .i64 e5, .int .i64 bal, .int .i64 old, .int .i64 tt, .slice Aq q.length cq, .slice As s.length cs] rfl ?_
  intro w1 o1 c1 s1
  have a0 := cell_obj (i := 0) o1 rfl
  have a1 := cell_obj (i := 1) o1 rfl
  have a3 := cell_obj (i := 3) o1 rfl
  have a5 := cell_obj (i := 5) o1 rfl
  replace p0 := c1.cell p0 (not_no _)
  replace p3 := c1.cell p3 (not_no _)
  replace p4 := c1.cell p4 (not_no _)
  have HO := Lib.hid (fun W (hW : Chg No w1 W) => hW.obj o1 (not_no _))
  have HC := Lib.hid (fun W (hW : Chg No w1 W) => c1.trans hW)
  clear o1 s1
  go_wp2_with (with_reducible first | refine stop_append ?_ | refine stop_copy ?_ | refine stop_make ?_ | refine stop_lookup ?_ | refine stop_update ?_ | refine stop_slice ?_ | refine stop_range ?_ | refine stop_next ?_ | refine stop_convert ⟨_, rfl⟩ ?_ | refine stop_convertB ⟨_, _, _, rfl⟩ ?_ | refine stop_eqSlice ⟨_, _, rfl⟩ ?_ | refine stop_store ?_ | refine stop_alloc ?_ | refine stop_box ?_)
  have cd := (Chg.refl No w1).drew
  have HK := Lib.hid (show ∀ W W', (fun W => W.cell? ⟨w.heap.size, 1, none⟩ = some (.int .i64 xf) ∧ W.cell? ⟨w.heap.size, 3, none⟩ = some (.int .i64 xt) ∧ W.cell? ⟨w.heap.size, 5, none⟩ = some (.int .i64 xn) ∧ W.cell? ⟨p, 0, none⟩ = some (.int .i64 st.t) ∧ W.cell? ⟨p, 3, none⟩ = some (.slice An st.nodes.length cn) ∧ W.cell? ⟨p, 4, none⟩ = some (.slice Al st.l.length cl) ∧ Chg No w1 W) W → Chg No W W' → (fun W => W.cell? ⟨w.heap.size, 1, none⟩ = some (.int .i64 xf) ∧ W.cell? ⟨w.heap.size, 3, none⟩ = some (.int .i64 xt) ∧ W.cell? ⟨w.heap.size, 5, none⟩ = some (.int .i64 xn) ∧ W.cell? ⟨p, 0, none⟩ = some (.int .i64 st.t) ∧ W.cell? ⟨p, 3, none⟩ = some (.slice An st.nodes.length cn) ∧ W.cell? ⟨p, 4, none⟩ = some (.slice Al st.l.length cl) ∧ Chg No w1 W) W' from fun W W' h hc => ⟨hc.cell h.1 (not_no _), hc.cell h.2.1 (not_no _), hc.cell h.2.2.1 (not_no _), hc.cell h.2.2.2.1 (not_no _), hc.cell h.2.2.2.2.1 (not_no _), hc.cell h.2.2.2.2.2.1 (not_no _), h.2.2.2.2.2.2.trans hc⟩)
  have HL := Lib.hid (fun W (h : (fun W => W.cell? ⟨w.heap.size, 1, none⟩ = some (.int .i64 xf) ∧ W.cell? ⟨w.heap.size, 3, none⟩ = some (.int .i64 xt) ∧ W.cell? ⟨w.heap.size, 5, none⟩ = some (.int .i64 xn) ∧ W.cell? ⟨p, 0, none⟩ = some (.int .i64 st.t) ∧ W.cell? ⟨p, 3, none⟩ = some (.slice An st.nodes.length cn) ∧ W.cell? ⟨p, 4, none⟩ = some (.slice Al st.l.length cl) ∧ Chg No w1 W) W) => cells_of_obj (HO.out W h.2.2.2.2.2.2))
  refine pl_start (fun W => W.cell? ⟨w.heap.size, 1, none⟩ = some (.int .i64 xf) ∧ W.cell? ⟨w.heap.size, 3, none⟩ = some (.int .i64 xt) ∧ W.cell? ⟨w.heap.size, 5, none⟩ = some (.int .i64 xn) ∧ W.cell? ⟨p, 0, none⟩ = some (.int .i64 st.t) ∧ W.cell? ⟨p, 3, none⟩ = some (.slice An st.nodes.length cn) ∧ W.cell? ⟨p, 4, none⟩ = some (.slice Al st.l.length cl) ∧ Chg No w1 W) (by kernel_rfl) (by kernel_rfl) ⟨cd.cell a1 (not_no _), cd.cell a3 (not_no _), cd.cell a5 (not_no _), cd.cell p0 (not_no _), cd.cell p3 (not_no _), cd.cell p4 (not_no _), cd⟩ ?_
  clear a0 a1 a3 a5 p0 p3 p4 cd
  iterate 3 ((refine pl_nx [3] (v := ?_) rfl (by kernel_rfl) rfl ?_ ?_; rotate_left; focus (intro W hW; (try dsimp only at hW); go_split_ands; go_simp; (try (simp (disch := omega) only [IntWalk.i64_in]; (try go_simp))); (try (split; (next => omega); (try go_simp))); try rfl; done)); try simp only [Act.put, List.setIfInBounds_toArray, List.set_cons_zero, List.set_cons_succ, Nat.reduceAdd])
  refine pl_nox 3 (by kernel_rfl) rfl rfl ?_
  try simp only [Act.put, List.setIfInBounds_toArray, List.set_cons_zero, List.set_cons_succ, Nat.reduceAdd]
  refine pl_nox 4 (by kernel_rfl) rfl rfl ?_
  try simp only [Act.put, List.setIfInBounds_toArray, List.set_cons_zero, List.set_cons_succ, Nat.reduceAdd]
  ((first | (refine pl_nn [3] rfl (by kernel_rfl) rfl ?_) | (refine pl_nx [3] (v := ?_) rfl (by kernel_rfl) rfl ?_ ?_; rotate_left; focus (intro W hW; (try dsimp only at hW); go_split_ands; go_simp; (try (simp (disch := omega) only [IntWalk.i64_in]; (try go_simp))); (try (split; (next => omega); (try go_simp))); try rfl; done))); try simp only [Act.put, List.setIfInBounds_toArray, List.set_cons_zero, List.set_cons_succ, Nat.reduceAdd])
  iterate 2 ((refine pl_nx [3] (v := ?_) rfl (by kernel_rfl) rfl ?_ ?_; rotate_left; focus (intro W hW; (try dsimp only at hW); go_split_ands; go_simp; (try (simp (disch := omega) only [IntWalk.i64_in]; (try go_simp))); (try (split; (next => omega); (try go_simp))); try rfl; done)); try simp only [Act.put, List.setIfInBounds_toArray, List.set_cons_zero, List.set_cons_succ, Nat.reduceAdd])
  iterate 7 ((first | (refine pl_nn [3] rfl (by kernel_rfl) rfl ?_) | (refine pl_nx [3] (v := ?_) rfl (by kernel_rfl) rfl ?_ ?_; rotate_left; focus (intro W hW; (try dsimp only at hW); go_split_ands; go_simp; (try (simp (disch := omega) only [IntWalk.i64_in]; (try go_simp))); (try (split; (next => omega); (try go_simp))); try rfl; done))); try simp only [Act.put, List.setIfInBounds_toArray, List.set_cons_zero, List.set_cons_succ, Nat.reduceAdd])
  iterate 2 ((refine pl_nx [3] (v := ?_) rfl (by kernel_rfl) rfl ?_ ?_; rotate_left; focus (intro W hW; (try dsimp only at hW); go_split_ands; go_simp; (try (simp (disch := omega) only [IntWalk.i64_in]; (try go_simp))); (try (split; (next => omega); (try go_simp))); try rfl; done)); try simp only [Act.put, List.setIfInBounds_toArray, List.set_cons_zero, List.set_cons_succ, Nat.reduceAdd])
  iterate 6 ((first | (refine pl_nn [3] rfl (by kernel_rfl) rfl ?_) | (refine pl_nx [3] (v := ?_) rfl (by kernel_rfl) rfl ?_ ?_; rotate_left; focus (intro W hW; (try dsimp only at hW); go_split_ands; go_simp; (try (simp (disch := omega) only [IntWalk.i64_in]; (try go_simp))); (try (split; (next => omega); (try go_simp))); try rfl; done))); try simp only [Act.put, List.setIfInBounds_toArray, List.set_cons_zero, List.set_cons_succ, Nat.reduceAdd])
  refine pl_nox 23 (by kernel_rfl) rfl rfl ?_
  try simp only [Act.put, List.setIfInBounds_toArray, List.set_cons_zero, List.set_cons_succ, Nat.reduceAdd]
  ((first | (refine pl_nn [3] rfl (by kernel_rfl) rfl ?_) | (refine pl_nx [3] (v := ?_) rfl (by kernel_rfl) rfl ?_ ?_; rotate_left; focus (intro W hW; (try dsimp only at hW); go_split_ands; go_simp; (try (simp (disch := omega) only [IntWalk.i64_in]; (try go_simp))); (try (split; (next => omega); (try go_simp))); try rfl; done))); try simp only [Act.put, List.setIfInBounds_toArray, List.set_cons_zero, List.set_cons_succ, Nat.reduceAdd])
  iterate 2 ((refine pl_nx [3] (v := ?_) rfl (by kernel_rfl) rfl ?_ ?_; rotate_left; focus (intro W hW; (try dsimp only at hW); go_split_ands; go_simp; (try (simp (disch := omega) only [IntWalk.i64_in]; (try go_simp))); (try (split; (next => omega); (try go_simp))); try rfl; done)); try simp only [Act.put, List.setIfInBounds_toArray, List.set_cons_zero, List.set_cons_succ, Nat.reduceAdd])
  iterate 8 ((first | (refine pl_nn [3] rfl (by kernel_rfl) rfl ?_) | (refine pl_nx [3] (v := ?_) rfl (by kernel_rfl) rfl ?_ ?_; rotate_left; focus (intro W hW; (try dsimp only at hW); go_split_ands; go_simp; (try (simp (disch := omega) only [IntWalk.i64_in]; (try go_simp))); (try (split; (next => omega); (try go_simp))); try rfl; done))); try simp only [Act.put, List.setIfInBounds_toArray, List.set_cons_zero, List.set_cons_succ, Nat.reduceAdd])
  ((refine pl_nx [3] (v := ?_) rfl (by kernel_rfl) rfl ?_ ?_; rotate_left; focus (intro W hW; (try dsimp only at hW); go_split_ands; go_simp; (try (simp (disch := omega) only [IntWalk.i64_in]; (try go_simp))); (try (split; (next => omega); (try go_simp))); try rfl; done)); try simp only [Act.put, List.setIfInBounds_toArray, List.set_cons_zero, List.set_cons_succ, Nat.reduceAdd])
  refine pl_done (by kernel_rfl)  ?_
  rintro w2 ⟨-, -, -, -, -, -, h2⟩
  have o1 := HO.out _ h2
  have h2 := HC.out _ h2
  clear HO HL HK
  go_wp2_with (with_reducible first | refine stop_append ?_ | refine stop_copy ?_ | refine stop_make ?_ | refine stop_lookup ?_ | refine stop_update ?_ | refine stop_slice ?_ | refine stop_range ?_ | refine stop_next ?_ | refine stop_convert ⟨_, rfl⟩ ?_ | refine stop_convertB ⟨_, _, _, rfl⟩ ?_ | refine stop_eqSlice ⟨_, _, rfl⟩ ?_)
  go_ret
  exact ⟨rfl, h2⟩
set_option maxRecDepth 100000 in
set_option maxHeartbeats 8000000 in
theorem heard_right4 (S : Nat → Prop) (p : Nat) (st : PSt) (xk xf xo xt xs xn r1 r2 e0 e1 e3 e4 e5 bal old tt : Int) (xb : Bool) (tags cut q : List Int) (s : List (List Int)) (data : ByteArray) (Ag Ac Aq As : Option Addr) (cg cc cq cs : Nat) (w : World) (h : Pri w S p st) (hb : st.nodes.length * 8 ≤ 140737488355328)
    (hk : xk = 4)
    (Hr : Hid (∀ W, Chg No w W → Calls Try.prog 48 #[.agg #[.int .i64 xk, .int .i64 xf, .int .i64 xo, .int .i64 xt, .int .i64 xs, .int .i64 xn, .bool xb, .int .i64 r1, .int .i64 r2, .slice Ag tags.length cg, .string data, .int .i64 e0, .int .i64 e1, .slice Ac cut.length cc, .int .i64 e3, .int .i64 e4, .int .i64 e5, .int .i64 bal, .int .i64 old, .int .i64 tt, .slice Aq q.length cq, .slice As s.length cs]] W fun e w' => e = .returned (.bool false) ∧ Chg No W w')) :
    Calls Try.prog 28 #[.pointer (some ⟨p, 0, none⟩), .agg #[.int .i64 xk, .int .i64 xf, .int .i64 xo, .int .i64 xt, .int .i64 xs, .int .i64 xn, .bool xb, .int .i64 r1, .int .i64 r2, .slice Ag tags.length cg, .string data, .int .i64 e0, .int .i64 e1, .slice Ac cut.length cc, .int .i64 e3, .int .i64 e4, .int .i64 e5, .int .i64 bal, .int .i64 old, .int .i64 tt, .slice Aq q.length cq, .slice As s.length cs]] w fun e w' => e = .returned (.bool false) ∧ Chg No w w' := by
  obtain ⟨r, vn, vl, vz, h⟩ := h
  have H := Lib.hid h
  have Hin := Lib.hid (fun W (hW : Chg No w W) => lcontains_any _ vn st.nodes xf W (h.nodes.keepNo hW) hb)
  obtain ⟨An, cn, rfl⟩ := h.nodes.slice
  obtain ⟨Al, cl, rfl⟩ := h.l.slice
  have p0 := cell_obj (i := 0) h.obj rfl
  have p3 := cell_obj (i := 3) h.obj rfl
  have p4 := cell_obj (i := 4) h.obj rfl
  clear h
  subst hk
  go_enter Try.func28, Try.ntmps28
  go_wp2_with (with_reducible first | refine stop_append ?_ | refine stop_copy ?_ | refine stop_make ?_ | refine stop_lookup ?_ | refine stop_update ?_ | refine stop_slice ?_ | refine stop_range ?_ | refine stop_next ?_ | refine stop_convert ⟨_, rfl⟩ ?_ | refine stop_convertB ⟨_, _, _, rfl⟩ ?_ | refine stop_eqSlice ⟨_, _, rfl⟩ ?_ | refine stop_store ?_ | refine stop_alloc ?_ | refine stop_box ?_)
  refine step_box #[.int .i64 4, .int .i64 xf, .int .i64 xo, .int .i64 xt, .int .i64 xs, .int .i64 xn, .bool xb, .int .i64 r1, .int .i64 r2, .slice Ag tags.length cg, .string data, .int .i64 e0, .int .i64 e1, .slice Ac cut.length cc, .int .i64 e3, .int .i64 e4, .int .i64 e5, .int .i64 bal, .int .i64 old, .int .i64 tt, .slice Aq q.length cq, .slice As s.length cs] rfl ?_
  intro w1 o1 c1 s1
  have a0 := cell_obj (i := 0) o1 rfl
  have a1 := cell_obj (i := 1) o1 rfl
  have a3 := cell_obj (i := 3) o1 rfl
  have a5 := cell_obj (i := 5) o1 rfl
  replace p0 := c1.cell p0 (not_no _)
  replace p3 := c1.cell p3 (not_no _)
  replace p4 := c1.cell p4 (not_no _)
  have HO := Lib.hid (fun W (hW : Chg No w1 W) => hW.obj o1 (not_no _))
  have HC := Lib.hid (fun W (hW : Chg No w1 W) => c1.trans hW)
  clear o1 s1
  go_wp2_with (with_reducible first | refine stop_append ?_ | refine stop_copy ?_ | refine stop_make ?_ | refine stop_lookup ?_ | refine stop_update ?_ | refine stop_slice ?_ | refine stop_range ?_ | refine stop_next ?_ | refine stop_convert ⟨_, rfl⟩ ?_ | refine stop_convertB ⟨_, _, _, rfl⟩ ?_ | refine stop_eqSlice ⟨_, _, rfl⟩ ?_ | refine stop_store ?_ | refine stop_alloc ?_ | refine stop_box ?_)
  have cd := (Chg.refl No w1).drew
  have HK := Lib.hid (show ∀ W W', (fun W => W.cell? ⟨w.heap.size, 1, none⟩ = some (.int .i64 xf) ∧ W.cell? ⟨w.heap.size, 3, none⟩ = some (.int .i64 xt) ∧ W.cell? ⟨w.heap.size, 5, none⟩ = some (.int .i64 xn) ∧ W.cell? ⟨p, 0, none⟩ = some (.int .i64 st.t) ∧ W.cell? ⟨p, 3, none⟩ = some (.slice An st.nodes.length cn) ∧ W.cell? ⟨p, 4, none⟩ = some (.slice Al st.l.length cl) ∧ Chg No w1 W) W → Chg No W W' → (fun W => W.cell? ⟨w.heap.size, 1, none⟩ = some (.int .i64 xf) ∧ W.cell? ⟨w.heap.size, 3, none⟩ = some (.int .i64 xt) ∧ W.cell? ⟨w.heap.size, 5, none⟩ = some (.int .i64 xn) ∧ W.cell? ⟨p, 0, none⟩ = some (.int .i64 st.t) ∧ W.cell? ⟨p, 3, none⟩ = some (.slice An st.nodes.length cn) ∧ W.cell? ⟨p, 4, none⟩ = some (.slice Al st.l.length cl) ∧ Chg No w1 W) W' from fun W W' h hc => ⟨hc.cell h.1 (not_no _), hc.cell h.2.1 (not_no _), hc.cell h.2.2.1 (not_no _), hc.cell h.2.2.2.1 (not_no _), hc.cell h.2.2.2.2.1 (not_no _), hc.cell h.2.2.2.2.2.1 (not_no _), h.2.2.2.2.2.2.trans hc⟩)
  have HL := Lib.hid (fun W (h : (fun W => W.cell? ⟨w.heap.size, 1, none⟩ = some (.int .i64 xf) ∧ W.cell? ⟨w.heap.size, 3, none⟩ = some (.int .i64 xt) ∧ W.cell? ⟨w.heap.size, 5, none⟩ = some (.int .i64 xn) ∧ W.cell? ⟨p, 0, none⟩ = some (.int .i64 st.t) ∧ W.cell? ⟨p, 3, none⟩ = some (.slice An st.nodes.length cn) ∧ W.cell? ⟨p, 4, none⟩ = some (.slice Al st.l.length cl) ∧ Chg No w1 W) W) => cells_of_obj (HO.out W h.2.2.2.2.2.2))
  refine pl_start (fun W => W.cell? ⟨w.heap.size, 1, none⟩ = some (.int .i64 xf) ∧ W.cell? ⟨w.heap.size, 3, none⟩ = some (.int .i64 xt) ∧ W.cell? ⟨w.heap.size, 5, none⟩ = some (.int .i64 xn) ∧ W.cell? ⟨p, 0, none⟩ = some (.int .i64 st.t) ∧ W.cell? ⟨p, 3, none⟩ = some (.slice An st.nodes.length cn) ∧ W.cell? ⟨p, 4, none⟩ = some (.slice Al st.l.length cl) ∧ Chg No w1 W) (by kernel_rfl) (by kernel_rfl) ⟨cd.cell a1 (not_no _), cd.cell a3 (not_no _), cd.cell a5 (not_no _), cd.cell p0 (not_no _), cd.cell p3 (not_no _), cd.cell p4 (not_no _), cd⟩ ?_
  clear a0 a1 a3 a5 p0 p3 p4 cd
  iterate 3 ((refine pl_nx [3] (v := ?_) rfl (by kernel_rfl) rfl ?_ ?_; rotate_left; focus (intro W hW; (try dsimp only at hW); go_split_ands; go_simp; (try (simp (disch := omega) only [IntWalk.i64_in]; (try go_simp))); (try (split; (next => omega); (try go_simp))); try rfl; done)); try simp only [Act.put, List.setIfInBounds_toArray, List.set_cons_zero, List.set_cons_succ, Nat.reduceAdd])
  refine pl_yesx 3 (.agg #[.int .i64 4, .int .i64 xf, .int .i64 xo, .int .i64 xt, .int .i64 xs, .int .i64 xn, .bool xb, .int .i64 r1, .int .i64 r2, .slice Ag tags.length cg, .string data, .int .i64 e0, .int .i64 e1, .slice Ac cut.length cc, .int .i64 e3, .int .i64 e4, .int .i64 e5, .int .i64 bal, .int .i64 old, .int .i64 tt, .slice Aq q.length cq, .slice As s.length cs]) rfl (by kernel_rfl) rfl (by exact (fun W hW => run_load_at 79 _ rfl w.heap.size 0 rfl #[.int .i64 4, .int .i64 xf, .int .i64 xo, .int .i64 xt, .int .i64 xs, .int .i64 xn, .bool xb, .int .i64 r1, .int .i64 r2, .slice Ag tags.length cg, .string data, .int .i64 e0, .int .i64 e1, .slice Ac cut.length cc, .int .i64 e3, .int .i64 e4, .int .i64 e5, .int .i64 bal, .int .i64 old, .int .i64 tt, .slice Aq q.length cq, .slice As s.length cs] (HL.out W hW) Try.underlying79 rfl (by kernel_rfl))) ?_
  try simp only [Act.put, List.setIfInBounds_toArray, List.set_cons_zero, List.set_cons_succ, Nat.reduceAdd]
  refine pl_callx 4 (.bool false) rfl (by kernel_rfl) rfl (by exact (fun W hW => (Hr.out W (HC.out _ hW.2.2.2.2.2.2)).mono (fun e w' h => ⟨h.1, HK.out _ _ hW h.2⟩))) (fun W => by kernel_rfl) ?_
  try simp only [Act.put, List.setIfInBounds_toArray, List.set_cons_zero, List.set_cons_succ, Nat.reduceAdd]
  ((first | (refine pl_nn [] rfl (by kernel_rfl) rfl ?_) | (refine pl_nx [] (v := ?_) rfl (by kernel_rfl) rfl ?_ ?_; rotate_left; focus (intro W hW; (try dsimp only at hW); go_split_ands; go_simp; (try (simp (disch := omega) only [IntWalk.i64_in]; (try go_simp))); (try (split; (next => omega); (try go_simp))); try rfl; done))); try simp only [Act.put, List.setIfInBounds_toArray, List.set_cons_zero, List.set_cons_succ, Nat.reduceAdd])
  iterate 2 ((refine pl_nx [] (v := ?_) rfl (by kernel_rfl) rfl ?_ ?_; rotate_left; focus (intro W hW; (try dsimp only at hW); go_split_ands; go_simp; (try (simp (disch := omega) only [IntWalk.i64_in]; (try go_simp))); (try (split; (next => omega); (try go_simp))); try rfl; done)); try simp only [Act.put, List.setIfInBounds_toArray, List.set_cons_zero, List.set_cons_succ, Nat.reduceAdd])
  iterate 7 ((first | (refine pl_nn [] rfl (by kernel_rfl) rfl ?_) | (refine pl_nx [] (v := ?_) rfl (by kernel_rfl) rfl ?_ ?_; rotate_left; focus (intro W hW; (try dsimp only at hW); go_split_ands; go_simp; (try (simp (disch := omega) only [IntWalk.i64_in]; (try go_simp))); (try (split; (next => omega); (try go_simp))); try rfl; done))); try simp only [Act.put, List.setIfInBounds_toArray, List.set_cons_zero, List.set_cons_succ, Nat.reduceAdd])
  iterate 2 ((refine pl_nx [] (v := ?_) rfl (by kernel_rfl) rfl ?_ ?_; rotate_left; focus (intro W hW; (try dsimp only at hW); go_split_ands; go_simp; (try (simp (disch := omega) only [IntWalk.i64_in]; (try go_simp))); (try (split; (next => omega); (try go_simp))); try rfl; done)); try simp only [Act.put, List.setIfInBounds_toArray, List.set_cons_zero, List.set_cons_succ, Nat.reduceAdd])
  iterate 6 ((first | (refine pl_nn [] rfl (by kernel_rfl) rfl ?_) | (refine pl_nx [] (v := ?_) rfl (by kernel_rfl) rfl ?_ ?_; rotate_left; focus (intro W hW; (try dsimp only at hW); go_split_ands; go_simp; (try (simp (disch := omega) only [IntWalk.i64_in]; (try go_simp))); (try (split; (next => omega); (try go_simp))); try rfl; done))); try simp only [Act.put, List.setIfInBounds_toArray, List.set_cons_zero, List.set_cons_succ, Nat.reduceAdd])
  refine pl_nox 23 (by kernel_rfl) rfl rfl ?_
  try simp only [Act.put, List.setIfInBounds_toArray, List.set_cons_zero, List.set_cons_succ, Nat.reduceAdd]
  ((first | (refine pl_nn [] rfl (by kernel_rfl) rfl ?_) | (refine pl_nx [] (v := ?_) rfl (by kernel_rfl) rfl ?_ ?_; rotate_left; focus (intro W hW; (try dsimp only at hW); go_split_ands; go_simp; (try (simp (disch := omega) only [IntWalk.i64_in]; (try go_simp))); (try (split; (next => omega); (try go_simp))); try rfl; done))); try simp only [Act.put, List.setIfInBounds_toArray, List.set_cons_zero, List.set_cons_succ, Nat.reduceAdd])
  iterate 2 ((refine pl_nx [] (v := ?_) rfl (by kernel_rfl) rfl ?_ ?_; rotate_left; focus (intro W hW; (try dsimp only at hW); go_split_ands; go_simp; (try (simp (disch := omega) only [IntWalk.i64_in]; (try go_simp))); (try (split; (next => omega); (try go_simp))); try rfl; done)); try simp only [Act.put, List.setIfInBounds_toArray, List.set_cons_zero, List.set_cons_succ, Nat.reduceAdd])
  iterate 8 ((first | (refine pl_nn [] rfl (by kernel_rfl) rfl ?_) | (refine pl_nx [] (v := ?_) rfl (by kernel_rfl) rfl ?_ ?_; rotate_left; focus (intro W hW; (try dsimp only at hW); go_split_ands; go_simp; (try (simp (disch := omega) only [IntWalk.i64_in]; (try go_simp))); (try (split; (next => omega); (try go_simp))); try rfl; done))); try simp only [Act.put, List.setIfInBounds_toArray, List.set_cons_zero, List.set_cons_succ, Nat.reduceAdd])
  ((refine pl_nx [] (v := ?_) rfl (by kernel_rfl) rfl ?_ ?_; rotate_left; focus (intro W hW; (try dsimp only at hW); go_split_ands; go_simp; (try (simp (disch := omega) only [IntWalk.i64_in]; (try go_simp))); (try (split; (next => omega); (try go_simp))); try rfl; done)); try simp only [Act.put, List.setIfInBounds_toArray, List.set_cons_zero, List.set_cons_succ, Nat.reduceAdd])
  refine pl_done (by kernel_rfl)  ?_
  rintro w2 ⟨-, -, -, -, -, -, h2⟩
  have o1 := HO.out _ h2
  have h2 := HC.out _ h2
  clear HO HL HK
  go_wp2_with (with_reducible first | refine stop_append ?_ | refine stop_copy ?_ | refine stop_make ?_ | refine stop_lookup ?_ | refine stop_update ?_ | refine stop_slice ?_ | refine stop_range ?_ | refine stop_next ?_ | refine stop_convert ⟨_, rfl⟩ ?_ | refine stop_convertB ⟨_, _, _, rfl⟩ ?_ | refine stop_eqSlice ⟨_, _, rfl⟩ ?_)
  go_ret
  exact ⟨rfl, h2⟩
set_option maxRecDepth 100000 in
set_option maxHeartbeats 8000000 in
theorem heard_right6 (S : Nat → Prop) (p : Nat) (st : PSt) (xk xf xo xt xs xn r1 r2 e0 e1 e3 e4 e5 bal old tt : Int) (xb : Bool) (tags cut q : List Int) (s : List (List Int)) (data : ByteArray) (Ag Ac Aq As : Option Addr) (cg cc cq cs : Nat) (w : World) (h : Pri w S p st) (hb : st.nodes.length * 8 ≤ 140737488355328)
    (hk : xk = 6)
    (Hr : Hid (∀ W, Chg No w W → Calls Try.prog 48 #[.agg #[.int .i64 xk, .int .i64 xf, .int .i64 xo, .int .i64 xt, .int .i64 xs, .int .i64 xn, .bool xb, .int .i64 r1, .int .i64 r2, .slice Ag tags.length cg, .string data, .int .i64 e0, .int .i64 e1, .slice Ac cut.length cc, .int .i64 e3, .int .i64 e4, .int .i64 e5, .int .i64 bal, .int .i64 old, .int .i64 tt, .slice Aq q.length cq, .slice As s.length cs]] W fun e w' => e = .returned (.bool false) ∧ Chg No W w')) :
    Calls Try.prog 28 #[.pointer (some ⟨p, 0, none⟩), .agg #[.int .i64 xk, .int .i64 xf, .int .i64 xo, .int .i64 xt, .int .i64 xs, .int .i64 xn, .bool xb, .int .i64 r1, .int .i64 r2, .slice Ag tags.length cg, .string data, .int .i64 e0, .int .i64 e1, .slice Ac cut.length cc, .int .i64 e3, .int .i64 e4, .int .i64 e5, .int .i64 bal, .int .i64 old, .int .i64 tt, .slice Aq q.length cq, .slice As s.length cs]] w fun e w' => e = .returned (.bool false) ∧ Chg No w w' := by
  obtain ⟨r, vn, vl, vz, h⟩ := h
  have H := Lib.hid h
  have Hin := Lib.hid (fun W (hW : Chg No w W) => lcontains_any _ vn st.nodes xf W (h.nodes.keepNo hW) hb)
  obtain ⟨An, cn, rfl⟩ := h.nodes.slice
  obtain ⟨Al, cl, rfl⟩ := h.l.slice
  have p0 := cell_obj (i := 0) h.obj rfl
  have p3 := cell_obj (i := 3) h.obj rfl
  have p4 := cell_obj (i := 4) h.obj rfl
  clear h
  subst hk
  go_enter Try.func28, Try.ntmps28
  go_wp2_with (with_reducible first | refine stop_append ?_ | refine stop_copy ?_ | refine stop_make ?_ | refine stop_lookup ?_ | refine stop_update ?_ | refine stop_slice ?_ | refine stop_range ?_ | refine stop_next ?_ | refine stop_convert ⟨_, rfl⟩ ?_ | refine stop_convertB ⟨_, _, _, rfl⟩ ?_ | refine stop_eqSlice ⟨_, _, rfl⟩ ?_ | refine stop_store ?_ | refine stop_alloc ?_ | refine stop_box ?_)
  refine step_box #[.int .i64 6, .int .i64 xf, .int .i64 xo, .int .i64 xt, .int .i64 xs, .int .i64 xn, .bool xb, .int .i64 r1, .int .i64 r2, .slice Ag tags.length cg, .string data, .int .i64 e0, .int .i64 e1, .slice Ac cut.length cc, .int .i64 e3, .int .i64 e4, .int .i64 e5, .int .i64 bal, .int .i64 old, .int .i64 tt, .slice Aq q.length cq, .slice As s.length cs] rfl ?_
  intro w1 o1 c1 s1
  have a0 := cell_obj (i := 0) o1 rfl
  have a1 := cell_obj (i := 1) o1 rfl
  have a3 := cell_obj (i := 3) o1 rfl
  have a5 := cell_obj (i := 5) o1 rfl
  replace p0 := c1.cell p0 (not_no _)
  replace p3 := c1.cell p3 (not_no _)
  replace p4 := c1.cell p4 (not_no _)
  have HO := Lib.hid (fun W (hW : Chg No w1 W) => hW.obj o1 (not_no _))
  have HC := Lib.hid (fun W (hW : Chg No w1 W) => c1.trans hW)
  clear o1 s1
  go_wp2_with (with_reducible first | refine stop_append ?_ | refine stop_copy ?_ | refine stop_make ?_ | refine stop_lookup ?_ | refine stop_update ?_ | refine stop_slice ?_ | refine stop_range ?_ | refine stop_next ?_ | refine stop_convert ⟨_, rfl⟩ ?_ | refine stop_convertB ⟨_, _, _, rfl⟩ ?_ | refine stop_eqSlice ⟨_, _, rfl⟩ ?_ | refine stop_store ?_ | refine stop_alloc ?_ | refine stop_box ?_)
  have cd := (Chg.refl No w1).drew
  have HK := Lib.hid (show ∀ W W', (fun W => W.cell? ⟨w.heap.size, 1, none⟩ = some (.int .i64 xf) ∧ W.cell? ⟨w.heap.size, 3, none⟩ = some (.int .i64 xt) ∧ W.cell? ⟨w.heap.size, 5, none⟩ = some (.int .i64 xn) ∧ W.cell? ⟨p, 0, none⟩ = some (.int .i64 st.t) ∧ W.cell? ⟨p, 3, none⟩ = some (.slice An st.nodes.length cn) ∧ W.cell? ⟨p, 4, none⟩ = some (.slice Al st.l.length cl) ∧ Chg No w1 W) W → Chg No W W' → (fun W => W.cell? ⟨w.heap.size, 1, none⟩ = some (.int .i64 xf) ∧ W.cell? ⟨w.heap.size, 3, none⟩ = some (.int .i64 xt) ∧ W.cell? ⟨w.heap.size, 5, none⟩ = some (.int .i64 xn) ∧ W.cell? ⟨p, 0, none⟩ = some (.int .i64 st.t) ∧ W.cell? ⟨p, 3, none⟩ = some (.slice An st.nodes.length cn) ∧ W.cell? ⟨p, 4, none⟩ = some (.slice Al st.l.length cl) ∧ Chg No w1 W) W' from fun W W' h hc => ⟨hc.cell h.1 (not_no _), hc.cell h.2.1 (not_no _), hc.cell h.2.2.1 (not_no _), hc.cell h.2.2.2.1 (not_no _), hc.cell h.2.2.2.2.1 (not_no _), hc.cell h.2.2.2.2.2.1 (not_no _), h.2.2.2.2.2.2.trans hc⟩)
  have HL := Lib.hid (fun W (h : (fun W => W.cell? ⟨w.heap.size, 1, none⟩ = some (.int .i64 xf) ∧ W.cell? ⟨w.heap.size, 3, none⟩ = some (.int .i64 xt) ∧ W.cell? ⟨w.heap.size, 5, none⟩ = some (.int .i64 xn) ∧ W.cell? ⟨p, 0, none⟩ = some (.int .i64 st.t) ∧ W.cell? ⟨p, 3, none⟩ = some (.slice An st.nodes.length cn) ∧ W.cell? ⟨p, 4, none⟩ = some (.slice Al st.l.length cl) ∧ Chg No w1 W) W) => cells_of_obj (HO.out W h.2.2.2.2.2.2))
  refine pl_start (fun W => W.cell? ⟨w.heap.size, 1, none⟩ = some (.int .i64 xf) ∧ W.cell? ⟨w.heap.size, 3, none⟩ = some (.int .i64 xt) ∧ W.cell? ⟨w.heap.size, 5, none⟩ = some (.int .i64 xn) ∧ W.cell? ⟨p, 0, none⟩ = some (.int .i64 st.t) ∧ W.cell? ⟨p, 3, none⟩ = some (.slice An st.nodes.length cn) ∧ W.cell? ⟨p, 4, none⟩ = some (.slice Al st.l.length cl) ∧ Chg No w1 W) (by kernel_rfl) (by kernel_rfl) ⟨cd.cell a1 (not_no _), cd.cell a3 (not_no _), cd.cell a5 (not_no _), cd.cell p0 (not_no _), cd.cell p3 (not_no _), cd.cell p4 (not_no _), cd⟩ ?_
  clear a0 a1 a3 a5 p0 p3 p4 cd
  iterate 3 ((refine pl_nx [3] (v := ?_) rfl (by kernel_rfl) rfl ?_ ?_; rotate_left; focus (intro W hW; (try dsimp only at hW); go_split_ands; go_simp; (try (simp (disch := omega) only [IntWalk.i64_in]; (try go_simp))); (try (split; (next => omega); (try go_simp))); try rfl; done)); try simp only [Act.put, List.setIfInBounds_toArray, List.set_cons_zero, List.set_cons_succ, Nat.reduceAdd])
  refine pl_yesx 3 (.agg #[.int .i64 6, .int .i64 xf, .int .i64 xo, .int .i64 xt, .int .i64 xs, .int .i64 xn, .bool xb, .int .i64 r1, .int .i64 r2, .slice Ag tags.length cg, .string data, .int .i64 e0, .int .i64 e1, .slice Ac cut.length cc, .int .i64 e3, .int .i64 e4, .int .i64 e5, .int .i64 bal, .int .i64 old, .int .i64 tt, .slice Aq q.length cq, .slice As s.length cs]) rfl (by kernel_rfl) rfl (by exact (fun W hW => run_load_at 79 _ rfl w.heap.size 0 rfl #[.int .i64 6, .int .i64 xf, .int .i64 xo, .int .i64 xt, .int .i64 xs, .int .i64 xn, .bool xb, .int .i64 r1, .int .i64 r2, .slice Ag tags.length cg, .string data, .int .i64 e0, .int .i64 e1, .slice Ac cut.length cc, .int .i64 e3, .int .i64 e4, .int .i64 e5, .int .i64 bal, .int .i64 old, .int .i64 tt, .slice Aq q.length cq, .slice As s.length cs] (HL.out W hW) Try.underlying79 rfl (by kernel_rfl))) ?_
  try simp only [Act.put, List.setIfInBounds_toArray, List.set_cons_zero, List.set_cons_succ, Nat.reduceAdd]
  refine pl_callx 4 (.bool false) rfl (by kernel_rfl) rfl (by exact (fun W hW => (Hr.out W (HC.out _ hW.2.2.2.2.2.2)).mono (fun e w' h => ⟨h.1, HK.out _ _ hW h.2⟩))) (fun W => by kernel_rfl) ?_
  try simp only [Act.put, List.setIfInBounds_toArray, List.set_cons_zero, List.set_cons_succ, Nat.reduceAdd]
  ((first | (refine pl_nn [] rfl (by kernel_rfl) rfl ?_) | (refine pl_nx [] (v := ?_) rfl (by kernel_rfl) rfl ?_ ?_; rotate_left; focus (intro W hW; (try dsimp only at hW); go_split_ands; go_simp; (try (simp (disch := omega) only [IntWalk.i64_in]; (try go_simp))); (try (split; (next => omega); (try go_simp))); try rfl; done))); try simp only [Act.put, List.setIfInBounds_toArray, List.set_cons_zero, List.set_cons_succ, Nat.reduceAdd])
  iterate 2 ((refine pl_nx [] (v := ?_) rfl (by kernel_rfl) rfl ?_ ?_; rotate_left; focus (intro W hW; (try dsimp only at hW); go_split_ands; go_simp; (try (simp (disch := omega) only [IntWalk.i64_in]; (try go_simp))); (try (split; (next => omega); (try go_simp))); try rfl; done)); try simp only [Act.put, List.setIfInBounds_toArray, List.set_cons_zero, List.set_cons_succ, Nat.reduceAdd])
  iterate 7 ((first | (refine pl_nn [] rfl (by kernel_rfl) rfl ?_) | (refine pl_nx [] (v := ?_) rfl (by kernel_rfl) rfl ?_ ?_; rotate_left; focus (intro W hW; (try dsimp only at hW); go_split_ands; go_simp; (try (simp (disch := omega) only [IntWalk.i64_in]; (try go_simp))); (try (split; (next => omega); (try go_simp))); try rfl; done))); try simp only [Act.put, List.setIfInBounds_toArray, List.set_cons_zero, List.set_cons_succ, Nat.reduceAdd])
  iterate 2 ((refine pl_nx [] (v := ?_) rfl (by kernel_rfl) rfl ?_ ?_; rotate_left; focus (intro W hW; (try dsimp only at hW); go_split_ands; go_simp; (try (simp (disch := omega) only [IntWalk.i64_in]; (try go_simp))); (try (split; (next => omega); (try go_simp))); try rfl; done)); try simp only [Act.put, List.setIfInBounds_toArray, List.set_cons_zero, List.set_cons_succ, Nat.reduceAdd])
  iterate 6 ((first | (refine pl_nn [] rfl (by kernel_rfl) rfl ?_) | (refine pl_nx [] (v := ?_) rfl (by kernel_rfl) rfl ?_ ?_; rotate_left; focus (intro W hW; (try dsimp only at hW); go_split_ands; go_simp; (try (simp (disch := omega) only [IntWalk.i64_in]; (try go_simp))); (try (split; (next => omega); (try go_simp))); try rfl; done))); try simp only [Act.put, List.setIfInBounds_toArray, List.set_cons_zero, List.set_cons_succ, Nat.reduceAdd])
  refine pl_nox 23 (by kernel_rfl) rfl rfl ?_
  try simp only [Act.put, List.setIfInBounds_toArray, List.set_cons_zero, List.set_cons_succ, Nat.reduceAdd]
  ((first | (refine pl_nn [] rfl (by kernel_rfl) rfl ?_) | (refine pl_nx [] (v := ?_) rfl (by kernel_rfl) rfl ?_ ?_; rotate_left; focus (intro W hW; (try dsimp only at hW); go_split_ands; go_simp; (try (simp (disch := omega) only [IntWalk.i64_in]; (try go_simp))); (try (split; (next => omega); (try go_simp))); try rfl; done))); try simp only [Act.put, List.setIfInBounds_toArray, List.set_cons_zero, List.set_cons_succ, Nat.reduceAdd])
  iterate 2 ((refine pl_nx [] (v := ?_) rfl (by kernel_rfl) rfl ?_ ?_; rotate_left; focus (intro W hW; (try dsimp only at hW); go_split_ands; go_simp; (try (simp (disch := omega) only [IntWalk.i64_in]; (try go_simp))); (try (split; (next => omega); (try go_simp))); try rfl; done)); try simp only [Act.put, List.setIfInBounds_toArray, List.set_cons_zero, List.set_cons_succ, Nat.reduceAdd])
  iterate 8 ((first | (refine pl_nn [] rfl (by kernel_rfl) rfl ?_) | (refine pl_nx [] (v := ?_) rfl (by kernel_rfl) rfl ?_ ?_; rotate_left; focus (intro W hW; (try dsimp only at hW); go_split_ands; go_simp; (try (simp (disch := omega) only [IntWalk.i64_in]; (try go_simp))); (try (split; (next => omega); (try go_simp))); try rfl; done))); try simp only [Act.put, List.setIfInBounds_toArray, List.set_cons_zero, List.set_cons_succ, Nat.reduceAdd])
  ((refine pl_nx [] (v := ?_) rfl (by kernel_rfl) rfl ?_ ?_; rotate_left; focus (intro W hW; (try dsimp only at hW); go_split_ands; go_simp; (try (simp (disch := omega) only [IntWalk.i64_in]; (try go_simp))); (try (split; (next => omega); (try go_simp))); try rfl; done)); try simp only [Act.put, List.setIfInBounds_toArray, List.set_cons_zero, List.set_cons_succ, Nat.reduceAdd])
  refine pl_done (by kernel_rfl)  ?_
  rintro w2 ⟨-, -, -, -, -, -, h2⟩
  have o1 := HO.out _ h2
  have h2 := HC.out _ h2
  clear HO HL HK
  go_wp2_with (with_reducible first | refine stop_append ?_ | refine stop_copy ?_ | refine stop_make ?_ | refine stop_lookup ?_ | refine stop_update ?_ | refine stop_slice ?_ | refine stop_range ?_ | refine stop_next ?_ | refine stop_convert ⟨_, rfl⟩ ?_ | refine stop_convertB ⟨_, _, _, rfl⟩ ?_ | refine stop_eqSlice ⟨_, _, rfl⟩ ?_)
  go_ret
  exact ⟨rfl, h2⟩
set_option maxRecDepth 100000 in
set_option maxHeartbeats 8000000 in
theorem heard_term4 (S : Nat → Prop) (p : Nat) (st : PSt) (xk xf xo xt xs xn r1 r2 e0 e1 e3 e4 e5 bal old tt : Int) (xb : Bool) (tags cut q : List Int) (s : List (List Int)) (data : ByteArray) (Ag Ac Aq As : Option Addr) (cg cc cq cs : Nat) (w : World) (h : Pri w S p st) (hb : st.nodes.length * 8 ≤ 140737488355328)
    (hk : xk = 4)
    (Hr : Hid (∀ W, Chg No w W → Calls Try.prog 48 #[.agg #[.int .i64 xk, .int .i64 xf, .int .i64 xo, .int .i64 xt, .int .i64 xs, .int .i64 xn, .bool xb, .int .i64 r1, .int .i64 r2, .slice Ag tags.length cg, .string data, .int .i64 e0, .int .i64 e1, .slice Ac cut.length cc, .int .i64 e3, .int .i64 e4, .int .i64 e5, .int .i64 bal, .int .i64 old, .int .i64 tt, .slice Aq q.length cq, .slice As s.length cs]] W fun e w' => e = .returned (.bool true) ∧ Chg No W w'))
    (ht : (xt != st.t) = true) :
    Calls Try.prog 28 #[.pointer (some ⟨p, 0, none⟩), .agg #[.int .i64 xk, .int .i64 xf, .int .i64 xo, .int .i64 xt, .int .i64 xs, .int .i64 xn, .bool xb, .int .i64 r1, .int .i64 r2, .slice Ag tags.length cg, .string data, .int .i64 e0, .int .i64 e1, .slice Ac cut.length cc, .int .i64 e3, .int .i64 e4, .int .i64 e5, .int .i64 bal, .int .i64 old, .int .i64 tt, .slice Aq q.length cq, .slice As s.length cs]] w fun e w' => e = .returned (.bool false) ∧ Chg No w w' := by
  obtain ⟨r, vn, vl, vz, h⟩ := h
  have H := Lib.hid h
  have Hin := Lib.hid (fun W (hW : Chg No w W) => lcontains_any _ vn st.nodes xf W (h.nodes.keepNo hW) hb)
  obtain ⟨An, cn, rfl⟩ := h.nodes.slice
  obtain ⟨Al, cl, rfl⟩ := h.l.slice
  have p0 := cell_obj (i := 0) h.obj rfl
  have p3 := cell_obj (i := 3) h.obj rfl
  have p4 := cell_obj (i := 4) h.obj rfl
  clear h
  subst hk
  go_enter Try.func28, Try.ntmps28
  go_wp2_with (with_reducible first | refine stop_append ?_ | refine stop_copy ?_ | refine stop_make ?_ | refine stop_lookup ?_ | refine stop_update ?_ | refine stop_slice ?_ | refine stop_range ?_ | refine stop_next ?_ | refine stop_convert ⟨_, rfl⟩ ?_ | refine stop_convertB ⟨_, _, _, rfl⟩ ?_ | refine stop_eqSlice ⟨_, _, rfl⟩ ?_ | refine stop_store ?_ | refine stop_alloc ?_ | refine stop_box ?_)
  refine step_box #[.int .i64 4, .int .i64 xf, .int .i64 xo, .int .i64 xt, .int .i64 xs, .int .i64 xn, .bool xb, .int .i64 r1, .int .i64 r2, .slice Ag tags.length cg, .string data, .int .i64 e0, .int .i64 e1, .slice Ac cut.length cc, .int .i64 e3, .int .i64 e4, .int .i64 e5, .int .i64 bal, .int .i64 old, .int .i64 tt, .slice Aq q.length cq, .slice As s.length cs] rfl ?_
  intro w1 o1 c1 s1
  have a0 := cell_obj (i := 0) o1 rfl
  have a1 := cell_obj (i := 1) o1 rfl
  have a3 := cell_obj (i := 3) o1 rfl
  have a5 := cell_obj (i := 5) o1 rfl
  replace p0 := c1.cell p0 (not_no _)
  replace p3 := c1.cell p3 (not_no _)
  replace p4 := c1.cell p4 (not_no _)
  have HO := Lib.hid (fun W (hW : Chg No w1 W) => hW.obj o1 (not_no _))
  have HC := Lib.hid (fun W (hW : Chg No w1 W) => c1.trans hW)
  clear o1 s1
  go_wp2_with (with_reducible first | refine stop_append ?_ | refine stop_copy ?_ | refine stop_make ?_ | refine stop_lookup ?_ | refine stop_update ?_ | refine stop_slice ?_ | refine stop_range ?_ | refine stop_next ?_ | refine stop_convert ⟨_, rfl⟩ ?_ | refine stop_convertB ⟨_, _, _, rfl⟩ ?_ | refine stop_eqSlice ⟨_, _, rfl⟩ ?_ | refine stop_store ?_ | refine stop_alloc ?_ | refine stop_box ?_)
  have cd := (Chg.refl No w1).drew
  have HK := Lib.hid (show ∀ W W', (fun W => W.cell? ⟨w.heap.size, 1, none⟩ = some (.int .i64 xf) ∧ W.cell? ⟨w.heap.size, 3, none⟩ = some (.int .i64 xt) ∧ W.cell? ⟨w.heap.size, 5, none⟩ = some (.int .i64 xn) ∧ W.cell? ⟨p, 0, none⟩ = some (.int .i64 st.t) ∧ W.cell? ⟨p, 3, none⟩ = some (.slice An st.nodes.length cn) ∧ W.cell? ⟨p, 4, none⟩ = some (.slice Al st.l.length cl) ∧ Chg No w1 W) W → Chg No W W' → (fun W => W.cell? ⟨w.heap.size, 1, none⟩ = some (.int .i64 xf) ∧ W.cell? ⟨w.heap.size, 3, none⟩ = some (.int .i64 xt) ∧ W.cell? ⟨w.heap.size, 5, none⟩ = some (.int .i64 xn) ∧ W.cell? ⟨p, 0, none⟩ = some (.int .i64 st.t) ∧ W.cell? ⟨p, 3, none⟩ = some (.slice An st.nodes.length cn) ∧ W.cell? ⟨p, 4, none⟩ = some (.slice Al st.l.length cl) ∧ Chg No w1 W) W' from fun W W' h hc => ⟨hc.cell h.1 (not_no _), hc.cell h.2.1 (not_no _), hc.cell h.2.2.1 (not_no _), hc.cell h.2.2.2.1 (not_no _), hc.cell h.2.2.2.2.1 (not_no _), hc.cell h.2.2.2.2.2.1 (not_no _), h.2.2.2.2.2.2.trans hc⟩)
  have HL := Lib.hid (fun W (h : (fun W => W.cell? ⟨w.heap.size, 1, none⟩ = some (.int .i64 xf) ∧ W.cell? ⟨w.heap.size, 3, none⟩ = some (.int .i64 xt) ∧ W.cell? ⟨w.heap.size, 5, none⟩ = some (.int .i64 xn) ∧ W.cell? ⟨p, 0, none⟩ = some (.int .i64 st.t) ∧ W.cell? ⟨p, 3, none⟩ = some (.slice An st.nodes.length cn) ∧ W.cell? ⟨p, 4, none⟩ = some (.slice Al st.l.length cl) ∧ Chg No w1 W) W) => cells_of_obj (HO.out W h.2.2.2.2.2.2))
  refine pl_start (fun W => W.cell? ⟨w.heap.size, 1, none⟩ = some (.int .i64 xf) ∧ W.cell? ⟨w.heap.size, 3, none⟩ = some (.int .i64 xt) ∧ W.cell? ⟨w.heap.size, 5, none⟩ = some (.int .i64 xn) ∧ W.cell? ⟨p, 0, none⟩ = some (.int .i64 st.t) ∧ W.cell? ⟨p, 3, none⟩ = some (.slice An st.nodes.length cn) ∧ W.cell? ⟨p, 4, none⟩ = some (.slice Al st.l.length cl) ∧ Chg No w1 W) (by kernel_rfl) (by kernel_rfl) ⟨cd.cell a1 (not_no _), cd.cell a3 (not_no _), cd.cell a5 (not_no _), cd.cell p0 (not_no _), cd.cell p3 (not_no _), cd.cell p4 (not_no _), cd⟩ ?_
  clear a0 a1 a3 a5 p0 p3 p4 cd
  iterate 3 ((refine pl_nx [3] (v := ?_) rfl (by kernel_rfl) rfl ?_ ?_; rotate_left; focus (intro W hW; (try dsimp only at hW); go_split_ands; go_simp; (try (simp (disch := omega) only [IntWalk.i64_in]; (try go_simp))); (try (split; (next => omega); (try go_simp))); try rfl; done)); try simp only [Act.put, List.setIfInBounds_toArray, List.set_cons_zero, List.set_cons_succ, Nat.reduceAdd])
  refine pl_yesx 3 (.agg #[.int .i64 4, .int .i64 xf, .int .i64 xo, .int .i64 xt, .int .i64 xs, .int .i64 xn, .bool xb, .int .i64 r1, .int .i64 r2, .slice Ag tags.length cg, .string data, .int .i64 e0, .int .i64 e1, .slice Ac cut.length cc, .int .i64 e3, .int .i64 e4, .int .i64 e5, .int .i64 bal, .int .i64 old, .int .i64 tt, .slice Aq q.length cq, .slice As s.length cs]) rfl (by kernel_rfl) rfl (by exact (fun W hW => run_load_at 79 _ rfl w.heap.size 0 rfl #[.int .i64 4, .int .i64 xf, .int .i64 xo, .int .i64 xt, .int .i64 xs, .int .i64 xn, .bool xb, .int .i64 r1, .int .i64 r2, .slice Ag tags.length cg, .string data, .int .i64 e0, .int .i64 e1, .slice Ac cut.length cc, .int .i64 e3, .int .i64 e4, .int .i64 e5, .int .i64 bal, .int .i64 old, .int .i64 tt, .slice Aq q.length cq, .slice As s.length cs] (HL.out W hW) Try.underlying79 rfl (by kernel_rfl))) ?_
  try simp only [Act.put, List.setIfInBounds_toArray, List.set_cons_zero, List.set_cons_succ, Nat.reduceAdd]
  refine pl_callx 4 (.bool true) rfl (by kernel_rfl) rfl (by exact (fun W hW => (Hr.out W (HC.out _ hW.2.2.2.2.2.2)).mono (fun e w' h => ⟨h.1, HK.out _ _ hW h.2⟩))) (fun W => by kernel_rfl) ?_
  try simp only [Act.put, List.setIfInBounds_toArray, List.set_cons_zero, List.set_cons_succ, Nat.reduceAdd]
  ((first | (refine pl_nn [] rfl (by kernel_rfl) rfl ?_) | (refine pl_nx [] (v := ?_) rfl (by kernel_rfl) rfl ?_ ?_; rotate_left; focus (intro W hW; (try dsimp only at hW); go_split_ands; go_simp; (try (simp (disch := omega) only [IntWalk.i64_in]; (try go_simp))); (try (split; (next => omega); (try go_simp))); try rfl; done))); try simp only [Act.put, List.setIfInBounds_toArray, List.set_cons_zero, List.set_cons_succ, Nat.reduceAdd])
  iterate 2 ((refine pl_nx [] (v := ?_) rfl (by kernel_rfl) rfl ?_ ?_; rotate_left; focus (intro W hW; (try dsimp only at hW); go_split_ands; go_simp; (try (simp (disch := omega) only [IntWalk.i64_in]; (try go_simp))); (try (split; (next => omega); (try go_simp))); try rfl; done)); try simp only [Act.put, List.setIfInBounds_toArray, List.set_cons_zero, List.set_cons_succ, Nat.reduceAdd])
  iterate 7 ((first | (refine pl_nn [] rfl (by kernel_rfl) rfl ?_) | (refine pl_nx [] (v := ?_) rfl (by kernel_rfl) rfl ?_ ?_; rotate_left; focus (intro W hW; (try dsimp only at hW); go_split_ands; go_simp; (try (simp (disch := omega) only [IntWalk.i64_in]; (try go_simp))); (try (split; (next => omega); (try go_simp))); try rfl; done))); try simp only [Act.put, List.setIfInBounds_toArray, List.set_cons_zero, List.set_cons_succ, Nat.reduceAdd])
  iterate 2 ((refine pl_nx [] (v := ?_) rfl (by kernel_rfl) rfl ?_ ?_; rotate_left; focus (intro W hW; (try dsimp only at hW); go_split_ands; go_simp; (try (simp (disch := omega) only [IntWalk.i64_in]; (try go_simp))); (try (split; (next => omega); (try go_simp))); try rfl; done)); try simp only [Act.put, List.setIfInBounds_toArray, List.set_cons_zero, List.set_cons_succ, Nat.reduceAdd])
  iterate 6 ((first | (refine pl_nn [] rfl (by kernel_rfl) rfl ?_) | (refine pl_nx [] (v := ?_) rfl (by kernel_rfl) rfl ?_ ?_; rotate_left; focus (intro W hW; (try dsimp only at hW); go_split_ands; go_simp; (try (simp (disch := omega) only [IntWalk.i64_in]; (try go_simp))); (try (split; (next => omega); (try go_simp))); try rfl; done))); try simp only [Act.put, List.setIfInBounds_toArray, List.set_cons_zero, List.set_cons_succ, Nat.reduceAdd])
  refine pl_nox 23 (by kernel_rfl) rfl rfl ?_
  try simp only [Act.put, List.setIfInBounds_toArray, List.set_cons_zero, List.set_cons_succ, Nat.reduceAdd]
  ((first | (refine pl_nn [] rfl (by kernel_rfl) rfl ?_) | (refine pl_nx [] (v := ?_) rfl (by kernel_rfl) rfl ?_ ?_; rotate_left; focus (intro W hW; (try dsimp only at hW); go_split_ands; go_simp; (try (simp (disch := omega) only [IntWalk.i64_in]; (try go_simp))); (try (split; (next => omega); (try go_simp))); try rfl; done))); try simp only [Act.put, List.setIfInBounds_toArray, List.set_cons_zero, List.set_cons_succ, Nat.reduceAdd])
  iterate 2 ((refine pl_nx [] (v := ?_) rfl (by kernel_rfl) rfl ?_ ?_; rotate_left; focus (intro W hW; (try dsimp only at hW); go_split_ands; go_simp; (try (simp (disch := omega) only [IntWalk.i64_in]; (try go_simp))); (try (split; (next => omega); (try go_simp))); try rfl; done)); try simp only [Act.put, List.setIfInBounds_toArray, List.set_cons_zero, List.set_cons_succ, Nat.reduceAdd])
  iterate 8 ((first | (refine pl_nn [] rfl (by kernel_rfl) rfl ?_) | (refine pl_nx [] (v := ?_) rfl (by kernel_rfl) rfl ?_ ?_; rotate_left; focus (intro W hW; (try dsimp only at hW); go_split_ands; go_simp; (try (simp (disch := omega) only [IntWalk.i64_in]; (try go_simp))); (try (split; (next => omega); (try go_simp))); try rfl; done))); try simp only [Act.put, List.setIfInBounds_toArray, List.set_cons_zero, List.set_cons_succ, Nat.reduceAdd])
  ((refine pl_nx [] (v := ?_) rfl (by kernel_rfl) rfl ?_ ?_; rotate_left; focus (intro W hW; (try dsimp only at hW); go_split_ands; go_simp; (try (simp (disch := omega) only [IntWalk.i64_in]; (try go_simp))); (try (split; (next => omega); (try go_simp))); try rfl; done)); try simp only [Act.put, List.setIfInBounds_toArray, List.set_cons_zero, List.set_cons_succ, Nat.reduceAdd])
  refine pl_done (by kernel_rfl)  ?_
  rintro w2 ⟨-, -, -, -, -, -, h2⟩
  have o1 := HO.out _ h2
  have h2 := HC.out _ h2
  clear HO HL HK
  go_wp2_with (with_reducible first | refine stop_append ?_ | refine stop_copy ?_ | refine stop_make ?_ | refine stop_lookup ?_ | refine stop_update ?_ | refine stop_slice ?_ | refine stop_range ?_ | refine stop_next ?_ | refine stop_convert ⟨_, rfl⟩ ?_ | refine stop_convertB ⟨_, _, _, rfl⟩ ?_ | refine stop_eqSlice ⟨_, _, rfl⟩ ?_)
  go_ret
  exact ⟨rfl, h2⟩
set_option maxRecDepth 100000 in
set_option maxHeartbeats 8000000 in
theorem heard_term6 (S : Nat → Prop) (p : Nat) (st : PSt) (xk xf xo xt xs xn r1 r2 e0 e1 e3 e4 e5 bal old tt : Int) (xb : Bool) (tags cut q : List Int) (s : List (List Int)) (data : ByteArray) (Ag Ac Aq As : Option Addr) (cg cc cq cs : Nat) (w : World) (h : Pri w S p st) (hb : st.nodes.length * 8 ≤ 140737488355328)
    (hk : xk = 6)
    (Hr : Hid (∀ W, Chg No w W → Calls Try.prog 48 #[.agg #[.int .i64 xk, .int .i64 xf, .int .i64 xo, .int .i64 xt, .int .i64 xs, .int .i64 xn, .bool xb, .int .i64 r1, .int .i64 r2, .slice Ag tags.length cg, .string data, .int .i64 e0, .int .i64 e1, .slice Ac cut.length cc, .int .i64 e3, .int .i64 e4, .int .i64 e5, .int .i64 bal, .int .i64 old, .int .i64 tt, .slice Aq q.length cq, .slice As s.length cs]] W fun e w' => e = .returned (.bool true) ∧ Chg No W w'))
    (ht : (xt != st.t) = true) :
    Calls Try.prog 28 #[.pointer (some ⟨p, 0, none⟩), .agg #[.int .i64 xk, .int .i64 xf, .int .i64 xo, .int .i64 xt, .int .i64 xs, .int .i64 xn, .bool xb, .int .i64 r1, .int .i64 r2, .slice Ag tags.length cg, .string data, .int .i64 e0, .int .i64 e1, .slice Ac cut.length cc, .int .i64 e3, .int .i64 e4, .int .i64 e5, .int .i64 bal, .int .i64 old, .int .i64 tt, .slice Aq q.length cq, .slice As s.length cs]] w fun e w' => e = .returned (.bool false) ∧ Chg No w w' := by
  obtain ⟨r, vn, vl, vz, h⟩ := h
  have H := Lib.hid h
  have Hin := Lib.hid (fun W (hW : Chg No w W) => lcontains_any _ vn st.nodes xf W (h.nodes.keepNo hW) hb)
  obtain ⟨An, cn, rfl⟩ := h.nodes.slice
  obtain ⟨Al, cl, rfl⟩ := h.l.slice
  have p0 := cell_obj (i := 0) h.obj rfl
  have p3 := cell_obj (i := 3) h.obj rfl
  have p4 := cell_obj (i := 4) h.obj rfl
  clear h
  subst hk
  go_enter Try.func28, Try.ntmps28
  go_wp2_with (with_reducible first | refine stop_append ?_ | refine stop_copy ?_ | refine stop_make ?_ | refine stop_lookup ?_ | refine stop_update ?_ | refine stop_slice ?_ | refine stop_range ?_ | refine stop_next ?_ | refine stop_convert ⟨_, rfl⟩ ?_ | refine stop_convertB ⟨_, _, _, rfl⟩ ?_ | refine stop_eqSlice ⟨_, _, rfl⟩ ?_ | refine stop_store ?_ | refine stop_alloc ?_ | refine stop_box ?_)
  refine step_box #[.int .i64 6, .int .i64 xf, .int .i64 xo, .int .i64 xt, .int .i64 xs, .int .i64 xn, .bool xb, .int .i64 r1, .int .i64 r2, .slice Ag tags.length cg, .string data, .int .i64 e0, .int .i64 e1, .slice Ac cut.length cc, .int .i64 e3, .int .i64 e4, .int .i64 e5, .int .i64 bal, .int .i64 old, .int .i64 tt, .slice Aq q.length cq, .slice As s.length cs] rfl ?_
  intro w1 o1 c1 s1
  have a0 := cell_obj (i := 0) o1 rfl
  have a1 := cell_obj (i := 1) o1 rfl
  have a3 := cell_obj (i := 3) o1 rfl
  have a5 := cell_obj (i := 5) o1 rfl
  replace p0 := c1.cell p0 (not_no _)
  replace p3 := c1.cell p3 (not_no _)
  replace p4 := c1.cell p4 (not_no _)
  have HO := Lib.hid (fun W (hW : Chg No w1 W) => hW.obj o1 (not_no _))
  have HC := Lib.hid (fun W (hW : Chg No w1 W) => c1.trans hW)
  clear o1 s1
  go_wp2_with (with_reducible first | refine stop_append ?_ | refine stop_copy ?_ | refine stop_make ?_ | refine stop_lookup ?_ | refine stop_update ?_ | refine stop_slice ?_ | refine stop_range ?_ | refine stop_next ?_ | refine stop_convert ⟨_, rfl⟩ ?_ | refine stop_convertB ⟨_, _, _, rfl⟩ ?_ | refine stop_eqSlice ⟨_, _, rfl⟩ ?_ | refine stop_store ?_ | refine stop_alloc ?_ | refine stop_box ?_)
  have cd := (Chg.refl No w1).drew
  have HK := Lib.hid (show ∀ W W', (fun W => W.cell? ⟨w.heap.size, 1, none⟩ = some (.int .i64 xf) ∧ W.cell? ⟨w.heap.size, 3, none⟩ = some (.int .i64 xt) ∧ W.cell? ⟨w.heap.size, 5, none⟩ = some (.int .i64 xn) ∧ W.cell? ⟨p, 0, none⟩ = some (.int .i64 st.t) ∧ W.cell? ⟨p, 3, none⟩ = some (.slice An st.nodes.length cn) ∧ W.cell? ⟨p, 4, none⟩ = some (.slice Al st.l.length cl) ∧ Chg No w1 W) W → Chg No W W' → (fun W => W.cell? ⟨w.heap.size, 1, none⟩ = some (.int .i64 xf) ∧ W.cell? ⟨w.heap.size, 3, none⟩ = some (.int .i64 xt) ∧ W.cell? ⟨w.heap.size, 5, none⟩ = some (.int .i64 xn) ∧ W.cell? ⟨p, 0, none⟩ = some (.int .i64 st.t) ∧ W.cell? ⟨p, 3, none⟩ = some (.slice An st.nodes.length cn) ∧ W.cell? ⟨p, 4, none⟩ = some (.slice Al st.l.length cl) ∧ Chg No w1 W) W' from fun W W' h hc => ⟨hc.cell h.1 (not_no _), hc.cell h.2.1 (not_no _), hc.cell h.2.2.1 (not_no _), hc.cell h.2.2.2.1 (not_no _), hc.cell h.2.2.2.2.1 (not_no _), hc.cell h.2.2.2.2.2.1 (not_no _), h.2.2.2.2.2.2.trans hc⟩)
  have HL := Lib.hid (fun W (h : (fun W => W.cell? ⟨w.heap.size, 1, none⟩ = some (.int .i64 xf) ∧ W.cell? ⟨w.heap.size, 3, none⟩ = some (.int .i64 xt) ∧ W.cell? ⟨w.heap.size, 5, none⟩ = some (.int .i64 xn) ∧ W.cell? ⟨p, 0, none⟩ = some (.int .i64 st.t) ∧ W.cell? ⟨p, 3, none⟩ = some (.slice An st.nodes.length cn) ∧ W.cell? ⟨p, 4, none⟩ = some (.slice Al st.l.length cl) ∧ Chg No w1 W) W) => cells_of_obj (HO.out W h.2.2.2.2.2.2))
  refine pl_start (fun W => W.cell? ⟨w.heap.size, 1, none⟩ = some (.int .i64 xf) ∧ W.cell? ⟨w.heap.size, 3, none⟩ = some (.int .i64 xt) ∧ W.cell? ⟨w.heap.size, 5, none⟩ = some (.int .i64 xn) ∧ W.cell? ⟨p, 0, none⟩ = some (.int .i64 st.t) ∧ W.cell? ⟨p, 3, none⟩ = some (.slice An st.nodes.length cn) ∧ W.cell? ⟨p, 4, none⟩ = some (.slice Al st.l.length cl) ∧ Chg No w1 W) (by kernel_rfl) (by kernel_rfl) ⟨cd.cell a1 (not_no _), cd.cell a3 (not_no _), cd.cell a5 (not_no _), cd.cell p0 (not_no _), cd.cell p3 (not_no _), cd.cell p4 (not_no _), cd⟩ ?_
  clear a0 a1 a3 a5 p0 p3 p4 cd
  iterate 3 ((refine pl_nx [3] (v := ?_) rfl (by kernel_rfl) rfl ?_ ?_; rotate_left; focus (intro W hW; (try dsimp only at hW); go_split_ands; go_simp; (try (simp (disch := omega) only [IntWalk.i64_in]; (try go_simp))); (try (split; (next => omega); (try go_simp))); try rfl; done)); try simp only [Act.put, List.setIfInBounds_toArray, List.set_cons_zero, List.set_cons_succ, Nat.reduceAdd])
  refine pl_yesx 3 (.agg #[.int .i64 6, .int .i64 xf, .int .i64 xo, .int .i64 xt, .int .i64 xs, .int .i64 xn, .bool xb, .int .i64 r1, .int .i64 r2, .slice Ag tags.length cg, .string data, .int .i64 e0, .int .i64 e1, .slice Ac cut.length cc, .int .i64 e3, .int .i64 e4, .int .i64 e5, .int .i64 bal, .int .i64 old, .int .i64 tt, .slice Aq q.length cq, .slice As s.length cs]) rfl (by kernel_rfl) rfl (by exact (fun W hW => run_load_at 79 _ rfl w.heap.size 0 rfl #[.int .i64 6, .int .i64 xf, .int .i64 xo, .int .i64 xt, .int .i64 xs, .int .i64 xn, .bool xb, .int .i64 r1, .int .i64 r2, .slice Ag tags.length cg, .string data, .int .i64 e0, .int .i64 e1, .slice Ac cut.length cc, .int .i64 e3, .int .i64 e4, .int .i64 e5, .int .i64 bal, .int .i64 old, .int .i64 tt, .slice Aq q.length cq, .slice As s.length cs] (HL.out W hW) Try.underlying79 rfl (by kernel_rfl))) ?_
  try simp only [Act.put, List.setIfInBounds_toArray, List.set_cons_zero, List.set_cons_succ, Nat.reduceAdd]
  refine pl_callx 4 (.bool true) rfl (by kernel_rfl) rfl (by exact (fun W hW => (Hr.out W (HC.out _ hW.2.2.2.2.2.2)).mono (fun e w' h => ⟨h.1, HK.out _ _ hW h.2⟩))) (fun W => by kernel_rfl) ?_
  try simp only [Act.put, List.setIfInBounds_toArray, List.set_cons_zero, List.set_cons_succ, Nat.reduceAdd]
  ((first | (refine pl_nn [] rfl (by kernel_rfl) rfl ?_) | (refine pl_nx [] (v := ?_) rfl (by kernel_rfl) rfl ?_ ?_; rotate_left; focus (intro W hW; (try dsimp only at hW); go_split_ands; go_simp; (try (simp (disch := omega) only [IntWalk.i64_in]; (try go_simp))); (try (split; (next => omega); (try go_simp))); try rfl; done))); try simp only [Act.put, List.setIfInBounds_toArray, List.set_cons_zero, List.set_cons_succ, Nat.reduceAdd])
  iterate 2 ((refine pl_nx [] (v := ?_) rfl (by kernel_rfl) rfl ?_ ?_; rotate_left; focus (intro W hW; (try dsimp only at hW); go_split_ands; go_simp; (try (simp (disch := omega) only [IntWalk.i64_in]; (try go_simp))); (try (split; (next => omega); (try go_simp))); try rfl; done)); try simp only [Act.put, List.setIfInBounds_toArray, List.set_cons_zero, List.set_cons_succ, Nat.reduceAdd])
  iterate 7 ((first | (refine pl_nn [] rfl (by kernel_rfl) rfl ?_) | (refine pl_nx [] (v := ?_) rfl (by kernel_rfl) rfl ?_ ?_; rotate_left; focus (intro W hW; (try dsimp only at hW); go_split_ands; go_simp; (try (simp (disch := omega) only [IntWalk.i64_in]; (try go_simp))); (try (split; (next => omega); (try go_simp))); try rfl; done))); try simp only [Act.put, List.setIfInBounds_toArray, List.set_cons_zero, List.set_cons_succ, Nat.reduceAdd])
  iterate 2 ((refine pl_nx [] (v := ?_) rfl (by kernel_rfl) rfl ?_ ?_; rotate_left; focus (intro W hW; (try dsimp only at hW); go_split_ands; go_simp; (try (simp (disch := omega) only [IntWalk.i64_in]; (try go_simp))); (try (split; (next => omega); (try go_simp))); try rfl; done)); try simp only [Act.put, List.setIfInBounds_toArray, List.set_cons_zero, List.set_cons_succ, Nat.reduceAdd])
  iterate 6 ((first | (refine pl_nn [] rfl (by kernel_rfl) rfl ?_) | (refine pl_nx [] (v := ?_) rfl (by kernel_rfl) rfl ?_ ?_; rotate_left; focus (intro W hW; (try dsimp only at hW); go_split_ands; go_simp; (try (simp (disch := omega) only [IntWalk.i64_in]; (try go_simp))); (try (split; (next => omega); (try go_simp))); try rfl; done))); try simp only [Act.put, List.setIfInBounds_toArray, List.set_cons_zero, List.set_cons_succ, Nat.reduceAdd])
  refine pl_nox 23 (by kernel_rfl) rfl rfl ?_
  try simp only [Act.put, List.setIfInBounds_toArray, List.set_cons_zero, List.set_cons_succ, Nat.reduceAdd]
  ((first | (refine pl_nn [] rfl (by kernel_rfl) rfl ?_) | (refine pl_nx [] (v := ?_) rfl (by kernel_rfl) rfl ?_ ?_; rotate_left; focus (intro W hW; (try dsimp only at hW); go_split_ands; go_simp; (try (simp (disch := omega) only [IntWalk.i64_in]; (try go_simp))); (try (split; (next => omega); (try go_simp))); try rfl; done))); try simp only [Act.put, List.setIfInBounds_toArray, List.set_cons_zero, List.set_cons_succ, Nat.reduceAdd])
  iterate 2 ((refine pl_nx [] (v := ?_) rfl (by kernel_rfl) rfl ?_ ?_; rotate_left; focus (intro W hW; (try dsimp only at hW); go_split_ands; go_simp; (try (simp (disch := omega) only [IntWalk.i64_in]; (try go_simp))); (try (split; (next => omega); (try go_simp))); try rfl; done)); try simp only [Act.put, List.setIfInBounds_toArray, List.set_cons_zero, List.set_cons_succ, Nat.reduceAdd])
  iterate 8 ((first | (refine pl_nn [] rfl (by kernel_rfl) rfl ?_) | (refine pl_nx [] (v := ?_) rfl (by kernel_rfl) rfl ?_ ?_; rotate_left; focus (intro W hW; (try dsimp only at hW); go_split_ands; go_simp; (try (simp (disch := omega) only [IntWalk.i64_in]; (try go_simp))); (try (split; (next => omega); (try go_simp))); try rfl; done))); try simp only [Act.put, List.setIfInBounds_toArray, List.set_cons_zero, List.set_cons_succ, Nat.reduceAdd])
  ((refine pl_nx [] (v := ?_) rfl (by kernel_rfl) rfl ?_ ?_; rotate_left; focus (intro W hW; (try dsimp only at hW); go_split_ands; go_simp; (try (simp (disch := omega) only [IntWalk.i64_in]; (try go_simp))); (try (split; (next => omega); (try go_simp))); try rfl; done)); try simp only [Act.put, List.setIfInBounds_toArray, List.set_cons_zero, List.set_cons_succ, Nat.reduceAdd])
  refine pl_done (by kernel_rfl)  ?_
  rintro w2 ⟨-, -, -, -, -, -, h2⟩
  have o1 := HO.out _ h2
  have h2 := HC.out _ h2
  clear HO HL HK
  go_wp2_with (with_reducible first | refine stop_append ?_ | refine stop_copy ?_ | refine stop_make ?_ | refine stop_lookup ?_ | refine stop_update ?_ | refine stop_slice ?_ | refine stop_range ?_ | refine stop_next ?_ | refine stop_convert ⟨_, rfl⟩ ?_ | refine stop_convertB ⟨_, _, _, rfl⟩ ?_ | refine stop_eqSlice ⟨_, _, rfl⟩ ?_)
  go_ret
  exact ⟨rfl, h2⟩
set_option maxRecDepth 100000 in
set_option maxHeartbeats 8000000 in
theorem heard_from4 (S : Nat → Prop) (p : Nat) (st : PSt) (xk xf xo xt xs xn r1 r2 e0 e1 e3 e4 e5 bal old tt : Int) (xb : Bool) (tags cut q : List Int) (s : List (List Int)) (data : ByteArray) (Ag Ac Aq As : Option Addr) (cg cc cq cs : Nat) (w : World) (h : Pri w S p st) (hb : st.nodes.length * 8 ≤ 140737488355328)
    (hk : xk = 4)
    (Hr : Hid (∀ W, Chg No w W → Calls Try.prog 48 #[.agg #[.int .i64 xk, .int .i64 xf, .int .i64 xo, .int .i64 xt, .int .i64 xs, .int .i64 xn, .bool xb, .int .i64 r1, .int .i64 r2, .slice Ag tags.length cg, .string data, .int .i64 e0, .int .i64 e1, .slice Ac cut.length cc, .int .i64 e3, .int .i64 e4, .int .i64 e5, .int .i64 bal, .int .i64 old, .int .i64 tt, .slice Aq q.length cq, .slice As s.length cs]] W fun e w' => e = .returned (.bool true) ∧ Chg No W w'))
    (ht : xt = st.t)
    (hf : decide (xf ∈ st.nodes) = false) :
    Calls Try.prog 28 #[.pointer (some ⟨p, 0, none⟩), .agg #[.int .i64 xk, .int .i64 xf, .int .i64 xo, .int .i64 xt, .int .i64 xs, .int .i64 xn, .bool xb, .int .i64 r1, .int .i64 r2, .slice Ag tags.length cg, .string data, .int .i64 e0, .int .i64 e1, .slice Ac cut.length cc, .int .i64 e3, .int .i64 e4, .int .i64 e5, .int .i64 bal, .int .i64 old, .int .i64 tt, .slice Aq q.length cq, .slice As s.length cs]] w fun e w' => e = .returned (.bool false) ∧ Chg No w w' := by
  obtain ⟨r, vn, vl, vz, h⟩ := h
  have H := Lib.hid h
  have Hin := Lib.hid (fun W (hW : Chg No w W) => lcontains_any _ vn st.nodes xf W (h.nodes.keepNo hW) hb)
  obtain ⟨An, cn, rfl⟩ := h.nodes.slice
  obtain ⟨Al, cl, rfl⟩ := h.l.slice
  have p0 := cell_obj (i := 0) h.obj rfl
  have p3 := cell_obj (i := 3) h.obj rfl
  have p4 := cell_obj (i := 4) h.obj rfl
  clear h
  subst hk
  rw [hf] at Hin
  clear hf
  subst ht
  go_enter Try.func28, Try.ntmps28
  go_wp2_with (with_reducible first | refine stop_append ?_ | refine stop_copy ?_ | refine stop_make ?_ | refine stop_lookup ?_ | refine stop_update ?_ | refine stop_slice ?_ | refine stop_range ?_ | refine stop_next ?_ | refine stop_convert ⟨_, rfl⟩ ?_ | refine stop_convertB ⟨_, _, _, rfl⟩ ?_ | refine stop_eqSlice ⟨_, _, rfl⟩ ?_ | refine stop_store ?_ | refine stop_alloc ?_ | refine stop_box ?_)
  refine step_box #[.int .i64 4, .int .i64 xf, .int .i64 xo, .int .i64 st.t, .int .i64 xs, .int .i64 xn, .bool xb, .int .i64 r1, .int .i64 r2, .slice Ag tags.length cg, .string data, .int .i64 e0, .int .i64 e1, .slice Ac cut.length cc, .int .i64 e3, .int .i64 e4, .int .i64 e5, .int .i64 bal, .int .i64 old, .int .i64 tt, .slice Aq q.length cq, .slice As s.length cs] rfl ?_
  intro w1 o1 c1 s1
  have a0 := cell_obj (i := 0) o1 rfl
  have a1 := cell_obj (i := 1) o1 rfl
  have a3 := cell_obj (i := 3) o1 rfl
  have a5 := cell_obj (i := 5) o1 rfl
  replace p0 := c1.cell p0 (not_no _)
  replace p3 := c1.cell p3 (not_no _)
  replace p4 := c1.cell p4 (not_no _)
  have HO := Lib.hid (fun W (hW : Chg No w1 W) => hW.obj o1 (not_no _))
  have HC := Lib.hid (fun W (hW : Chg No w1 W) => c1.trans hW)
  clear o1 s1
  go_wp2_with (with_reducible first | refine stop_append ?_ | refine stop_copy ?_ | refine stop_make ?_ | refine stop_lookup ?_ | refine stop_update ?_ | refine stop_slice ?_ | refine stop_range ?_ | refine stop_next ?_ | refine stop_convert ⟨_, rfl⟩ ?_ | refine stop_convertB ⟨_, _, _, rfl⟩ ?_ | refine stop_eqSlice ⟨_, _, rfl⟩ ?_ | refine stop_store ?_ | refine stop_alloc ?_ | refine stop_box ?_)
  have cd := (Chg.refl No w1).drew
  have HK := Lib.hid (show ∀ W W', (fun W => W.cell? ⟨w.heap.size, 1, none⟩ = some (.int .i64 xf) ∧ W.cell? ⟨w.heap.size, 3, none⟩ = some (.int .i64 st.t) ∧ W.cell? ⟨w.heap.size, 5, none⟩ = some (.int .i64 xn) ∧ W.cell? ⟨p, 0, none⟩ = some (.int .i64 st.t) ∧ W.cell? ⟨p, 3, none⟩ = some (.slice An st.nodes.length cn) ∧ W.cell? ⟨p, 4, none⟩ = some (.slice Al st.l.length cl) ∧ Chg No w1 W) W → Chg No W W' → (fun W => W.cell? ⟨w.heap.size, 1, none⟩ = some (.int .i64 xf) ∧ W.cell? ⟨w.heap.size, 3, none⟩ = some (.int .i64 st.t) ∧ W.cell? ⟨w.heap.size, 5, none⟩ = some (.int .i64 xn) ∧ W.cell? ⟨p, 0, none⟩ = some (.int .i64 st.t) ∧ W.cell? ⟨p, 3, none⟩ = some (.slice An st.nodes.length cn) ∧ W.cell? ⟨p, 4, none⟩ = some (.slice Al st.l.length cl) ∧ Chg No w1 W) W' from fun W W' h hc => ⟨hc.cell h.1 (not_no _), hc.cell h.2.1 (not_no _), hc.cell h.2.2.1 (not_no _), hc.cell h.2.2.2.1 (not_no _), hc.cell h.2.2.2.2.1 (not_no _), hc.cell h.2.2.2.2.2.1 (not_no _), h.2.2.2.2.2.2.trans hc⟩)
  have HL := Lib.hid (fun W (h : (fun W => W.cell? ⟨w.heap.size, 1, none⟩ = some (.int .i64 xf) ∧ W.cell? ⟨w.heap.size, 3, none⟩ = some (.int .i64 st.t) ∧ W.cell? ⟨w.heap.size, 5, none⟩ = some (.int .i64 xn) ∧ W.cell? ⟨p, 0, none⟩ = some (.int .i64 st.t) ∧ W.cell? ⟨p, 3, none⟩ = some (.slice An st.nodes.length cn) ∧ W.cell? ⟨p, 4, none⟩ = some (.slice Al st.l.length cl) ∧ Chg No w1 W) W) => cells_of_obj (HO.out W h.2.2.2.2.2.2))
  refine pl_start (fun W => W.cell? ⟨w.heap.size, 1, none⟩ = some (.int .i64 xf) ∧ W.cell? ⟨w.heap.size, 3, none⟩ = some (.int .i64 st.t) ∧ W.cell? ⟨w.heap.size, 5, none⟩ = some (.int .i64 xn) ∧ W.cell? ⟨p, 0, none⟩ = some (.int .i64 st.t) ∧ W.cell? ⟨p, 3, none⟩ = some (.slice An st.nodes.length cn) ∧ W.cell? ⟨p, 4, none⟩ = some (.slice Al st.l.length cl) ∧ Chg No w1 W) (by kernel_rfl) (by kernel_rfl) ⟨cd.cell a1 (not_no _), cd.cell a3 (not_no _), cd.cell a5 (not_no _), cd.cell p0 (not_no _), cd.cell p3 (not_no _), cd.cell p4 (not_no _), cd⟩ ?_
  clear a0 a1 a3 a5 p0 p3 p4 cd
  iterate 3 ((refine pl_nx [3] (v := ?_) rfl (by kernel_rfl) rfl ?_ ?_; rotate_left; focus (intro W hW; (try dsimp only at hW); go_split_ands; go_simp; (try (simp (disch := omega) only [IntWalk.i64_in]; (try go_simp))); (try (split; (next => omega); (try go_simp))); try rfl; done)); try simp only [Act.put, List.setIfInBounds_toArray, List.set_cons_zero, List.set_cons_succ, Nat.reduceAdd])
  refine pl_yesx 3 (.agg #[.int .i64 4, .int .i64 xf, .int .i64 xo, .int .i64 st.t, .int .i64 xs, .int .i64 xn, .bool xb, .int .i64 r1, .int .i64 r2, .slice Ag tags.length cg, .string data, .int .i64 e0, .int .i64 e1, .slice Ac cut.length cc, .int .i64 e3, .int .i64 e4, .int .i64 e5, .int .i64 bal, .int .i64 old, .int .i64 tt, .slice Aq q.length cq, .slice As s.length cs]) rfl (by kernel_rfl) rfl (by exact (fun W hW => run_load_at 79 _ rfl w.heap.size 0 rfl #[.int .i64 4, .int .i64 xf, .int .i64 xo, .int .i64 st.t, .int .i64 xs, .int .i64 xn, .bool xb, .int .i64 r1, .int .i64 r2, .slice Ag tags.length cg, .string data, .int .i64 e0, .int .i64 e1, .slice Ac cut.length cc, .int .i64 e3, .int .i64 e4, .int .i64 e5, .int .i64 bal, .int .i64 old, .int .i64 tt, .slice Aq q.length cq, .slice As s.length cs] (HL.out W hW) Try.underlying79 rfl (by kernel_rfl))) ?_
  try simp only [Act.put, List.setIfInBounds_toArray, List.set_cons_zero, List.set_cons_succ, Nat.reduceAdd]
  refine pl_callx 4 (.bool true) rfl (by kernel_rfl) rfl (by exact (fun W hW => (Hr.out W (HC.out _ hW.2.2.2.2.2.2)).mono (fun e w' h => ⟨h.1, HK.out _ _ hW h.2⟩))) (fun W => by kernel_rfl) ?_
  try simp only [Act.put, List.setIfInBounds_toArray, List.set_cons_zero, List.set_cons_succ, Nat.reduceAdd]
  ((first | (refine pl_nn [] rfl (by kernel_rfl) rfl ?_) | (refine pl_nx [] (v := ?_) rfl (by kernel_rfl) rfl ?_ ?_; rotate_left; focus (intro W hW; (try dsimp only at hW); go_split_ands; go_simp; (try (simp (disch := omega) only [IntWalk.i64_in]; (try go_simp))); (try (split; (next => omega); (try go_simp))); try rfl; done))); try simp only [Act.put, List.setIfInBounds_toArray, List.set_cons_zero, List.set_cons_succ, Nat.reduceAdd])
  iterate 2 ((refine pl_nx [] (v := ?_) rfl (by kernel_rfl) rfl ?_ ?_; rotate_left; focus (intro W hW; (try dsimp only at hW); go_split_ands; go_simp; (try (simp (disch := omega) only [IntWalk.i64_in]; (try go_simp))); (try (split; (next => omega); (try go_simp))); try rfl; done)); try simp only [Act.put, List.setIfInBounds_toArray, List.set_cons_zero, List.set_cons_succ, Nat.reduceAdd])
  iterate 7 ((first | (refine pl_nn [] rfl (by kernel_rfl) rfl ?_) | (refine pl_nx [] (v := ?_) rfl (by kernel_rfl) rfl ?_ ?_; rotate_left; focus (intro W hW; (try dsimp only at hW); go_split_ands; go_simp; (try (simp (disch := omega) only [IntWalk.i64_in]; (try go_simp))); (try (split; (next => omega); (try go_simp))); try rfl; done))); try simp only [Act.put, List.setIfInBounds_toArray, List.set_cons_zero, List.set_cons_succ, Nat.reduceAdd])
  iterate 2 ((refine pl_nx [] (v := ?_) rfl (by kernel_rfl) rfl ?_ ?_; rotate_left; focus (intro W hW; (try dsimp only at hW); go_split_ands; go_simp; (try (simp (disch := omega) only [IntWalk.i64_in]; (try go_simp))); (try (split; (next => omega); (try go_simp))); try rfl; done)); try simp only [Act.put, List.setIfInBounds_toArray, List.set_cons_zero, List.set_cons_succ, Nat.reduceAdd])
  iterate 6 ((first | (refine pl_nn [] rfl (by kernel_rfl) rfl ?_) | (refine pl_nx [] (v := ?_) rfl (by kernel_rfl) rfl ?_ ?_; rotate_left; focus (intro W hW; (try dsimp only at hW); go_split_ands; go_simp; (try (simp (disch := omega) only [IntWalk.i64_in]; (try go_simp))); (try (split; (next => omega); (try go_simp))); try rfl; done))); try simp only [Act.put, List.setIfInBounds_toArray, List.set_cons_zero, List.set_cons_succ, Nat.reduceAdd])
  refine pl_callx 23 (.bool false) rfl (by kernel_rfl) rfl (by exact (fun W hW => (Hin.out W (HC.out _ hW.2.2.2.2.2.2)).mono (fun e w' h => ⟨h.1, HK.out _ _ hW h.2⟩))) (fun W => by kernel_rfl) ?_
  try simp only [Act.put, List.setIfInBounds_toArray, List.set_cons_zero, List.set_cons_succ, Nat.reduceAdd]
  ((first | (refine pl_nn [] rfl (by kernel_rfl) rfl ?_) | (refine pl_nx [] (v := ?_) rfl (by kernel_rfl) rfl ?_ ?_; rotate_left; focus (intro W hW; (try dsimp only at hW); go_split_ands; go_simp; (try (simp (disch := omega) only [IntWalk.i64_in]; (try go_simp))); (try (split; (next => omega); (try go_simp))); try rfl; done))); try simp only [Act.put, List.setIfInBounds_toArray, List.set_cons_zero, List.set_cons_succ, Nat.reduceAdd])
  iterate 2 ((refine pl_nx [] (v := ?_) rfl (by kernel_rfl) rfl ?_ ?_; rotate_left; focus (intro W hW; (try dsimp only at hW); go_split_ands; go_simp; (try (simp (disch := omega) only [IntWalk.i64_in]; (try go_simp))); (try (split; (next => omega); (try go_simp))); try rfl; done)); try simp only [Act.put, List.setIfInBounds_toArray, List.set_cons_zero, List.set_cons_succ, Nat.reduceAdd])
  iterate 8 ((first | (refine pl_nn [] rfl (by kernel_rfl) rfl ?_) | (refine pl_nx [] (v := ?_) rfl (by kernel_rfl) rfl ?_ ?_; rotate_left; focus (intro W hW; (try dsimp only at hW); go_split_ands; go_simp; (try (simp (disch := omega) only [IntWalk.i64_in]; (try go_simp))); (try (split; (next => omega); (try go_simp))); try rfl; done))); try simp only [Act.put, List.setIfInBounds_toArray, List.set_cons_zero, List.set_cons_succ, Nat.reduceAdd])
  ((refine pl_nx [] (v := ?_) rfl (by kernel_rfl) rfl ?_ ?_; rotate_left; focus (intro W hW; (try dsimp only at hW); go_split_ands; go_simp; (try (simp (disch := omega) only [IntWalk.i64_in]; (try go_simp))); (try (split; (next => omega); (try go_simp))); try rfl; done)); try simp only [Act.put, List.setIfInBounds_toArray, List.set_cons_zero, List.set_cons_succ, Nat.reduceAdd])
  refine pl_done (by kernel_rfl)  ?_
  rintro w2 ⟨-, -, -, -, -, -, h2⟩
  have o1 := HO.out _ h2
  have h2 := HC.out _ h2
  clear HO HL HK
  go_wp2_with (with_reducible first | refine stop_append ?_ | refine stop_copy ?_ | refine stop_make ?_ | refine stop_lookup ?_ | refine stop_update ?_ | refine stop_slice ?_ | refine stop_range ?_ | refine stop_next ?_ | refine stop_convert ⟨_, rfl⟩ ?_ | refine stop_convertB ⟨_, _, _, rfl⟩ ?_ | refine stop_eqSlice ⟨_, _, rfl⟩ ?_)
  go_ret
  exact ⟨rfl, h2⟩
set_option maxRecDepth 100000 in
set_option maxHeartbeats 8000000 in
theorem heard_from6 (S : Nat → Prop) (p : Nat) (st : PSt) (xk xf xo xt xs xn r1 r2 e0 e1 e3 e4 e5 bal old tt : Int) (xb : Bool) (tags cut q : List Int) (s : List (List Int)) (data : ByteArray) (Ag Ac Aq As : Option Addr) (cg cc cq cs : Nat) (w : World) (h : Pri w S p st) (hb : st.nodes.length * 8 ≤ 140737488355328)
    (hk : xk = 6)
    (Hr : Hid (∀ W, Chg No w W → Calls Try.prog 48 #[.agg #[.int .i64 xk, .int .i64 xf, .int .i64 xo, .int .i64 xt, .int .i64 xs, .int .i64 xn, .bool xb, .int .i64 r1, .int .i64 r2, .slice Ag tags.length cg, .string data, .int .i64 e0, .int .i64 e1, .slice Ac cut.length cc, .int .i64 e3, .int .i64 e4, .int .i64 e5, .int .i64 bal, .int .i64 old, .int .i64 tt, .slice Aq q.length cq, .slice As s.length cs]] W fun e w' => e = .returned (.bool true) ∧ Chg No W w'))
    (ht : xt = st.t)
    (hf : decide (xf ∈ st.nodes) = false) :
    Calls Try.prog 28 #[.pointer (some ⟨p, 0, none⟩), .agg #[.int .i64 xk, .int .i64 xf, .int .i64 xo, .int .i64 xt, .int .i64 xs, .int .i64 xn, .bool xb, .int .i64 r1, .int .i64 r2, .slice Ag tags.length cg, .string data, .int .i64 e0, .int .i64 e1, .slice Ac cut.length cc, .int .i64 e3, .int .i64 e4, .int .i64 e5, .int .i64 bal, .int .i64 old, .int .i64 tt, .slice Aq q.length cq, .slice As s.length cs]] w fun e w' => e = .returned (.bool false) ∧ Chg No w w' := by
  obtain ⟨r, vn, vl, vz, h⟩ := h
  have H := Lib.hid h
  have Hin := Lib.hid (fun W (hW : Chg No w W) => lcontains_any _ vn st.nodes xf W (h.nodes.keepNo hW) hb)
  obtain ⟨An, cn, rfl⟩ := h.nodes.slice
  obtain ⟨Al, cl, rfl⟩ := h.l.slice
  have p0 := cell_obj (i := 0) h.obj rfl
  have p3 := cell_obj (i := 3) h.obj rfl
  have p4 := cell_obj (i := 4) h.obj rfl
  clear h
  subst hk
  rw [hf] at Hin
  clear hf
  subst ht
  go_enter Try.func28, Try.ntmps28
  go_wp2_with (with_reducible first | refine stop_append ?_ | refine stop_copy ?_ | refine stop_make ?_ | refine stop_lookup ?_ | refine stop_update ?_ | refine stop_slice ?_ | refine stop_range ?_ | refine stop_next ?_ | refine stop_convert ⟨_, rfl⟩ ?_ | refine stop_convertB ⟨_, _, _, rfl⟩ ?_ | refine stop_eqSlice ⟨_, _, rfl⟩ ?_ | refine stop_store ?_ | refine stop_alloc ?_ | refine stop_box ?_)
  refine step_box #[.int .i64 6, .int .i64 xf, .int .i64 xo, .int .i64 st.t, .int .i64 xs, .int .i64 xn, .bool xb, .int .i64 r1, .int .i64 r2, .slice Ag tags.length cg, .string data, .int .i64 e0, .int .i64 e1, .slice Ac cut.length cc, .int .i64 e3, .int .i64 e4, .int .i64 e5, .int .i64 bal, .int .i64 old, .int .i64 tt, .slice Aq q.length cq, .slice As s.length cs] rfl ?_
  intro w1 o1 c1 s1
  have a0 := cell_obj (i := 0) o1 rfl
  have a1 := cell_obj (i := 1) o1 rfl
  have a3 := cell_obj (i := 3) o1 rfl
  have a5 := cell_obj (i := 5) o1 rfl
  replace p0 := c1.cell p0 (not_no _)
  replace p3 := c1.cell p3 (not_no _)
  replace p4 := c1.cell p4 (not_no _)
  have HO := Lib.hid (fun W (hW : Chg No w1 W) => hW.obj o1 (not_no _))
  have HC := Lib.hid (fun W (hW : Chg No w1 W) => c1.trans hW)
  clear o1 s1
  go_wp2_with (with_reducible first | refine stop_append ?_ | refine stop_copy ?_ | refine stop_make ?_ | refine stop_lookup ?_ | refine stop_update ?_ | refine stop_slice ?_ | refine stop_range ?_ | refine stop_next ?_ | refine stop_convert ⟨_, rfl⟩ ?_ | refine stop_convertB ⟨_, _, _, rfl⟩ ?_ | refine stop_eqSlice ⟨_, _, rfl⟩ ?_ | refine stop_store ?_ | refine stop_alloc ?_ | refine stop_box ?_)
  have cd := (Chg.refl No w1).drew
  have HK := Lib.hid (show ∀ W W', (fun W => W.cell? ⟨w.heap.size, 1, none⟩ = some (.int .i64 xf) ∧ W.cell? ⟨w.heap.size, 3, none⟩ = some (.int .i64 st.t) ∧ W.cell? ⟨w.heap.size, 5, none⟩ = some (.int .i64 xn) ∧ W.cell? ⟨p, 0, none⟩ = some (.int .i64 st.t) ∧ W.cell? ⟨p, 3, none⟩ = some (.slice An st.nodes.length cn) ∧ W.cell? ⟨p, 4, none⟩ = some (.slice Al st.l.length cl) ∧ Chg No w1 W) W → Chg No W W' → (fun W => W.cell? ⟨w.heap.size, 1, none⟩ = some (.int .i64 xf) ∧ W.cell? ⟨w.heap.size, 3, none⟩ = some (.int .i64 st.t) ∧ W.cell? ⟨w.heap.size, 5, none⟩ = some (.int .i64 xn) ∧ W.cell? ⟨p, 0, none⟩ = some (.int .i64 st.t) ∧ W.cell? ⟨p, 3, none⟩ = some (.slice An st.nodes.length cn) ∧ W.cell? ⟨p, 4, none⟩ = some (.slice Al st.l.length cl) ∧ Chg No w1 W) W' from fun W W' h hc => ⟨hc.cell h.1 (not_no _), hc.cell h.2.1 (not_no _), hc.cell h.2.2.1 (not_no _), hc.cell h.2.2.2.1 (not_no _), hc.cell h.2.2.2.2.1 (not_no _), hc.cell h.2.2.2.2.2.1 (not_no _), h.2.2.2.2.2.2.trans hc⟩)
  have HL := Lib.hid (fun W (h : (fun W => W.cell? ⟨w.heap.size, 1, none⟩ = some (.int .i64 xf) ∧ W.cell? ⟨w.heap.size, 3, none⟩ = some (.int .i64 st.t) ∧ W.cell? ⟨w.heap.size, 5, none⟩ = some (.int .i64 xn) ∧ W.cell? ⟨p, 0, none⟩ = some (.int .i64 st.t) ∧ W.cell? ⟨p, 3, none⟩ = some (.slice An st.nodes.length cn) ∧ W.cell? ⟨p, 4, none⟩ = some (.slice Al st.l.length cl) ∧ Chg No w1 W) W) => cells_of_obj (HO.out W h.2.2.2.2.2.2))
  refine pl_start (fun W => W.cell? ⟨w.heap.size, 1, none⟩ = some (.int .i64 xf) ∧ W.cell? ⟨w.heap.size, 3, none⟩ = some (.int .i64 st.t) ∧ W.cell? ⟨w.heap.size, 5, none⟩ = some (.int .i64 xn) ∧ W.cell? ⟨p, 0, none⟩ = some (.int .i64 st.t) ∧ W.cell? ⟨p, 3, none⟩ = some (.slice An st.nodes.length cn) ∧ W.cell? ⟨p, 4, none⟩ = some (.slice Al st.l.length cl) ∧ Chg No w1 W) (by kernel_rfl) (by kernel_rfl) ⟨cd.cell a1 (not_no _), cd.cell a3 (not_no _), cd.cell a5 (not_no _), cd.cell p0 (not_no _), cd.cell p3 (not_no _), cd.cell p4 (not_no _), cd⟩ ?_
  clear a0 a1 a3 a5 p0 p3 p4 cd
  iterate 3 ((refine pl_nx [3] (v := ?_) rfl (by kernel_rfl) rfl ?_ ?_; rotate_left; focus (intro W hW; (try dsimp only at hW); go_split_ands; go_simp; (try (simp (disch := omega) only [IntWalk.i64_in]; (try go_simp))); (try (split; (next => omega); (try go_simp))); try rfl; done)); try simp only [Act.put, List.setIfInBounds_toArray, List.set_cons_zero, List.set_cons_succ, Nat.reduceAdd])
  refine pl_yesx 3 (.agg #[.int .i64 6, .int .i64 xf, .int .i64 xo, .int .i64 st.t, .int .i64 xs, .int .i64 xn, .bool xb, .int .i64 r1, .int .i64 r2, .slice Ag tags.length cg, .string data, .int .i64 e0, .int .i64 e1, .slice Ac cut.length cc, .int .i64 e3, .int .i64 e4, .int .i64 e5, .int .i64 bal, .int .i64 old, .int .i64 tt, .slice Aq q.length cq, .slice As s.length cs]) rfl (by kernel_rfl) rfl (by exact (fun W hW => run_load_at 79 _ rfl w.heap.size 0 rfl #[.int .i64 6, .int .i64 xf, .int .i64 xo, .int .i64 st.t, .int .i64 xs, .int .i64 xn, .bool xb, .int .i64 r1, .int .i64 r2, .slice Ag tags.length cg, .string data, .int .i64 e0, .int .i64 e1, .slice Ac cut.length cc, .int .i64 e3, .int .i64 e4, .int .i64 e5, .int .i64 bal, .int .i64 old, .int .i64 tt, .slice Aq q.length cq, .slice As s.length cs] (HL.out W hW) Try.underlying79 rfl (by kernel_rfl))) ?_
  try simp only [Act.put, List.setIfInBounds_toArray, List.set_cons_zero, List.set_cons_succ, Nat.reduceAdd]
  refine pl_callx 4 (.bool true) rfl (by kernel_rfl) rfl (by exact (fun W hW => (Hr.out W (HC.out _ hW.2.2.2.2.2.2)).mono (fun e w' h => ⟨h.1, HK.out _ _ hW h.2⟩))) (fun W => by kernel_rfl) ?_
  try simp only [Act.put, List.setIfInBounds_toArray, List.set_cons_zero, List.set_cons_succ, Nat.reduceAdd]
  ((first | (refine pl_nn [] rfl (by kernel_rfl) rfl ?_) | (refine pl_nx [] (v := ?_) rfl (by kernel_rfl) rfl ?_ ?_; rotate_left; focus (intro W hW; (try dsimp only at hW); go_split_ands; go_simp; (try (simp (disch := omega) only [IntWalk.i64_in]; (try go_simp))); (try (split; (next => omega); (try go_simp))); try rfl; done))); try simp only [Act.put, List.setIfInBounds_toArray, List.set_cons_zero, List.set_cons_succ, Nat.reduceAdd])
  iterate 2 ((refine pl_nx [] (v := ?_) rfl (by kernel_rfl) rfl ?_ ?_; rotate_left; focus (intro W hW; (try dsimp only at hW); go_split_ands; go_simp; (try (simp (disch := omega) only [IntWalk.i64_in]; (try go_simp))); (try (split; (next => omega); (try go_simp))); try rfl; done)); try simp only [Act.put, List.setIfInBounds_toArray, List.set_cons_zero, List.set_cons_succ, Nat.reduceAdd])
  iterate 7 ((first | (refine pl_nn [] rfl (by kernel_rfl) rfl ?_) | (refine pl_nx [] (v := ?_) rfl (by kernel_rfl) rfl ?_ ?_; rotate_left; focus (intro W hW; (try dsimp only at hW); go_split_ands; go_simp; (try (simp (disch := omega) only [IntWalk.i64_in]; (try go_simp))); (try (split; (next => omega); (try go_simp))); try rfl; done))); try simp only [Act.put, List.setIfInBounds_toArray, List.set_cons_zero, List.set_cons_succ, Nat.reduceAdd])
  iterate 2 ((refine pl_nx [] (v := ?_) rfl (by kernel_rfl) rfl ?_ ?_; rotate_left; focus (intro W hW; (try dsimp only at hW); go_split_ands; go_simp; (try (simp (disch := omega) only [IntWalk.i64_in]; (try go_simp))); (try (split; (next => omega); (try go_simp))); try rfl; done)); try simp only [Act.put, List.setIfInBounds_toArray, List.set_cons_zero, List.set_cons_succ, Nat.reduceAdd])
  iterate 6 ((first | (refine pl_nn [] rfl (by kernel_rfl) rfl ?_) | (refine pl_nx [] (v := ?_) rfl (by kernel_rfl) rfl ?_ ?_; rotate_left; focus (intro W hW; (try dsimp only at hW); go_split_ands; go_simp; (try (simp (disch := omega) only [IntWalk.i64_in]; (try go_simp))); (try (split; (next => omega); (try go_simp))); try rfl; done))); try simp only [Act.put, List.setIfInBounds_toArray, List.set_cons_zero, List.set_cons_succ, Nat.reduceAdd])
  refine pl_callx 23 (.bool false) rfl (by kernel_rfl) rfl (by exact (fun W hW => (Hin.out W (HC.out _ hW.2.2.2.2.2.2)).mono (fun e w' h => ⟨h.1, HK.out _ _ hW h.2⟩))) (fun W => by kernel_rfl) ?_
  try simp only [Act.put, List.setIfInBounds_toArray, List.set_cons_zero, List.set_cons_succ, Nat.reduceAdd]
  ((first | (refine pl_nn [] rfl (by kernel_rfl) rfl ?_) | (refine pl_nx [] (v := ?_) rfl (by kernel_rfl) rfl ?_ ?_; rotate_left; focus (intro W hW; (try dsimp only at hW); go_split_ands; go_simp; (try (simp (disch := omega) only [IntWalk.i64_in]; (try go_simp))); (try (split; (next => omega); (try go_simp))); try rfl; done))); try simp only [Act.put, List.setIfInBounds_toArray, List.set_cons_zero, List.set_cons_succ, Nat.reduceAdd])
  iterate 2 ((refine pl_nx [] (v := ?_) rfl (by kernel_rfl) rfl ?_ ?_; rotate_left; focus (intro W hW; (try dsimp only at hW); go_split_ands; go_simp; (try (simp (disch := omega) only [IntWalk.i64_in]; (try go_simp))); (try (split; (next => omega); (try go_simp))); try rfl; done)); try simp only [Act.put, List.setIfInBounds_toArray, List.set_cons_zero, List.set_cons_succ, Nat.reduceAdd])
  iterate 8 ((first | (refine pl_nn [] rfl (by kernel_rfl) rfl ?_) | (refine pl_nx [] (v := ?_) rfl (by kernel_rfl) rfl ?_ ?_; rotate_left; focus (intro W hW; (try dsimp only at hW); go_split_ands; go_simp; (try (simp (disch := omega) only [IntWalk.i64_in]; (try go_simp))); (try (split; (next => omega); (try go_simp))); try rfl; done))); try simp only [Act.put, List.setIfInBounds_toArray, List.set_cons_zero, List.set_cons_succ, Nat.reduceAdd])
  ((refine pl_nx [] (v := ?_) rfl (by kernel_rfl) rfl ?_ ?_; rotate_left; focus (intro W hW; (try dsimp only at hW); go_split_ands; go_simp; (try (simp (disch := omega) only [IntWalk.i64_in]; (try go_simp))); (try (split; (next => omega); (try go_simp))); try rfl; done)); try simp only [Act.put, List.setIfInBounds_toArray, List.set_cons_zero, List.set_cons_succ, Nat.reduceAdd])
  refine pl_done (by kernel_rfl)  ?_
  rintro w2 ⟨-, -, -, -, -, -, h2⟩
  have o1 := HO.out _ h2
  have h2 := HC.out _ h2
  clear HO HL HK
  go_wp2_with (with_reducible first | refine stop_append ?_ | refine stop_copy ?_ | refine stop_make ?_ | refine stop_lookup ?_ | refine stop_update ?_ | refine stop_slice ?_ | refine stop_range ?_ | refine stop_next ?_ | refine stop_convert ⟨_, rfl⟩ ?_ | refine stop_convertB ⟨_, _, _, rfl⟩ ?_ | refine stop_eqSlice ⟨_, _, rfl⟩ ?_)
  go_ret
  exact ⟨rfl, h2⟩
set_option maxRecDepth 100000 in
set_option maxHeartbeats 8000000 in
theorem heard_number4 (S : Nat → Prop) (p : Nat) (st : PSt) (xk xf xo xt xs xn r1 r2 e0 e1 e3 e4 e5 bal old tt : Int) (xb : Bool) (tags cut q : List Int) (s : List (List Int)) (data : ByteArray) (Ag Ac Aq As : Option Addr) (cg cc cq cs : Nat) (w : World) (h : Pri w S p st) (hb : st.nodes.length * 8 ≤ 140737488355328)
    (hk : xk = 4)
    (Hr : Hid (∀ W, Chg No w W → Calls Try.prog 48 #[.agg #[.int .i64 xk, .int .i64 xf, .int .i64 xo, .int .i64 xt, .int .i64 xs, .int .i64 xn, .bool xb, .int .i64 r1, .int .i64 r2, .slice Ag tags.length cg, .string data, .int .i64 e0, .int .i64 e1, .slice Ac cut.length cc, .int .i64 e3, .int .i64 e4, .int .i64 e5, .int .i64 bal, .int .i64 old, .int .i64 tt, .slice Aq q.length cq, .slice As s.length cs]] W fun e w' => e = .returned (.bool true) ∧ Chg No W w'))
    (ht : xt = st.t)
    (hf : decide (xf ∈ st.nodes) = true)
    (hn : (st.l.length : Int) < xn) :
    Calls Try.prog 28 #[.pointer (some ⟨p, 0, none⟩), .agg #[.int .i64 xk, .int .i64 xf, .int .i64 xo, .int .i64 xt, .int .i64 xs, .int .i64 xn, .bool xb, .int .i64 r1, .int .i64 r2, .slice Ag tags.length cg, .string data, .int .i64 e0, .int .i64 e1, .slice Ac cut.length cc, .int .i64 e3, .int .i64 e4, .int .i64 e5, .int .i64 bal, .int .i64 old, .int .i64 tt, .slice Aq q.length cq, .slice As s.length cs]] w fun e w' => e = .returned (.bool false) ∧ Chg No w w' := by
  obtain ⟨r, vn, vl, vz, h⟩ := h
  have H := Lib.hid h
  have Hin := Lib.hid (fun W (hW : Chg No w W) => lcontains_any _ vn st.nodes xf W (h.nodes.keepNo hW) hb)
  obtain ⟨An, cn, rfl⟩ := h.nodes.slice
  obtain ⟨Al, cl, rfl⟩ := h.l.slice
  have p0 := cell_obj (i := 0) h.obj rfl
  have p3 := cell_obj (i := 3) h.obj rfl
  have p4 := cell_obj (i := 4) h.obj rfl
  clear h
  subst hk
  rw [hf] at Hin
  clear hf
  subst ht
  go_enter Try.func28, Try.ntmps28
  go_wp2_with (with_reducible first | refine stop_append ?_ | refine stop_copy ?_ | refine stop_make ?_ | refine stop_lookup ?_ | refine stop_update ?_ | refine stop_slice ?_ | refine stop_range ?_ | refine stop_next ?_ | refine stop_convert ⟨_, rfl⟩ ?_ | refine stop_convertB ⟨_, _, _, rfl⟩ ?_ | refine stop_eqSlice ⟨_, _, rfl⟩ ?_ | refine stop_store ?_ | refine stop_alloc ?_ | refine stop_box ?_)
  refine step_box #[.int .i64 4, .int .i64 xf, .int .i64 xo, .int .i64 st.t, .int .i64 xs, .int .i64 xn, .bool xb, .int .i64 r1, .int .i64 r2, .slice Ag tags.length cg, .string data, .int .i64 e0, .int .i64 e1, .slice Ac cut.length cc, .int .i64 e3, .int .i64 e4, .int .i64 e5, .int .i64 bal, .int .i64 old, .int .i64 tt, .slice Aq q.length cq, .slice As s.length cs] rfl ?_
  intro w1 o1 c1 s1
  have a0 := cell_obj (i := 0) o1 rfl
  have a1 := cell_obj (i := 1) o1 rfl
  have a3 := cell_obj (i := 3) o1 rfl
  have a5 := cell_obj (i := 5) o1 rfl
  replace p0 := c1.cell p0 (not_no _)
  replace p3 := c1.cell p3 (not_no _)
  replace p4 := c1.cell p4 (not_no _)
  have HO := Lib.hid (fun W (hW : Chg No w1 W) => hW.obj o1 (not_no _))
  have HC := Lib.hid (fun W (hW : Chg No w1 W) => c1.trans hW)
  clear o1 s1
  go_wp2_with (with_reducible first | refine stop_append ?_ | refine stop_copy ?_ | refine stop_make ?_ | refine stop_lookup ?_ | refine stop_update ?_ | refine stop_slice ?_ | refine stop_range ?_ | refine stop_next ?_ | refine stop_convert ⟨_, rfl⟩ ?_ | refine stop_convertB ⟨_, _, _, rfl⟩ ?_ | refine stop_eqSlice ⟨_, _, rfl⟩ ?_ | refine stop_store ?_ | refine stop_alloc ?_ | refine stop_box ?_)
  have cd := (Chg.refl No w1).drew
  have HK := Lib.hid (show ∀ W W', (fun W => W.cell? ⟨w.heap.size, 1, none⟩ = some (.int .i64 xf) ∧ W.cell? ⟨w.heap.size, 3, none⟩ = some (.int .i64 st.t) ∧ W.cell? ⟨w.heap.size, 5, none⟩ = some (.int .i64 xn) ∧ W.cell? ⟨p, 0, none⟩ = some (.int .i64 st.t) ∧ W.cell? ⟨p, 3, none⟩ = some (.slice An st.nodes.length cn) ∧ W.cell? ⟨p, 4, none⟩ = some (.slice Al st.l.length cl) ∧ Chg No w1 W) W → Chg No W W' → (fun W => W.cell? ⟨w.heap.size, 1, none⟩ = some (.int .i64 xf) ∧ W.cell? ⟨w.heap.size, 3, none⟩ = some (.int .i64 st.t) ∧ W.cell? ⟨w.heap.size, 5, none⟩ = some (.int .i64 xn) ∧ W.cell? ⟨p, 0, none⟩ = some (.int .i64 st.t) ∧ W.cell? ⟨p, 3, none⟩ = some (.slice An st.nodes.length cn) ∧ W.cell? ⟨p, 4, none⟩ = some (.slice Al st.l.length cl) ∧ Chg No w1 W) W' from fun W W' h hc => ⟨hc.cell h.1 (not_no _), hc.cell h.2.1 (not_no _), hc.cell h.2.2.1 (not_no _), hc.cell h.2.2.2.1 (not_no _), hc.cell h.2.2.2.2.1 (not_no _), hc.cell h.2.2.2.2.2.1 (not_no _), h.2.2.2.2.2.2.trans hc⟩)
  have HL := Lib.hid (fun W (h : (fun W => W.cell? ⟨w.heap.size, 1, none⟩ = some (.int .i64 xf) ∧ W.cell? ⟨w.heap.size, 3, none⟩ = some (.int .i64 st.t) ∧ W.cell? ⟨w.heap.size, 5, none⟩ = some (.int .i64 xn) ∧ W.cell? ⟨p, 0, none⟩ = some (.int .i64 st.t) ∧ W.cell? ⟨p, 3, none⟩ = some (.slice An st.nodes.length cn) ∧ W.cell? ⟨p, 4, none⟩ = some (.slice Al st.l.length cl) ∧ Chg No w1 W) W) => cells_of_obj (HO.out W h.2.2.2.2.2.2))
  refine pl_start (fun W => W.cell? ⟨w.heap.size, 1, none⟩ = some (.int .i64 xf) ∧ W.cell? ⟨w.heap.size, 3, none⟩ = some (.int .i64 st.t) ∧ W.cell? ⟨w.heap.size, 5, none⟩ = some (.int .i64 xn) ∧ W.cell? ⟨p, 0, none⟩ = some (.int .i64 st.t) ∧ W.cell? ⟨p, 3, none⟩ = some (.slice An st.nodes.length cn) ∧ W.cell? ⟨p, 4, none⟩ = some (.slice Al st.l.length cl) ∧ Chg No w1 W) (by kernel_rfl) (by kernel_rfl) ⟨cd.cell a1 (not_no _), cd.cell a3 (not_no _), cd.cell a5 (not_no _), cd.cell p0 (not_no _), cd.cell p3 (not_no _), cd.cell p4 (not_no _), cd⟩ ?_
  clear a0 a1 a3 a5 p0 p3 p4 cd
  iterate 3 ((refine pl_nx [3] (v := ?_) rfl (by kernel_rfl) rfl ?_ ?_; rotate_left; focus (intro W hW; (try dsimp only at hW); go_split_ands; go_simp; (try (simp (disch := omega) only [IntWalk.i64_in]; (try go_simp))); (try (split; (next => omega); (try go_simp))); try rfl; done)); try simp only [Act.put, List.setIfInBounds_toArray, List.set_cons_zero, List.set_cons_succ, Nat.reduceAdd])
  refine pl_yesx 3 (.agg #[.int .i64 4, .int .i64 xf, .int .i64 xo, .int .i64 st.t, .int .i64 xs, .int .i64 xn, .bool xb, .int .i64 r1, .int .i64 r2, .slice Ag tags.length cg, .string data, .int .i64 e0, .int .i64 e1, .slice Ac cut.length cc, .int .i64 e3, .int .i64 e4, .int .i64 e5, .int .i64 bal, .int .i64 old, .int .i64 tt, .slice Aq q.length cq, .slice As s.length cs]) rfl (by kernel_rfl) rfl (by exact (fun W hW => run_load_at 79 _ rfl w.heap.size 0 rfl #[.int .i64 4, .int .i64 xf, .int .i64 xo, .int .i64 st.t, .int .i64 xs, .int .i64 xn, .bool xb, .int .i64 r1, .int .i64 r2, .slice Ag tags.length cg, .string data, .int .i64 e0, .int .i64 e1, .slice Ac cut.length cc, .int .i64 e3, .int .i64 e4, .int .i64 e5, .int .i64 bal, .int .i64 old, .int .i64 tt, .slice Aq q.length cq, .slice As s.length cs] (HL.out W hW) Try.underlying79 rfl (by kernel_rfl))) ?_
  try simp only [Act.put, List.setIfInBounds_toArray, List.set_cons_zero, List.set_cons_succ, Nat.reduceAdd]
  refine pl_callx 4 (.bool true) rfl (by kernel_rfl) rfl (by exact (fun W hW => (Hr.out W (HC.out _ hW.2.2.2.2.2.2)).mono (fun e w' h => ⟨h.1, HK.out _ _ hW h.2⟩))) (fun W => by kernel_rfl) ?_
  try simp only [Act.put, List.setIfInBounds_toArray, List.set_cons_zero, List.set_cons_succ, Nat.reduceAdd]
  ((first | (refine pl_nn [] rfl (by kernel_rfl) rfl ?_) | (refine pl_nx [] (v := ?_) rfl (by kernel_rfl) rfl ?_ ?_; rotate_left; focus (intro W hW; (try dsimp only at hW); go_split_ands; go_simp; (try (simp (disch := omega) only [IntWalk.i64_in]; (try go_simp))); (try (split; (next => omega); (try go_simp))); try rfl; done))); try simp only [Act.put, List.setIfInBounds_toArray, List.set_cons_zero, List.set_cons_succ, Nat.reduceAdd])
  iterate 2 ((refine pl_nx [] (v := ?_) rfl (by kernel_rfl) rfl ?_ ?_; rotate_left; focus (intro W hW; (try dsimp only at hW); go_split_ands; go_simp; (try (simp (disch := omega) only [IntWalk.i64_in]; (try go_simp))); (try (split; (next => omega); (try go_simp))); try rfl; done)); try simp only [Act.put, List.setIfInBounds_toArray, List.set_cons_zero, List.set_cons_succ, Nat.reduceAdd])
  iterate 7 ((first | (refine pl_nn [] rfl (by kernel_rfl) rfl ?_) | (refine pl_nx [] (v := ?_) rfl (by kernel_rfl) rfl ?_ ?_; rotate_left; focus (intro W hW; (try dsimp only at hW); go_split_ands; go_simp; (try (simp (disch := omega) only [IntWalk.i64_in]; (try go_simp))); (try (split; (next => omega); (try go_simp))); try rfl; done))); try simp only [Act.put, List.setIfInBounds_toArray, List.set_cons_zero, List.set_cons_succ, Nat.reduceAdd])
  iterate 2 ((refine pl_nx [] (v := ?_) rfl (by kernel_rfl) rfl ?_ ?_; rotate_left; focus (intro W hW; (try dsimp only at hW); go_split_ands; go_simp; (try (simp (disch := omega) only [IntWalk.i64_in]; (try go_simp))); (try (split; (next => omega); (try go_simp))); try rfl; done)); try simp only [Act.put, List.setIfInBounds_toArray, List.set_cons_zero, List.set_cons_succ, Nat.reduceAdd])
  iterate 6 ((first | (refine pl_nn [] rfl (by kernel_rfl) rfl ?_) | (refine pl_nx [] (v := ?_) rfl (by kernel_rfl) rfl ?_ ?_; rotate_left; focus (intro W hW; (try dsimp only at hW); go_split_ands; go_simp; (try (simp (disch := omega) only [IntWalk.i64_in]; (try go_simp))); (try (split; (next => omega); (try go_simp))); try rfl; done))); try simp only [Act.put, List.setIfInBounds_toArray, List.set_cons_zero, List.set_cons_succ, Nat.reduceAdd])
  refine pl_callx 23 (.bool true) rfl (by kernel_rfl) rfl (by exact (fun W hW => (Hin.out W (HC.out _ hW.2.2.2.2.2.2)).mono (fun e w' h => ⟨h.1, HK.out _ _ hW h.2⟩))) (fun W => by kernel_rfl) ?_
  try simp only [Act.put, List.setIfInBounds_toArray, List.set_cons_zero, List.set_cons_succ, Nat.reduceAdd]
  ((first | (refine pl_nn [] rfl (by kernel_rfl) rfl ?_) | (refine pl_nx [] (v := ?_) rfl (by kernel_rfl) rfl ?_ ?_; rotate_left; focus (intro W hW; (try dsimp only at hW); go_split_ands; go_simp; (try (simp (disch := omega) only [IntWalk.i64_in]; (try go_simp))); (try (split; (next => omega); (try go_simp))); try rfl; done))); try simp only [Act.put, List.setIfInBounds_toArray, List.set_cons_zero, List.set_cons_succ, Nat.reduceAdd])
  iterate 2 ((refine pl_nx [] (v := ?_) rfl (by kernel_rfl) rfl ?_ ?_; rotate_left; focus (intro W hW; (try dsimp only at hW); go_split_ands; go_simp; (try (simp (disch := omega) only [IntWalk.i64_in]; (try go_simp))); (try (split; (next => omega); (try go_simp))); try rfl; done)); try simp only [Act.put, List.setIfInBounds_toArray, List.set_cons_zero, List.set_cons_succ, Nat.reduceAdd])
  iterate 8 ((first | (refine pl_nn [] rfl (by kernel_rfl) rfl ?_) | (refine pl_nx [] (v := ?_) rfl (by kernel_rfl) rfl ?_ ?_; rotate_left; focus (intro W hW; (try dsimp only at hW); go_split_ands; go_simp; (try (simp (disch := omega) only [IntWalk.i64_in]; (try go_simp))); (try (split; (next => omega); (try go_simp))); try rfl; done))); try simp only [Act.put, List.setIfInBounds_toArray, List.set_cons_zero, List.set_cons_succ, Nat.reduceAdd])
  ((refine pl_nx [] (v := ?_) rfl (by kernel_rfl) rfl ?_ ?_; rotate_left; focus (intro W hW; (try dsimp only at hW); go_split_ands; go_simp; (try (simp (disch := omega) only [IntWalk.i64_in]; (try go_simp))); (try (split; (next => omega); (try go_simp))); try rfl; done)); try simp only [Act.put, List.setIfInBounds_toArray, List.set_cons_zero, List.set_cons_succ, Nat.reduceAdd])
  refine pl_done (by kernel_rfl)  ?_
  rintro w2 ⟨-, -, -, -, -, -, h2⟩
  have o1 := HO.out _ h2
  have h2 := HC.out _ h2
  clear HO HL HK
  go_wp2_with (with_reducible first | refine stop_append ?_ | refine stop_copy ?_ | refine stop_make ?_ | refine stop_lookup ?_ | refine stop_update ?_ | refine stop_slice ?_ | refine stop_range ?_ | refine stop_next ?_ | refine stop_convert ⟨_, rfl⟩ ?_ | refine stop_convertB ⟨_, _, _, rfl⟩ ?_ | refine stop_eqSlice ⟨_, _, rfl⟩ ?_)
  go_ret
  exact ⟨rfl, h2⟩
set_option maxRecDepth 100000 in
set_option maxHeartbeats 8000000 in
theorem heard_number6 (S : Nat → Prop) (p : Nat) (st : PSt) (xk xf xo xt xs xn r1 r2 e0 e1 e3 e4 e5 bal old tt : Int) (xb : Bool) (tags cut q : List Int) (s : List (List Int)) (data : ByteArray) (Ag Ac Aq As : Option Addr) (cg cc cq cs : Nat) (w : World) (h : Pri w S p st) (hb : st.nodes.length * 8 ≤ 140737488355328)
    (hk : xk = 6)
    (Hr : Hid (∀ W, Chg No w W → Calls Try.prog 48 #[.agg #[.int .i64 xk, .int .i64 xf, .int .i64 xo, .int .i64 xt, .int .i64 xs, .int .i64 xn, .bool xb, .int .i64 r1, .int .i64 r2, .slice Ag tags.length cg, .string data, .int .i64 e0, .int .i64 e1, .slice Ac cut.length cc, .int .i64 e3, .int .i64 e4, .int .i64 e5, .int .i64 bal, .int .i64 old, .int .i64 tt, .slice Aq q.length cq, .slice As s.length cs]] W fun e w' => e = .returned (.bool true) ∧ Chg No W w'))
    (ht : xt = st.t)
    (hf : decide (xf ∈ st.nodes) = true)
    (hn : (st.l.length : Int) < xn) :
    Calls Try.prog 28 #[.pointer (some ⟨p, 0, none⟩), .agg #[.int .i64 xk, .int .i64 xf, .int .i64 xo, .int .i64 xt, .int .i64 xs, .int .i64 xn, .bool xb, .int .i64 r1, .int .i64 r2, .slice Ag tags.length cg, .string data, .int .i64 e0, .int .i64 e1, .slice Ac cut.length cc, .int .i64 e3, .int .i64 e4, .int .i64 e5, .int .i64 bal, .int .i64 old, .int .i64 tt, .slice Aq q.length cq, .slice As s.length cs]] w fun e w' => e = .returned (.bool false) ∧ Chg No w w' := by
  obtain ⟨r, vn, vl, vz, h⟩ := h
  have H := Lib.hid h
  have Hin := Lib.hid (fun W (hW : Chg No w W) => lcontains_any _ vn st.nodes xf W (h.nodes.keepNo hW) hb)
  obtain ⟨An, cn, rfl⟩ := h.nodes.slice
  obtain ⟨Al, cl, rfl⟩ := h.l.slice
  have p0 := cell_obj (i := 0) h.obj rfl
  have p3 := cell_obj (i := 3) h.obj rfl
  have p4 := cell_obj (i := 4) h.obj rfl
  clear h
  subst hk
  rw [hf] at Hin
  clear hf
  subst ht
  go_enter Try.func28, Try.ntmps28
  go_wp2_with (with_reducible first | refine stop_append ?_ | refine stop_copy ?_ | refine stop_make ?_ | refine stop_lookup ?_ | refine stop_update ?_ | refine stop_slice ?_ | refine stop_range ?_ | refine stop_next ?_ | refine stop_convert ⟨_, rfl⟩ ?_ | refine stop_convertB ⟨_, _, _, rfl⟩ ?_ | refine stop_eqSlice ⟨_, _, rfl⟩ ?_ | refine stop_store ?_ | refine stop_alloc ?_ | refine stop_box ?_)
  refine step_box #[.int .i64 6, .int .i64 xf, .int .i64 xo, .int .i64 st.t, .int .i64 xs, .int .i64 xn, .bool xb, .int .i64 r1, .int .i64 r2, .slice Ag tags.length cg, .string data, .int .i64 e0, .int .i64 e1, .slice Ac cut.length cc, .int .i64 e3, .int .i64 e4, .int .i64 e5, .int .i64 bal, .int .i64 old, .int .i64 tt, .slice Aq q.length cq, .slice As s.length cs] rfl ?_
  intro w1 o1 c1 s1
  have a0 := cell_obj (i := 0) o1 rfl
  have a1 := cell_obj (i := 1) o1 rfl
  have a3 := cell_obj (i := 3) o1 rfl
  have a5 := cell_obj (i := 5) o1 rfl
  replace p0 := c1.cell p0 (not_no _)
  replace p3 := c1.cell p3 (not_no _)
  replace p4 := c1.cell p4 (not_no _)
  have HO := Lib.hid (fun W (hW : Chg No w1 W) => hW.obj o1 (not_no _))
  have HC := Lib.hid (fun W (hW : Chg No w1 W) => c1.trans hW)
  clear o1 s1
  go_wp2_with (with_reducible first | refine stop_append ?_ | refine stop_copy ?_ | refine stop_make ?_ | refine stop_lookup ?_ | refine stop_update ?_ | refine stop_slice ?_ | refine stop_range ?_ | refine stop_next ?_ | refine stop_convert ⟨_, rfl⟩ ?_ | refine stop_convertB ⟨_, _, _, rfl⟩ ?_ | refine stop_eqSlice ⟨_, _, rfl⟩ ?_ | refine stop_store ?_ | refine stop_alloc ?_ | refine stop_box ?_)
  have cd := (Chg.refl No w1).drew
  have HK := Lib.hid (show ∀ W W', (fun W => W.cell? ⟨w.heap.size, 1, none⟩ = some (.int .i64 xf) ∧ W.cell? ⟨w.heap.size, 3, none⟩ = some (.int .i64 st.t) ∧ W.cell? ⟨w.heap.size, 5, none⟩ = some (.int .i64 xn) ∧ W.cell? ⟨p, 0, none⟩ = some (.int .i64 st.t) ∧ W.cell? ⟨p, 3, none⟩ = some (.slice An st.nodes.length cn) ∧ W.cell? ⟨p, 4, none⟩ = some (.slice Al st.l.length cl) ∧ Chg No w1 W) W → Chg No W W' → (fun W => W.cell? ⟨w.heap.size, 1, none⟩ = some (.int .i64 xf) ∧ W.cell? ⟨w.heap.size, 3, none⟩ = some (.int .i64 st.t) ∧ W.cell? ⟨w.heap.size, 5, none⟩ = some (.int .i64 xn) ∧ W.cell? ⟨p, 0, none⟩ = some (.int .i64 st.t) ∧ W.cell? ⟨p, 3, none⟩ = some (.slice An st.nodes.length cn) ∧ W.cell? ⟨p, 4, none⟩ = some (.slice Al st.l.length cl) ∧ Chg No w1 W) W' from fun W W' h hc => ⟨hc.cell h.1 (not_no _), hc.cell h.2.1 (not_no _), hc.cell h.2.2.1 (not_no _), hc.cell h.2.2.2.1 (not_no _), hc.cell h.2.2.2.2.1 (not_no _), hc.cell h.2.2.2.2.2.1 (not_no _), h.2.2.2.2.2.2.trans hc⟩)
  have HL := Lib.hid (fun W (h : (fun W => W.cell? ⟨w.heap.size, 1, none⟩ = some (.int .i64 xf) ∧ W.cell? ⟨w.heap.size, 3, none⟩ = some (.int .i64 st.t) ∧ W.cell? ⟨w.heap.size, 5, none⟩ = some (.int .i64 xn) ∧ W.cell? ⟨p, 0, none⟩ = some (.int .i64 st.t) ∧ W.cell? ⟨p, 3, none⟩ = some (.slice An st.nodes.length cn) ∧ W.cell? ⟨p, 4, none⟩ = some (.slice Al st.l.length cl) ∧ Chg No w1 W) W) => cells_of_obj (HO.out W h.2.2.2.2.2.2))
  refine pl_start (fun W => W.cell? ⟨w.heap.size, 1, none⟩ = some (.int .i64 xf) ∧ W.cell? ⟨w.heap.size, 3, none⟩ = some (.int .i64 st.t) ∧ W.cell? ⟨w.heap.size, 5, none⟩ = some (.int .i64 xn) ∧ W.cell? ⟨p, 0, none⟩ = some (.int .i64 st.t) ∧ W.cell? ⟨p, 3, none⟩ = some (.slice An st.nodes.length cn) ∧ W.cell? ⟨p, 4, none⟩ = some (.slice Al st.l.length cl) ∧ Chg No w1 W) (by kernel_rfl) (by kernel_rfl) ⟨cd.cell a1 (not_no _), cd.cell a3 (not_no _), cd.cell a5 (not_no _), cd.cell p0 (not_no _), cd.cell p3 (not_no _), cd.cell p4 (not_no _), cd⟩ ?_
  clear a0 a1 a3 a5 p0 p3 p4 cd
  iterate 3 ((refine pl_nx [3] (v := ?_) rfl (by kernel_rfl) rfl ?_ ?_; rotate_left; focus (intro W hW; (try dsimp only at hW); go_split_ands; go_simp; (try (simp (disch := omega) only [IntWalk.i64_in]; (try go_simp))); (try (split; (next => omega); (try go_simp))); try rfl; done)); try simp only [Act.put, List.setIfInBounds_toArray, List.set_cons_zero, List.set_cons_succ, Nat.reduceAdd])
  refine pl_yesx 3 (.agg #[.int .i64 6, .int .i64 xf, .int .i64 xo, .int .i64 st.t, .int .i64 xs, .int .i64 xn, .bool xb, .int .i64 r1, .int .i64 r2, .slice Ag tags.length cg, .string data, .int .i64 e0, .int .i64 e1, .slice Ac cut.length cc, .int .i64 e3, .int .i64 e4, .int .i64 e5, .int .i64 bal, .int .i64 old, .int .i64 tt, .slice Aq q.length cq, .slice As s.length cs]) rfl (by kernel_rfl) rfl (by exact (fun W hW => run_load_at 79 _ rfl w.heap.size 0 rfl #[.int .i64 6, .int .i64 xf, .int .i64 xo, .int .i64 st.t, .int .i64 xs, .int .i64 xn, .bool xb, .int .i64 r1, .int .i64 r2, .slice Ag tags.length cg, .string data, .int .i64 e0, .int .i64 e1, .slice Ac cut.length cc, .int .i64 e3, .int .i64 e4, .int .i64 e5, .int .i64 bal, .int .i64 old, .int .i64 tt, .slice Aq q.length cq, .slice As s.length cs] (HL.out W hW) Try.underlying79 rfl (by kernel_rfl))) ?_
  try simp only [Act.put, List.setIfInBounds_toArray, List.set_cons_zero, List.set_cons_succ, Nat.reduceAdd]
  refine pl_callx 4 (.bool true) rfl (by kernel_rfl) rfl (by exact (fun W hW => (Hr.out W (HC.out _ hW.2.2.2.2.2.2)).mono (fun e w' h => ⟨h.1, HK.out _ _ hW h.2⟩))) (fun W => by kernel_rfl) ?_
  try simp only [Act.put, List.setIfInBounds_toArray, List.set_cons_zero, List.set_cons_succ, Nat.reduceAdd]
  ((first | (refine pl_nn [] rfl (by kernel_rfl) rfl ?_) | (refine pl_nx [] (v := ?_) rfl (by kernel_rfl) rfl ?_ ?_; rotate_left; focus (intro W hW; (try dsimp only at hW); go_split_ands; go_simp; (try (simp (disch := omega) only [IntWalk.i64_in]; (try go_simp))); (try (split; (next => omega); (try go_simp))); try rfl; done))); try simp only [Act.put, List.setIfInBounds_toArray, List.set_cons_zero, List.set_cons_succ, Nat.reduceAdd])
  iterate 2 ((refine pl_nx [] (v := ?_) rfl (by kernel_rfl) rfl ?_ ?_; rotate_left; focus (intro W hW; (try dsimp only at hW); go_split_ands; go_simp; (try (simp (disch := omega) only [IntWalk.i64_in]; (try go_simp))); (try (split; (next => omega); (try go_simp))); try rfl; done)); try simp only [Act.put, List.setIfInBounds_toArray, List.set_cons_zero, List.set_cons_succ, Nat.reduceAdd])
  iterate 7 ((first | (refine pl_nn [] rfl (by kernel_rfl) rfl ?_) | (refine pl_nx [] (v := ?_) rfl (by kernel_rfl) rfl ?_ ?_; rotate_left; focus (intro W hW; (try dsimp only at hW); go_split_ands; go_simp; (try (simp (disch := omega) only [IntWalk.i64_in]; (try go_simp))); (try (split; (next => omega); (try go_simp))); try rfl; done))); try simp only [Act.put, List.setIfInBounds_toArray, List.set_cons_zero, List.set_cons_succ, Nat.reduceAdd])
  iterate 2 ((refine pl_nx [] (v := ?_) rfl (by kernel_rfl) rfl ?_ ?_; rotate_left; focus (intro W hW; (try dsimp only at hW); go_split_ands; go_simp; (try (simp (disch := omega) only [IntWalk.i64_in]; (try go_simp))); (try (split; (next => omega); (try go_simp))); try rfl; done)); try simp only [Act.put, List.setIfInBounds_toArray, List.set_cons_zero, List.set_cons_succ, Nat.reduceAdd])
  iterate 6 ((first | (refine pl_nn [] rfl (by kernel_rfl) rfl ?_) | (refine pl_nx [] (v := ?_) rfl (by kernel_rfl) rfl ?_ ?_; rotate_left; focus (intro W hW; (try dsimp only at hW); go_split_ands; go_simp; (try (simp (disch := omega) only [IntWalk.i64_in]; (try go_simp))); (try (split; (next => omega); (try go_simp))); try rfl; done))); try simp only [Act.put, List.setIfInBounds_toArray, List.set_cons_zero, List.set_cons_succ, Nat.reduceAdd])
  refine pl_callx 23 (.bool true) rfl (by kernel_rfl) rfl (by exact (fun W hW => (Hin.out W (HC.out _ hW.2.2.2.2.2.2)).mono (fun e w' h => ⟨h.1, HK.out _ _ hW h.2⟩))) (fun W => by kernel_rfl) ?_
  try simp only [Act.put, List.setIfInBounds_toArray, List.set_cons_zero, List.set_cons_succ, Nat.reduceAdd]
  ((first | (refine pl_nn [] rfl (by kernel_rfl) rfl ?_) | (refine pl_nx [] (v := ?_) rfl (by kernel_rfl) rfl ?_ ?_; rotate_left; focus (intro W hW; (try dsimp only at hW); go_split_ands; go_simp; (try (simp (disch := omega) only [IntWalk.i64_in]; (try go_simp))); (try (split; (next => omega); (try go_simp))); try rfl; done))); try simp only [Act.put, List.setIfInBounds_toArray, List.set_cons_zero, List.set_cons_succ, Nat.reduceAdd])
  iterate 2 ((refine pl_nx [] (v := ?_) rfl (by kernel_rfl) rfl ?_ ?_; rotate_left; focus (intro W hW; (try dsimp only at hW); go_split_ands; go_simp; (try (simp (disch := omega) only [IntWalk.i64_in]; (try go_simp))); (try (split; (next => omega); (try go_simp))); try rfl; done)); try simp only [Act.put, List.setIfInBounds_toArray, List.set_cons_zero, List.set_cons_succ, Nat.reduceAdd])
  iterate 8 ((first | (refine pl_nn [] rfl (by kernel_rfl) rfl ?_) | (refine pl_nx [] (v := ?_) rfl (by kernel_rfl) rfl ?_ ?_; rotate_left; focus (intro W hW; (try dsimp only at hW); go_split_ands; go_simp; (try (simp (disch := omega) only [IntWalk.i64_in]; (try go_simp))); (try (split; (next => omega); (try go_simp))); try rfl; done))); try simp only [Act.put, List.setIfInBounds_toArray, List.set_cons_zero, List.set_cons_succ, Nat.reduceAdd])
  ((refine pl_nx [] (v := ?_) rfl (by kernel_rfl) rfl ?_ ?_; rotate_left; focus (intro W hW; (try dsimp only at hW); go_split_ands; go_simp; (try (simp (disch := omega) only [IntWalk.i64_in]; (try go_simp))); (try (split; (next => omega); (try go_simp))); try rfl; done)); try simp only [Act.put, List.setIfInBounds_toArray, List.set_cons_zero, List.set_cons_succ, Nat.reduceAdd])
  refine pl_done (by kernel_rfl)  ?_
  rintro w2 ⟨-, -, -, -, -, -, h2⟩
  have o1 := HO.out _ h2
  have h2 := HC.out _ h2
  clear HO HL HK
  go_wp2_with (with_reducible first | refine stop_append ?_ | refine stop_copy ?_ | refine stop_make ?_ | refine stop_lookup ?_ | refine stop_update ?_ | refine stop_slice ?_ | refine stop_range ?_ | refine stop_next ?_ | refine stop_convert ⟨_, rfl⟩ ?_ | refine stop_convertB ⟨_, _, _, rfl⟩ ?_ | refine stop_eqSlice ⟨_, _, rfl⟩ ?_)
  go_ret
  exact ⟨rfl, h2⟩
set_option maxRecDepth 100000 in
set_option maxHeartbeats 8000000 in
theorem heard_yes4 (S : Nat → Prop) (p : Nat) (st : PSt) (xk xf xo xt xs xn r1 r2 e0 e1 e3 e4 e5 bal old tt : Int) (xb : Bool) (tags cut q : List Int) (s : List (List Int)) (data : ByteArray) (Ag Ac Aq As : Option Addr) (cg cc cq cs : Nat) (w : World) (h : Pri w S p st) (hb : st.nodes.length * 8 ≤ 140737488355328)
    (hk : xk = 4)
    (Hr : Hid (∀ W, Chg No w W → Calls Try.prog 48 #[.agg #[.int .i64 xk, .int .i64 xf, .int .i64 xo, .int .i64 xt, .int .i64 xs, .int .i64 xn, .bool xb, .int .i64 r1, .int .i64 r2, .slice Ag tags.length cg, .string data, .int .i64 e0, .int .i64 e1, .slice Ac cut.length cc, .int .i64 e3, .int .i64 e4, .int .i64 e5, .int .i64 bal, .int .i64 old, .int .i64 tt, .slice Aq q.length cq, .slice As s.length cs]] W fun e w' => e = .returned (.bool true) ∧ Chg No W w'))
    (ht : xt = st.t)
    (hf : decide (xf ∈ st.nodes) = true)
    (hn : ¬ (st.l.length : Int) < xn) :
    Calls Try.prog 28 #[.pointer (some ⟨p, 0, none⟩), .agg #[.int .i64 xk, .int .i64 xf, .int .i64 xo, .int .i64 xt, .int .i64 xs, .int .i64 xn, .bool xb, .int .i64 r1, .int .i64 r2, .slice Ag tags.length cg, .string data, .int .i64 e0, .int .i64 e1, .slice Ac cut.length cc, .int .i64 e3, .int .i64 e4, .int .i64 e5, .int .i64 bal, .int .i64 old, .int .i64 tt, .slice Aq q.length cq, .slice As s.length cs]] w fun e w' => e = .returned (.bool true) ∧ Chg S w w' ∧ w.heap.size ≤ w'.heap.size ∧ Pri w' S p (hearP st xf xn xb) := by
  obtain ⟨r, vn, vl, vz, h⟩ := h
  have H := Lib.hid h
  have Hin := Lib.hid (fun W (hW : Chg No w W) => lcontains_any _ vn st.nodes xf W (h.nodes.keepNo hW) hb)
  obtain ⟨An, cn, rfl⟩ := h.nodes.slice
  obtain ⟨Al, cl, rfl⟩ := h.l.slice
  have p0 := cell_obj (i := 0) h.obj rfl
  have p3 := cell_obj (i := 3) h.obj rfl
  have p4 := cell_obj (i := 4) h.obj rfl
  clear h
  subst hk
  rw [hf] at Hin
  clear hf
  subst ht
  go_enter Try.func28, Try.ntmps28
  go_wp2_with (with_reducible first | refine stop_append ?_ | refine stop_copy ?_ | refine stop_make ?_ | refine stop_lookup ?_ | refine stop_update ?_ | refine stop_slice ?_ | refine stop_range ?_ | refine stop_next ?_ | refine stop_convert ⟨_, rfl⟩ ?_ | refine stop_convertB ⟨_, _, _, rfl⟩ ?_ | refine stop_eqSlice ⟨_, _, rfl⟩ ?_ | refine stop_store ?_ | refine stop_alloc ?_ | refine stop_box ?_)
  refine step_box #[.int .i64 4, .int .i64 xf, .int .i64 xo, .int .i64 st.t, .int .i64 xs, .int .i64 xn, .bool xb, .int .i64 r1, .int .i64 r2, .slice Ag tags.length cg, .string data, .int .i64 e0, .int .i64 e1, .slice Ac cut.length cc, .int .i64 e3, .int .i64 e4, .int .i64 e5, .int .i64 bal, .int .i64 old, .int .i64 tt, .slice Aq q.length cq, .slice As s.length cs] rfl ?_
  intro w1 o1 c1 s1
  have a0 := cell_obj (i := 0) o1 rfl
  have a1 := cell_obj (i := 1) o1 rfl
  have a3 := cell_obj (i := 3) o1 rfl
  have a5 := cell_obj (i := 5) o1 rfl
  replace p0 := c1.cell p0 (not_no _)
  replace p3 := c1.cell p3 (not_no _)
  replace p4 := c1.cell p4 (not_no _)
  have HO := Lib.hid (fun W (hW : Chg No w1 W) => hW.obj o1 (not_no _))
  have HC := Lib.hid (fun W (hW : Chg No w1 W) => c1.trans hW)
  clear o1 s1
  go_wp2_with (with_reducible first | refine stop_append ?_ | refine stop_copy ?_ | refine stop_make ?_ | refine stop_lookup ?_ | refine stop_update ?_ | refine stop_slice ?_ | refine stop_range ?_ | refine stop_next ?_ | refine stop_convert ⟨_, rfl⟩ ?_ | refine stop_convertB ⟨_, _, _, rfl⟩ ?_ | refine stop_eqSlice ⟨_, _, rfl⟩ ?_ | refine stop_store ?_ | refine stop_alloc ?_ | refine stop_box ?_)
  have cd := (Chg.refl No w1).drew
  have HK := Lib.hid (show ∀ W W', (fun W => W.cell? ⟨w.heap.size, 1, none⟩ = some (.int .i64 xf) ∧ W.cell? ⟨w.heap.size, 3, none⟩ = some (.int .i64 st.t) ∧ W.cell? ⟨w.heap.size, 5, none⟩ = some (.int .i64 xn) ∧ W.cell? ⟨p, 0, none⟩ = some (.int .i64 st.t) ∧ W.cell? ⟨p, 3, none⟩ = some (.slice An st.nodes.length cn) ∧ W.cell? ⟨p, 4, none⟩ = some (.slice Al st.l.length cl) ∧ Chg No w1 W) W → Chg No W W' → (fun W => W.cell? ⟨w.heap.size, 1, none⟩ = some (.int .i64 xf) ∧ W.cell? ⟨w.heap.size, 3, none⟩ = some (.int .i64 st.t) ∧ W.cell? ⟨w.heap.size, 5, none⟩ = some (.int .i64 xn) ∧ W.cell? ⟨p, 0, none⟩ = some (.int .i64 st.t) ∧ W.cell? ⟨p, 3, none⟩ = some (.slice An st.nodes.length cn) ∧ W.cell? ⟨p, 4, none⟩ = some (.slice Al st.l.length cl) ∧ Chg No w1 W) W' from fun W W' h hc => ⟨hc.cell h.1 (not_no _), hc.cell h.2.1 (not_no _), hc.cell h.2.2.1 (not_no _), hc.cell h.2.2.2.1 (not_no _), hc.cell h.2.2.2.2.1 (not_no _), hc.cell h.2.2.2.2.2.1 (not_no _), h.2.2.2.2.2.2.trans hc⟩)
  have HL := Lib.hid (fun W (h : (fun W => W.cell? ⟨w.heap.size, 1, none⟩ = some (.int .i64 xf) ∧ W.cell? ⟨w.heap.size, 3, none⟩ = some (.int .i64 st.t) ∧ W.cell? ⟨w.heap.size, 5, none⟩ = some (.int .i64 xn) ∧ W.cell? ⟨p, 0, none⟩ = some (.int .i64 st.t) ∧ W.cell? ⟨p, 3, none⟩ = some (.slice An st.nodes.length cn) ∧ W.cell? ⟨p, 4, none⟩ = some (.slice Al st.l.length cl) ∧ Chg No w1 W) W) => cells_of_obj (HO.out W h.2.2.2.2.2.2))
  refine pl_start (fun W => W.cell? ⟨w.heap.size, 1, none⟩ = some (.int .i64 xf) ∧ W.cell? ⟨w.heap.size, 3, none⟩ = some (.int .i64 st.t) ∧ W.cell? ⟨w.heap.size, 5, none⟩ = some (.int .i64 xn) ∧ W.cell? ⟨p, 0, none⟩ = some (.int .i64 st.t) ∧ W.cell? ⟨p, 3, none⟩ = some (.slice An st.nodes.length cn) ∧ W.cell? ⟨p, 4, none⟩ = some (.slice Al st.l.length cl) ∧ Chg No w1 W) (by kernel_rfl) (by kernel_rfl) ⟨cd.cell a1 (not_no _), cd.cell a3 (not_no _), cd.cell a5 (not_no _), cd.cell p0 (not_no _), cd.cell p3 (not_no _), cd.cell p4 (not_no _), cd⟩ ?_
  clear a0 a1 a3 a5 p0 p3 p4 cd
  iterate 3 ((refine pl_nx [3] (v := ?_) rfl (by kernel_rfl) rfl ?_ ?_; rotate_left; focus (intro W hW; (try dsimp only at hW); go_split_ands; go_simp; (try (simp (disch := omega) only [IntWalk.i64_in]; (try go_simp))); (try (split; (next => omega); (try go_simp))); try rfl; done)); try simp only [Act.put, List.setIfInBounds_toArray, List.set_cons_zero, List.set_cons_succ, Nat.reduceAdd])
  refine pl_yesx 3 (.agg #[.int .i64 4, .int .i64 xf, .int .i64 xo, .int .i64 st.t, .int .i64 xs, .int .i64 xn, .bool xb, .int .i64 r1, .int .i64 r2, .slice Ag tags.length cg, .string data, .int .i64 e0, .int .i64 e1, .slice Ac cut.length cc, .int .i64 e3, .int .i64 e4, .int .i64 e5, .int .i64 bal, .int .i64 old, .int .i64 tt, .slice Aq q.length cq, .slice As s.length cs]) rfl (by kernel_rfl) rfl (by exact (fun W hW => run_load_at 79 _ rfl w.heap.size 0 rfl #[.int .i64 4, .int .i64 xf, .int .i64 xo, .int .i64 st.t, .int .i64 xs, .int .i64 xn, .bool xb, .int .i64 r1, .int .i64 r2, .slice Ag tags.length cg, .string data, .int .i64 e0, .int .i64 e1, .slice Ac cut.length cc, .int .i64 e3, .int .i64 e4, .int .i64 e5, .int .i64 bal, .int .i64 old, .int .i64 tt, .slice Aq q.length cq, .slice As s.length cs] (HL.out W hW) Try.underlying79 rfl (by kernel_rfl))) ?_
  try simp only [Act.put, List.setIfInBounds_toArray, List.set_cons_zero, List.set_cons_succ, Nat.reduceAdd]
  refine pl_callx 4 (.bool true) rfl (by kernel_rfl) rfl (by exact (fun W hW => (Hr.out W (HC.out _ hW.2.2.2.2.2.2)).mono (fun e w' h => ⟨h.1, HK.out _ _ hW h.2⟩))) (fun W => by kernel_rfl) ?_
  try simp only [Act.put, List.setIfInBounds_toArray, List.set_cons_zero, List.set_cons_succ, Nat.reduceAdd]
  ((first | (refine pl_nn [] rfl (by kernel_rfl) rfl ?_) | (refine pl_nx [] (v := ?_) rfl (by kernel_rfl) rfl ?_ ?_; rotate_left; focus (intro W hW; (try dsimp only at hW); go_split_ands; go_simp; (try (simp (disch := omega) only [IntWalk.i64_in]; (try go_simp))); (try (split; (next => omega); (try go_simp))); try rfl; done))); try simp only [Act.put, List.setIfInBounds_toArray, List.set_cons_zero, List.set_cons_succ, Nat.reduceAdd])
  iterate 2 ((refine pl_nx [] (v := ?_) rfl (by kernel_rfl) rfl ?_ ?_; rotate_left; focus (intro W hW; (try dsimp only at hW); go_split_ands; go_simp; (try (simp (disch := omega) only [IntWalk.i64_in]; (try go_simp))); (try (split; (next => omega); (try go_simp))); try rfl; done)); try simp only [Act.put, List.setIfInBounds_toArray, List.set_cons_zero, List.set_cons_succ, Nat.reduceAdd])
  iterate 7 ((first | (refine pl_nn [] rfl (by kernel_rfl) rfl ?_) | (refine pl_nx [] (v := ?_) rfl (by kernel_rfl) rfl ?_ ?_; rotate_left; focus (intro W hW; (try dsimp only at hW); go_split_ands; go_simp; (try (simp (disch := omega) only [IntWalk.i64_in]; (try go_simp))); (try (split; (next => omega); (try go_simp))); try rfl; done))); try simp only [Act.put, List.setIfInBounds_toArray, List.set_cons_zero, List.set_cons_succ, Nat.reduceAdd])
  iterate 2 ((refine pl_nx [] (v := ?_) rfl (by kernel_rfl) rfl ?_ ?_; rotate_left; focus (intro W hW; (try dsimp only at hW); go_split_ands; go_simp; (try (simp (disch := omega) only [IntWalk.i64_in]; (try go_simp))); (try (split; (next => omega); (try go_simp))); try rfl; done)); try simp only [Act.put, List.setIfInBounds_toArray, List.set_cons_zero, List.set_cons_succ, Nat.reduceAdd])
  iterate 6 ((first | (refine pl_nn [] rfl (by kernel_rfl) rfl ?_) | (refine pl_nx [] (v := ?_) rfl (by kernel_rfl) rfl ?_ ?_; rotate_left; focus (intro W hW; (try dsimp only at hW); go_split_ands; go_simp; (try (simp (disch := omega) only [IntWalk.i64_in]; (try go_simp))); (try (split; (next => omega); (try go_simp))); try rfl; done))); try simp only [Act.put, List.setIfInBounds_toArray, List.set_cons_zero, List.set_cons_succ, Nat.reduceAdd])
  refine pl_callx 23 (.bool true) rfl (by kernel_rfl) rfl (by exact (fun W hW => (Hin.out W (HC.out _ hW.2.2.2.2.2.2)).mono (fun e w' h => ⟨h.1, HK.out _ _ hW h.2⟩))) (fun W => by kernel_rfl) ?_
  try simp only [Act.put, List.setIfInBounds_toArray, List.set_cons_zero, List.set_cons_succ, Nat.reduceAdd]
  ((first | (refine pl_nn [] rfl (by kernel_rfl) rfl ?_) | (refine pl_nx [] (v := ?_) rfl (by kernel_rfl) rfl ?_ ?_; rotate_left; focus (intro W hW; (try dsimp only at hW); go_split_ands; go_simp; (try (simp (disch := omega) only [IntWalk.i64_in]; (try go_simp))); (try (split; (next => omega); (try go_simp))); try rfl; done))); try simp only [Act.put, List.setIfInBounds_toArray, List.set_cons_zero, List.set_cons_succ, Nat.reduceAdd])
  iterate 2 ((refine pl_nx [] (v := ?_) rfl (by kernel_rfl) rfl ?_ ?_; rotate_left; focus (intro W hW; (try dsimp only at hW); go_split_ands; go_simp; (try (simp (disch := omega) only [IntWalk.i64_in]; (try go_simp))); (try (split; (next => omega); (try go_simp))); try rfl; done)); try simp only [Act.put, List.setIfInBounds_toArray, List.set_cons_zero, List.set_cons_succ, Nat.reduceAdd])
  iterate 8 ((first | (refine pl_nn [] rfl (by kernel_rfl) rfl ?_) | (refine pl_nx [] (v := ?_) rfl (by kernel_rfl) rfl ?_ ?_; rotate_left; focus (intro W hW; (try dsimp only at hW); go_split_ands; go_simp; (try (simp (disch := omega) only [IntWalk.i64_in]; (try go_simp))); (try (split; (next => omega); (try go_simp))); try rfl; done))); try simp only [Act.put, List.setIfInBounds_toArray, List.set_cons_zero, List.set_cons_succ, Nat.reduceAdd])
  ((refine pl_nx [] (v := ?_) rfl (by kernel_rfl) rfl ?_ ?_; rotate_left; focus (intro W hW; (try dsimp only at hW); go_split_ands; go_simp; (try (simp (disch := omega) only [IntWalk.i64_in]; (try go_simp))); (try (split; (next => omega); (try go_simp))); try rfl; done)); try simp only [Act.put, List.setIfInBounds_toArray, List.set_cons_zero, List.set_cons_succ, Nat.reduceAdd])
  refine pl_done (by kernel_rfl)  ?_
  rintro w2 ⟨-, -, -, -, -, -, h2⟩
  have o1 := HO.out _ h2
  have h2 := HC.out _ h2
  have hlk := fun W (hW : Chg No w2 W) => run_hasF ((H.out.keepNo h2).keepNo hW).map xf
  have hM := (H.out.keepNo h2).map
  have HLK := Lib.hid hlk
  have HM := Lib.hid hM
  have a1 := cell_obj (i := 1) o1 rfl
  have a5 := cell_obj (i := 5) o1 rfl
  have p6 := cell_obj (i := 6) (H.out.keepNo h2).obj rfl
  clear hlk hM HO HL HK
  obtain ⟨hv, hhv⟩ : ∃ v, v = hasF st.m xf := ⟨_, rfl⟩
  rw [← hhv] at HLK
  have Hhv := Lib.hid hhv
  clear hhv
  go_wp2_with (with_reducible first | refine stop_append ?_ | refine stop_copy ?_ | refine stop_make ?_ | refine stop_lookup ?_ | refine stop_update ?_ | refine stop_slice ?_ | refine stop_range ?_ | refine stop_next ?_ | refine stop_convert ⟨_, rfl⟩ ?_ | refine stop_convertB ⟨_, _, _, rfl⟩ ?_ | refine stop_eqSlice ⟨_, _, rfl⟩ ?_)
  have cd := (Chg.refl No w2).drew
  have HS := Lib.hid (show (fun W => W.cell? ⟨w.heap.size, 1, none⟩ = some (.int .i64 xf) ∧ W.cell? ⟨w.heap.size, 5, none⟩ = some (.int .i64 xn) ∧ W.cell? ⟨p, 6, none⟩ = some (.map (some r)) ∧ (Instr.lookup 99 (.map (some r)) (.int .i64 xf) false).run Try.prog W = .ok (.int .i64 hv) W) w2.drew from ⟨cd.cell a1 (not_no _), cd.cell a5 (not_no _), cd.cell p6 (not_no _), HLK.out _ cd⟩)
  clear a1 a5 p6
  refine rt_start (fun W => W.cell? ⟨w.heap.size, 1, none⟩ = some (.int .i64 xf) ∧ W.cell? ⟨w.heap.size, 5, none⟩ = some (.int .i64 xn) ∧ W.cell? ⟨p, 6, none⟩ = some (.map (some r)) ∧ (Instr.lookup 99 (.map (some r)) (.int .i64 xf) false).run Try.prog W = .ok (.int .i64 hv) W) (by kernel_rfl) ?_
  iterate 16 ((refine rt_nx [] (v := ?_) rfl (by kernel_rfl) (fun _ _ _ h => h) rfl ?_ ?_; rotate_left; focus (intro W hW; (try dsimp only at hW); go_split_ands; go_simp; (try (simp (disch := omega) only [IntWalk.i64_in]; (try go_simp))); (try (split; (next => omega); (try go_simp))); try rfl; done)); try simp only [Act.put, List.setIfInBounds_toArray, List.set_cons_zero, List.set_cons_succ, Nat.reduceAdd])
  refine rt_update (κ := Int) (β := Int) (kv := Value.int .i64) (vv := Value.int .i64) (fun W => W.cell? ⟨w.heap.size, 1, none⟩ = some (.int .i64 xf) ∧ W.cell? ⟨w.heap.size, 5, none⟩ = some (.int .i64 xn) ∧ W.cell? ⟨p, 6, none⟩ = some (.map (some r)) ∧ (Instr.lookup 99 (.map (some r)) (.int .i64 xf) false).run Try.prog W = .ok (.int .i64 hv) W) (i := 16) (by kernel_rfl) HS.out (fun _ h => h) rfl rfl klN Try.underlying99 (HM.out.keep cd (not_no _)) xf (max hv xn) rfl rfl (by simp [Act.eval]; omega) ?_
  intro w3 hm3 hc3
  have hk2 := H.out.keepNo (h2.trans cd)
  have hrp : ¬ At r p := fun g => H.out.hpr (by simp only [At] at g; exact g)
  have p7 := cell_obj (i := 7) (hc3.obj hk2.obj hrp) rfl
  have f7 := free_obj (i := 7) (hc3.obj hk2.obj hrp)
  have hrw : ¬ At r w.heap.size := fun g => by have := H.out.hS r H.out.hr; simp only [At] at g; omega
  have a6 := cell_obj (i := 6) (hc3.obj (cd.obj o1 (not_no _)) hrw) rfl
  have hnp : w.heap.size ≠ p := fun e => by have := H.out.hS p H.out.hp; omega
  have Hm3 := Lib.hid hm3; have Hc3 := Lib.hid hc3; have H2 := Lib.hid (h2.trans cd)
  have Hrp := Lib.hid hrp
  clear hm3 hk2 hrp hrw HS HLK HM Hin Hr o1
  try simp only [Act.put, List.setIfInBounds_toArray, List.set_cons_zero, List.set_cons_succ, Nat.reduceAdd]
  refine rt_done (by kernel_rfl)  ?_
  clear hc3 h2 cd
  have hfin : ∀ sb, sb = (st.sealed || xb) → Chg S w (w3.setCell ⟨p, 7, none⟩ (.bool sb)) ∧ w.heap.size ≤ (w3.setCell ⟨p, 7, none⟩ (.bool sb)).heap.size ∧ Pri (w3.setCell ⟨p, 7, none⟩ (.bool sb)) S p (hearP st xf xn xb) := fun sb hsb => by
    subst hsb
    have hs := chg_set (w := w3) (b := p) (i := 7) (.bool (st.sealed || xb))
    have hk := H.out.keepNo H2.out
    have hc := Hc3.out
    have hrw : ¬ At r p := Hrp.out
    have hz := H2.out.size
    have hz3 := hc.size
    have hop : ∀ k, OB (.slice Al st.l.length cl) k → k ≠ p ∧ k ≠ r := fun k hk => (H.out.ol k hk).2
    refine ⟨((H2.out.of_no).trans (hc.weak (fun k _ g => by simp only [At] at g; subst g; exact H.out.hr))).trans (hs.weak (fun k _ g => by simp only [At] at g; subst g; exact H.out.hp)), by simp; omega, r, _, _, _, { obj := obj_set (hc.obj hk.obj hrw) rfl, map := ?_, hS := fun k hk => by have := H.out.hS k hk; simp; omega, hp := H.out.hp, hr := H.out.hr, hpr := H.out.hpr, nodes := ?_, last := ?_, l := ?_, ol := H.out.ol }⟩
    · rw [Hhv.out] at Hm3
      exact Hm3.out.keep hs (fun g => H.out.hpr (by simp only [At] at g; exact g.symm))
    · exact (hk.nodes.keep (hc.weak (fun k _ g => .inr (.inr (.inl g))))).keep (hs.weak (fun k _ g => .inr (.inl g)))
    · exact (hk.last.keep (hc.weak (fun k _ g => .inr (.inr (.inl g))))).keep (hs.weak (fun k _ g => .inr (.inl g)))
    · exact (hk.l.keep hc (fun k _ g => .inr (.inr g)) (fun k hk' g => (hop k hk').2 g)).keep hs (fun k _ g => .inr (.inl g)) (fun k hk' g => (hop k hk').1 g)
  have Hfin := Lib.hid hfin
  clear hfin
  generalize st.sealed = se at p7 Hfin
  cases se
  all_goals
    go_wp2_with (with_reducible first | refine stop_append ?_ | refine stop_copy ?_ | refine stop_make ?_ | refine stop_lookup ?_ | refine stop_update ?_ | refine stop_slice ?_ | refine stop_range ?_ | refine stop_next ?_ | refine stop_convert ⟨_, rfl⟩ ?_ | refine stop_convertB ⟨_, _, _, rfl⟩ ?_ | refine stop_eqSlice ⟨_, _, rfl⟩ ?_)
    all_goals
      go_ret
      exact ⟨rfl, Hfin.out _ rfl⟩
set_option maxRecDepth 100000 in
set_option maxHeartbeats 8000000 in
theorem heard_yes6 (S : Nat → Prop) (p : Nat) (st : PSt) (xk xf xo xt xs xn r1 r2 e0 e1 e3 e4 e5 bal old tt : Int) (xb : Bool) (tags cut q : List Int) (s : List (List Int)) (data : ByteArray) (Ag Ac Aq As : Option Addr) (cg cc cq cs : Nat) (w : World) (h : Pri w S p st) (hb : st.nodes.length * 8 ≤ 140737488355328)
    (hk : xk = 6)
    (Hr : Hid (∀ W, Chg No w W → Calls Try.prog 48 #[.agg #[.int .i64 xk, .int .i64 xf, .int .i64 xo, .int .i64 xt, .int .i64 xs, .int .i64 xn, .bool xb, .int .i64 r1, .int .i64 r2, .slice Ag tags.length cg, .string data, .int .i64 e0, .int .i64 e1, .slice Ac cut.length cc, .int .i64 e3, .int .i64 e4, .int .i64 e5, .int .i64 bal, .int .i64 old, .int .i64 tt, .slice Aq q.length cq, .slice As s.length cs]] W fun e w' => e = .returned (.bool true) ∧ Chg No W w'))
    (ht : xt = st.t)
    (hf : decide (xf ∈ st.nodes) = true)
    (hn : ¬ (st.l.length : Int) < xn) :
    Calls Try.prog 28 #[.pointer (some ⟨p, 0, none⟩), .agg #[.int .i64 xk, .int .i64 xf, .int .i64 xo, .int .i64 xt, .int .i64 xs, .int .i64 xn, .bool xb, .int .i64 r1, .int .i64 r2, .slice Ag tags.length cg, .string data, .int .i64 e0, .int .i64 e1, .slice Ac cut.length cc, .int .i64 e3, .int .i64 e4, .int .i64 e5, .int .i64 bal, .int .i64 old, .int .i64 tt, .slice Aq q.length cq, .slice As s.length cs]] w fun e w' => e = .returned (.bool true) ∧ Chg S w w' ∧ w.heap.size ≤ w'.heap.size ∧ Pri w' S p (hearP st xf xn xb) := by
  obtain ⟨r, vn, vl, vz, h⟩ := h
  have H := Lib.hid h
  have Hin := Lib.hid (fun W (hW : Chg No w W) => lcontains_any _ vn st.nodes xf W (h.nodes.keepNo hW) hb)
  obtain ⟨An, cn, rfl⟩ := h.nodes.slice
  obtain ⟨Al, cl, rfl⟩ := h.l.slice
  have p0 := cell_obj (i := 0) h.obj rfl
  have p3 := cell_obj (i := 3) h.obj rfl
  have p4 := cell_obj (i := 4) h.obj rfl
  clear h
  subst hk
  rw [hf] at Hin
  clear hf
  subst ht
  go_enter Try.func28, Try.ntmps28
  go_wp2_with (with_reducible first | refine stop_append ?_ | refine stop_copy ?_ | refine stop_make ?_ | refine stop_lookup ?_ | refine stop_update ?_ | refine stop_slice ?_ | refine stop_range ?_ | refine stop_next ?_ | refine stop_convert ⟨_, rfl⟩ ?_ | refine stop_convertB ⟨_, _, _, rfl⟩ ?_ | refine stop_eqSlice ⟨_, _, rfl⟩ ?_ | refine stop_store ?_ | refine stop_alloc ?_ | refine stop_box ?_)
  refine step_box #[.int .i64 6, .int .i64 xf, .int .i64 xo, .int .i64 st.t, .int .i64 xs, .int .i64 xn, .bool xb, .int .i64 r1, .int .i64 r2, .slice Ag tags.length cg, .string data, .int .i64 e0, .int .i64 e1, .slice Ac cut.length cc, .int .i64 e3, .int .i64 e4, .int .i64 e5, .int .i64 bal, .int .i64 old, .int .i64 tt, .slice Aq q.length cq, .slice As s.length cs] rfl ?_
  intro w1 o1 c1 s1
  have a0 := cell_obj (i := 0) o1 rfl
  have a1 := cell_obj (i := 1) o1 rfl
  have a3 := cell_obj (i := 3) o1 rfl
  have a5 := cell_obj (i := 5) o1 rfl
  replace p0 := c1.cell p0 (not_no _)
  replace p3 := c1.cell p3 (not_no _)
  replace p4 := c1.cell p4 (not_no _)
  have HO := Lib.hid (fun W (hW : Chg No w1 W) => hW.obj o1 (not_no _))
  have HC := Lib.hid (fun W (hW : Chg No w1 W) => c1.trans hW)
  clear o1 s1
  go_wp2_with (with_reducible first | refine stop_append ?_ | refine stop_copy ?_ | refine stop_make ?_ | refine stop_lookup ?_ | refine stop_update ?_ | refine stop_slice ?_ | refine stop_range ?_ | refine stop_next ?_ | refine stop_convert ⟨_, rfl⟩ ?_ | refine stop_convertB ⟨_, _, _, rfl⟩ ?_ | refine stop_eqSlice ⟨_, _, rfl⟩ ?_ | refine stop_store ?_ | refine stop_alloc ?_ | refine stop_box ?_)
  have cd := (Chg.refl No w1).drew
  have HK := Lib.hid (show ∀ W W', (fun W => W.cell? ⟨w.heap.size, 1, none⟩ = some (.int .i64 xf) ∧ W.cell? ⟨w.heap.size, 3, none⟩ = some (.int .i64 st.t) ∧ W.cell? ⟨w.heap.size, 5, none⟩ = some (.int .i64 xn) ∧ W.cell? ⟨p, 0, none⟩ = some (.int .i64 st.t) ∧ W.cell? ⟨p, 3, none⟩ = some (.slice An st.nodes.length cn) ∧ W.cell? ⟨p, 4, none⟩ = some (.slice Al st.l.length cl) ∧ Chg No w1 W) W → Chg No W W' → (fun W => W.cell? ⟨w.heap.size, 1, none⟩ = some (.int .i64 xf) ∧ W.cell? ⟨w.heap.size, 3, none⟩ = some (.int .i64 st.t) ∧ W.cell? ⟨w.heap.size, 5, none⟩ = some (.int .i64 xn) ∧ W.cell? ⟨p, 0, none⟩ = some (.int .i64 st.t) ∧ W.cell? ⟨p, 3, none⟩ = some (.slice An st.nodes.length cn) ∧ W.cell? ⟨p, 4, none⟩ = some (.slice Al st.l.length cl) ∧ Chg No w1 W) W' from fun W W' h hc => ⟨hc.cell h.1 (not_no _), hc.cell h.2.1 (not_no _), hc.cell h.2.2.1 (not_no _), hc.cell h.2.2.2.1 (not_no _), hc.cell h.2.2.2.2.1 (not_no _), hc.cell h.2.2.2.2.2.1 (not_no _), h.2.2.2.2.2.2.trans hc⟩)
  have HL := Lib.hid (fun W (h : (fun W => W.cell? ⟨w.heap.size, 1, none⟩ = some (.int .i64 xf) ∧ W.cell? ⟨w.heap.size, 3, none⟩ = some (.int .i64 st.t) ∧ W.cell? ⟨w.heap.size, 5, none⟩ = some (.int .i64 xn) ∧ W.cell? ⟨p, 0, none⟩ = some (.int .i64 st.t) ∧ W.cell? ⟨p, 3, none⟩ = some (.slice An st.nodes.length cn) ∧ W.cell? ⟨p, 4, none⟩ = some (.slice Al st.l.length cl) ∧ Chg No w1 W) W) => cells_of_obj (HO.out W h.2.2.2.2.2.2))
  refine pl_start (fun W => W.cell? ⟨w.heap.size, 1, none⟩ = some (.int .i64 xf) ∧ W.cell? ⟨w.heap.size, 3, none⟩ = some (.int .i64 st.t) ∧ W.cell? ⟨w.heap.size, 5, none⟩ = some (.int .i64 xn) ∧ W.cell? ⟨p, 0, none⟩ = some (.int .i64 st.t) ∧ W.cell? ⟨p, 3, none⟩ = some (.slice An st.nodes.length cn) ∧ W.cell? ⟨p, 4, none⟩ = some (.slice Al st.l.length cl) ∧ Chg No w1 W) (by kernel_rfl) (by kernel_rfl) ⟨cd.cell a1 (not_no _), cd.cell a3 (not_no _), cd.cell a5 (not_no _), cd.cell p0 (not_no _), cd.cell p3 (not_no _), cd.cell p4 (not_no _), cd⟩ ?_
  clear a0 a1 a3 a5 p0 p3 p4 cd
  iterate 3 ((refine pl_nx [3] (v := ?_) rfl (by kernel_rfl) rfl ?_ ?_; rotate_left; focus (intro W hW; (try dsimp only at hW); go_split_ands; go_simp; (try (simp (disch := omega) only [IntWalk.i64_in]; (try go_simp))); (try (split; (next => omega); (try go_simp))); try rfl; done)); try simp only [Act.put, List.setIfInBounds_toArray, List.set_cons_zero, List.set_cons_succ, Nat.reduceAdd])
  refine pl_yesx 3 (.agg #[.int .i64 6, .int .i64 xf, .int .i64 xo, .int .i64 st.t, .int .i64 xs, .int .i64 xn, .bool xb, .int .i64 r1, .int .i64 r2, .slice Ag tags.length cg, .string data, .int .i64 e0, .int .i64 e1, .slice Ac cut.length cc, .int .i64 e3, .int .i64 e4, .int .i64 e5, .int .i64 bal, .int .i64 old, .int .i64 tt, .slice Aq q.length cq, .slice As s.length cs]) rfl (by kernel_rfl) rfl (by exact (fun W hW => run_load_at 79 _ rfl w.heap.size 0 rfl #[.int .i64 6, .int .i64 xf, .int .i64 xo, .int .i64 st.t, .int .i64 xs, .int .i64 xn, .bool xb, .int .i64 r1, .int .i64 r2, .slice Ag tags.length cg, .string data, .int .i64 e0, .int .i64 e1, .slice Ac cut.length cc, .int .i64 e3, .int .i64 e4, .int .i64 e5, .int .i64 bal, .int .i64 old, .int .i64 tt, .slice Aq q.length cq, .slice As s.length cs] (HL.out W hW) Try.underlying79 rfl (by kernel_rfl))) ?_
  try simp only [Act.put, List.setIfInBounds_toArray, List.set_cons_zero, List.set_cons_succ, Nat.reduceAdd]
  refine pl_callx 4 (.bool true) rfl (by kernel_rfl) rfl (by exact (fun W hW => (Hr.out W (HC.out _ hW.2.2.2.2.2.2)).mono (fun e w' h => ⟨h.1, HK.out _ _ hW h.2⟩))) (fun W => by kernel_rfl) ?_
  try simp only [Act.put, List.setIfInBounds_toArray, List.set_cons_zero, List.set_cons_succ, Nat.reduceAdd]
  ((first | (refine pl_nn [] rfl (by kernel_rfl) rfl ?_) | (refine pl_nx [] (v := ?_) rfl (by kernel_rfl) rfl ?_ ?_; rotate_left; focus (intro W hW; (try dsimp only at hW); go_split_ands; go_simp; (try (simp (disch := omega) only [IntWalk.i64_in]; (try go_simp))); (try (split; (next => omega); (try go_simp))); try rfl; done))); try simp only [Act.put, List.setIfInBounds_toArray, List.set_cons_zero, List.set_cons_succ, Nat.reduceAdd])
  iterate 2 ((refine pl_nx [] (v := ?_) rfl (by kernel_rfl) rfl ?_ ?_; rotate_left; focus (intro W hW; (try dsimp only at hW); go_split_ands; go_simp; (try (simp (disch := omega) only [IntWalk.i64_in]; (try go_simp))); (try (split; (next => omega); (try go_simp))); try rfl; done)); try simp only [Act.put, List.setIfInBounds_toArray, List.set_cons_zero, List.set_cons_succ, Nat.reduceAdd])
  iterate 7 ((first | (refine pl_nn [] rfl (by kernel_rfl) rfl ?_) | (refine pl_nx [] (v := ?_) rfl (by kernel_rfl) rfl ?_ ?_; rotate_left; focus (intro W hW; (try dsimp only at hW); go_split_ands; go_simp; (try (simp (disch := omega) only [IntWalk.i64_in]; (try go_simp))); (try (split; (next => omega); (try go_simp))); try rfl; done))); try simp only [Act.put, List.setIfInBounds_toArray, List.set_cons_zero, List.set_cons_succ, Nat.reduceAdd])
  iterate 2 ((refine pl_nx [] (v := ?_) rfl (by kernel_rfl) rfl ?_ ?_; rotate_left; focus (intro W hW; (try dsimp only at hW); go_split_ands; go_simp; (try (simp (disch := omega) only [IntWalk.i64_in]; (try go_simp))); (try (split; (next => omega); (try go_simp))); try rfl; done)); try simp only [Act.put, List.setIfInBounds_toArray, List.set_cons_zero, List.set_cons_succ, Nat.reduceAdd])
  iterate 6 ((first | (refine pl_nn [] rfl (by kernel_rfl) rfl ?_) | (refine pl_nx [] (v := ?_) rfl (by kernel_rfl) rfl ?_ ?_; rotate_left; focus (intro W hW; (try dsimp only at hW); go_split_ands; go_simp; (try (simp (disch := omega) only [IntWalk.i64_in]; (try go_simp))); (try (split; (next => omega); (try go_simp))); try rfl; done))); try simp only [Act.put, List.setIfInBounds_toArray, List.set_cons_zero, List.set_cons_succ, Nat.reduceAdd])
  refine pl_callx 23 (.bool true) rfl (by kernel_rfl) rfl (by exact (fun W hW => (Hin.out W (HC.out _ hW.2.2.2.2.2.2)).mono (fun e w' h => ⟨h.1, HK.out _ _ hW h.2⟩))) (fun W => by kernel_rfl) ?_
  try simp only [Act.put, List.setIfInBounds_toArray, List.set_cons_zero, List.set_cons_succ, Nat.reduceAdd]
  ((first | (refine pl_nn [] rfl (by kernel_rfl) rfl ?_) | (refine pl_nx [] (v := ?_) rfl (by kernel_rfl) rfl ?_ ?_; rotate_left; focus (intro W hW; (try dsimp only at hW); go_split_ands; go_simp; (try (simp (disch := omega) only [IntWalk.i64_in]; (try go_simp))); (try (split; (next => omega); (try go_simp))); try rfl; done))); try simp only [Act.put, List.setIfInBounds_toArray, List.set_cons_zero, List.set_cons_succ, Nat.reduceAdd])
  iterate 2 ((refine pl_nx [] (v := ?_) rfl (by kernel_rfl) rfl ?_ ?_; rotate_left; focus (intro W hW; (try dsimp only at hW); go_split_ands; go_simp; (try (simp (disch := omega) only [IntWalk.i64_in]; (try go_simp))); (try (split; (next => omega); (try go_simp))); try rfl; done)); try simp only [Act.put, List.setIfInBounds_toArray, List.set_cons_zero, List.set_cons_succ, Nat.reduceAdd])
  iterate 8 ((first | (refine pl_nn [] rfl (by kernel_rfl) rfl ?_) | (refine pl_nx [] (v := ?_) rfl (by kernel_rfl) rfl ?_ ?_; rotate_left; focus (intro W hW; (try dsimp only at hW); go_split_ands; go_simp; (try (simp (disch := omega) only [IntWalk.i64_in]; (try go_simp))); (try (split; (next => omega); (try go_simp))); try rfl; done))); try simp only [Act.put, List.setIfInBounds_toArray, List.set_cons_zero, List.set_cons_succ, Nat.reduceAdd])
  ((refine pl_nx [] (v := ?_) rfl (by kernel_rfl) rfl ?_ ?_; rotate_left; focus (intro W hW; (try dsimp only at hW); go_split_ands; go_simp; (try (simp (disch := omega) only [IntWalk.i64_in]; (try go_simp))); (try (split; (next => omega); (try go_simp))); try rfl; done)); try simp only [Act.put, List.setIfInBounds_toArray, List.set_cons_zero, List.set_cons_succ, Nat.reduceAdd])
  refine pl_done (by kernel_rfl)  ?_
  rintro w2 ⟨-, -, -, -, -, -, h2⟩
  have o1 := HO.out _ h2
  have h2 := HC.out _ h2
  have hlk := fun W (hW : Chg No w2 W) => run_hasF ((H.out.keepNo h2).keepNo hW).map xf
  have hM := (H.out.keepNo h2).map
  have HLK := Lib.hid hlk
  have HM := Lib.hid hM
  have a1 := cell_obj (i := 1) o1 rfl
  have a5 := cell_obj (i := 5) o1 rfl
  have p6 := cell_obj (i := 6) (H.out.keepNo h2).obj rfl
  clear hlk hM HO HL HK
  obtain ⟨hv, hhv⟩ : ∃ v, v = hasF st.m xf := ⟨_, rfl⟩
  rw [← hhv] at HLK
  have Hhv := Lib.hid hhv
  clear hhv
  go_wp2_with (with_reducible first | refine stop_append ?_ | refine stop_copy ?_ | refine stop_make ?_ | refine stop_lookup ?_ | refine stop_update ?_ | refine stop_slice ?_ | refine stop_range ?_ | refine stop_next ?_ | refine stop_convert ⟨_, rfl⟩ ?_ | refine stop_convertB ⟨_, _, _, rfl⟩ ?_ | refine stop_eqSlice ⟨_, _, rfl⟩ ?_)
  have cd := (Chg.refl No w2).drew
  have HS := Lib.hid (show (fun W => W.cell? ⟨w.heap.size, 1, none⟩ = some (.int .i64 xf) ∧ W.cell? ⟨w.heap.size, 5, none⟩ = some (.int .i64 xn) ∧ W.cell? ⟨p, 6, none⟩ = some (.map (some r)) ∧ (Instr.lookup 99 (.map (some r)) (.int .i64 xf) false).run Try.prog W = .ok (.int .i64 hv) W) w2.drew from ⟨cd.cell a1 (not_no _), cd.cell a5 (not_no _), cd.cell p6 (not_no _), HLK.out _ cd⟩)
  clear a1 a5 p6
  refine rt_start (fun W => W.cell? ⟨w.heap.size, 1, none⟩ = some (.int .i64 xf) ∧ W.cell? ⟨w.heap.size, 5, none⟩ = some (.int .i64 xn) ∧ W.cell? ⟨p, 6, none⟩ = some (.map (some r)) ∧ (Instr.lookup 99 (.map (some r)) (.int .i64 xf) false).run Try.prog W = .ok (.int .i64 hv) W) (by kernel_rfl) ?_
  iterate 16 ((refine rt_nx [] (v := ?_) rfl (by kernel_rfl) (fun _ _ _ h => h) rfl ?_ ?_; rotate_left; focus (intro W hW; (try dsimp only at hW); go_split_ands; go_simp; (try (simp (disch := omega) only [IntWalk.i64_in]; (try go_simp))); (try (split; (next => omega); (try go_simp))); try rfl; done)); try simp only [Act.put, List.setIfInBounds_toArray, List.set_cons_zero, List.set_cons_succ, Nat.reduceAdd])
  refine rt_update (κ := Int) (β := Int) (kv := Value.int .i64) (vv := Value.int .i64) (fun W => W.cell? ⟨w.heap.size, 1, none⟩ = some (.int .i64 xf) ∧ W.cell? ⟨w.heap.size, 5, none⟩ = some (.int .i64 xn) ∧ W.cell? ⟨p, 6, none⟩ = some (.map (some r)) ∧ (Instr.lookup 99 (.map (some r)) (.int .i64 xf) false).run Try.prog W = .ok (.int .i64 hv) W) (i := 16) (by kernel_rfl) HS.out (fun _ h => h) rfl rfl klN Try.underlying99 (HM.out.keep cd (not_no _)) xf (max hv xn) rfl rfl (by simp [Act.eval]; omega) ?_
  intro w3 hm3 hc3
  have hk2 := H.out.keepNo (h2.trans cd)
  have hrp : ¬ At r p := fun g => H.out.hpr (by simp only [At] at g; exact g)
  have p7 := cell_obj (i := 7) (hc3.obj hk2.obj hrp) rfl
  have f7 := free_obj (i := 7) (hc3.obj hk2.obj hrp)
  have hrw : ¬ At r w.heap.size := fun g => by have := H.out.hS r H.out.hr; simp only [At] at g; omega
  have a6 := cell_obj (i := 6) (hc3.obj (cd.obj o1 (not_no _)) hrw) rfl
  have hnp : w.heap.size ≠ p := fun e => by have := H.out.hS p H.out.hp; omega
  have Hm3 := Lib.hid hm3; have Hc3 := Lib.hid hc3; have H2 := Lib.hid (h2.trans cd)
  have Hrp := Lib.hid hrp
  clear hm3 hk2 hrp hrw HS HLK HM Hin Hr o1
  try simp only [Act.put, List.setIfInBounds_toArray, List.set_cons_zero, List.set_cons_succ, Nat.reduceAdd]
  refine rt_done (by kernel_rfl)  ?_
  clear hc3 h2 cd
  have hfin : ∀ sb, sb = (st.sealed || xb) → Chg S w (w3.setCell ⟨p, 7, none⟩ (.bool sb)) ∧ w.heap.size ≤ (w3.setCell ⟨p, 7, none⟩ (.bool sb)).heap.size ∧ Pri (w3.setCell ⟨p, 7, none⟩ (.bool sb)) S p (hearP st xf xn xb) := fun sb hsb => by
    subst hsb
    have hs := chg_set (w := w3) (b := p) (i := 7) (.bool (st.sealed || xb))
    have hk := H.out.keepNo H2.out
    have hc := Hc3.out
    have hrw : ¬ At r p := Hrp.out
    have hz := H2.out.size
    have hz3 := hc.size
    have hop : ∀ k, OB (.slice Al st.l.length cl) k → k ≠ p ∧ k ≠ r := fun k hk => (H.out.ol k hk).2
    refine ⟨((H2.out.of_no).trans (hc.weak (fun k _ g => by simp only [At] at g; subst g; exact H.out.hr))).trans (hs.weak (fun k _ g => by simp only [At] at g; subst g; exact H.out.hp)), by simp; omega, r, _, _, _, { obj := obj_set (hc.obj hk.obj hrw) rfl, map := ?_, hS := fun k hk => by have := H.out.hS k hk; simp; omega, hp := H.out.hp, hr := H.out.hr, hpr := H.out.hpr, nodes := ?_, last := ?_, l := ?_, ol := H.out.ol }⟩
    · rw [Hhv.out] at Hm3
      exact Hm3.out.keep hs (fun g => H.out.hpr (by simp only [At] at g; exact g.symm))
    · exact (hk.nodes.keep (hc.weak (fun k _ g => .inr (.inr (.inl g))))).keep (hs.weak (fun k _ g => .inr (.inl g)))
    · exact (hk.last.keep (hc.weak (fun k _ g => .inr (.inr (.inl g))))).keep (hs.weak (fun k _ g => .inr (.inl g)))
    · exact (hk.l.keep hc (fun k _ g => .inr (.inr g)) (fun k hk' g => (hop k hk').2 g)).keep hs (fun k _ g => .inr (.inl g)) (fun k hk' g => (hop k hk').1 g)
  have Hfin := Lib.hid hfin
  clear hfin
  generalize st.sealed = se at p7 Hfin
  cases se
  all_goals
    go_wp2_with (with_reducible first | refine stop_append ?_ | refine stop_copy ?_ | refine stop_make ?_ | refine stop_lookup ?_ | refine stop_update ?_ | refine stop_slice ?_ | refine stop_range ?_ | refine stop_next ?_ | refine stop_convert ⟨_, rfl⟩ ?_ | refine stop_convertB ⟨_, _, _, rfl⟩ ?_ | refine stop_eqSlice ⟨_, _, rfl⟩ ?_)
    all_goals
      go_ret
      exact ⟨rfl, Hfin.out _ rfl⟩
end Go.Proofs.Yticimjplegbagaa


/- Walks of package quorum: Heard of any message, Len, Missing. -/
set_option linter.unusedVariables false
set_option linter.unusedSimpArgs false
namespace Go.Proofs.Yticimjplegbagaa
open Go.RowKit Cb

def HeardPost (S : Nat → Prop) (p : Nat) (w : World) (r : PSt × Bool) (e : Ending) (w' : World) : Prop := e = .returned (.bool r.2) ∧ Chg S w w' ∧ Pri w' S p r.1
theorem pheard_any (S F : Nat → Prop) (p : Nat) (st : PSt) (m : Msg) (vt vc vq vs : Value) (w : World) (h : Pri w S p st) (hm : MsgS F w m vt vc vq vs) (hb : MsgB m) (hn : st.nodes.length ≤ 1000000) :
    Calls Try.prog 28 #[.pointer (some ⟨p, 0, none⟩), msgV m vt vc vq vs] w (HeardPost S p w (heardF st m)) := by
  have hno : heardF st m = (st, false) → (∀ e w', (e = .returned (.bool false) ∧ Chg No w w') → HeardPost S p w (heardF st m) e w') := fun he e w' hh => by rw [he]; exact ⟨hh.1, hh.2.of_no, h.keepNo hh.2⟩
  have hR : (m.1.1 = 4 ∨ m.1.1 = 6) → Hid (∀ W, Chg No w W → Calls Try.prog 48 #[msgV m vt vc vq vs] W fun e w' => e = .returned (.bool (right46 m)) ∧ Chg No W w') := fun hk W hW => right_46 F m vt vc vq vs W (hm.keepNo hW) hb hk
  have hf : heardF st m = if hearB st m = true then (hearP st m.1.2.1 m.2.1.2 m.2.2.1, true) else (st, false) := rfl
  have hB : hearB st m = (decide (m.1.1 = 4 ∨ m.1.1 = 6) && (right46 m && (decide (m.1.2.2.2 = st.t) && (decide (m.1.2.1 ∈ st.nodes) && decide (m.2.1.2 ≤ (st.l.length : Int)))))) := rfl
  obtain ⟨Ag, cg, rfl⟩ := hm.t.slice
  obtain ⟨Ac, cc, rfl⟩ := hm.c.slice
  obtain ⟨Aq, cq, rfl⟩ := hm.q.slice
  obtain ⟨As, cs, rfl⟩ := hm.s.slice
  generalize heardF st m = res at *
  generalize hearB st m = hb0 at *
  generalize right46 m = rb at *
  clear hm
  have hnl : st.nodes.length * 8 ≤ 140737488355328 := by omega
  by_cases hk : m.1.1 = 4 ∨ m.1.1 = 6
  · replace hR := hR hk
    have hk' := hk
    simp only [hk, decide_true, Bool.true_and] at hB
    obtain ⟨⟨xk, xf, xo, xt⟩, ⟨xs, xn⟩, xb, ⟨⟨r1, r2⟩, tags, data⟩, ⟨e0, e1, cut, e3, e4, e5⟩, ⟨bal, old⟩, tt, q, s⟩ := m
    unfold msgV at *
    simp only at *
    cases rb
    · have he : res = (st, false) := by rw [hf, hB]; simp
      rcases hk' with hk' | hk'
      · exact (heard_right4 S p st xk xf xo xt xs xn r1 r2 e0 e1 e3 e4 e5 bal old tt xb tags cut q s data Ag Ac Aq As cg cc cq cs w h hnl hk' hR).mono (hno he)
      · exact (heard_right6 S p st xk xf xo xt xs xn r1 r2 e0 e1 e3 e4 e5 bal old tt xb tags cut q s data Ag Ac Aq As cg cc cq cs w h hnl hk' hR).mono (hno he)
    · by_cases ht : xt = st.t
      · by_cases hfr : xf ∈ st.nodes
        · by_cases hnn : xn ≤ (st.l.length : Int)
          · have he : res = (hearP st xf xn xb, true) := by rw [hf, hB]; simp [ht, hfr, hnn]
            have hyes : ∀ e w', (e = .returned (.bool true) ∧ Chg S w w' ∧ w.heap.size ≤ w'.heap.size ∧ Pri w' S p (hearP st xf xn xb)) → HeardPost S p w res e w' := fun e w' hh => by rw [he]; exact ⟨hh.1, hh.2.1, hh.2.2.2⟩
            rcases hk' with hk' | hk'
            · exact (heard_yes4 S p st xk xf xo xt xs xn r1 r2 e0 e1 e3 e4 e5 bal old tt xb tags cut q s data Ag Ac Aq As cg cc cq cs w h hnl hk' hR ht (decide_eq_true hfr) (by omega)).mono hyes
            · exact (heard_yes6 S p st xk xf xo xt xs xn r1 r2 e0 e1 e3 e4 e5 bal old tt xb tags cut q s data Ag Ac Aq As cg cc cq cs w h hnl hk' hR ht (decide_eq_true hfr) (by omega)).mono hyes
          · have he : res = (st, false) := by rw [hf, hB]; simp [hnn]
            rcases hk' with hk' | hk'
            · exact (heard_number4 S p st xk xf xo xt xs xn r1 r2 e0 e1 e3 e4 e5 bal old tt xb tags cut q s data Ag Ac Aq As cg cc cq cs w h hnl hk' hR ht (decide_eq_true hfr) (by omega)).mono (hno he)
            · exact (heard_number6 S p st xk xf xo xt xs xn r1 r2 e0 e1 e3 e4 e5 bal old tt xb tags cut q s data Ag Ac Aq As cg cc cq cs w h hnl hk' hR ht (decide_eq_true hfr) (by omega)).mono (hno he)
        · have he : res = (st, false) := by rw [hf, hB]; simp [hfr]
          rcases hk' with hk' | hk'
          · exact (heard_from4 S p st xk xf xo xt xs xn r1 r2 e0 e1 e3 e4 e5 bal old tt xb tags cut q s data Ag Ac Aq As cg cc cq cs w h hnl hk' hR ht (decide_eq_false hfr)).mono (hno he)
          · exact (heard_from6 S p st xk xf xo xt xs xn r1 r2 e0 e1 e3 e4 e5 bal old tt xb tags cut q s data Ag Ac Aq As cg cc cq cs w h hnl hk' hR ht (decide_eq_false hfr)).mono (hno he)
      · have he : res = (st, false) := by rw [hf, hB]; simp [ht]
        rcases hk' with hk' | hk'
        · exact (heard_term4 S p st xk xf xo xt xs xn r1 r2 e0 e1 e3 e4 e5 bal old tt xb tags cut q s data Ag Ac Aq As cg cc cq cs w h hnl hk' hR (by simpa using ht)).mono (hno he)
        · exact (heard_term6 S p st xk xf xo xt xs xn r1 r2 e0 e1 e3 e4 e5 bal old tt xb tags cut q s data Ag Ac Aq As cg cc cq cs w h hnl hk' hR (by simpa using ht)).mono (hno he)
  · have he : res = (st, false) := by rw [hf, hB]; simp [hk]
    have h4 : (m.1.1 == 4) = false := by simpa using fun e => hk (.inl e)
    have h6 : (m.1.1 == 6) = false := by simpa using fun e => hk (.inr e)
    obtain ⟨⟨xk, xf, xo, xt⟩, ⟨xs, xn⟩, xb, ⟨⟨r1, r2⟩, tags, data⟩, ⟨e0, e1, cut, e3, e4, e5⟩, ⟨bal, old⟩, tt, q, s⟩ := m
    exact (heard_kind S p st xk xf xo xt xs xn r1 r2 e0 e1 e3 e4 e5 bal old tt xb tags cut q s data Ag Ac Aq As cg cc cq cs w h hnl h4 h6).mono (hno he)
def missF (st : PSt) (x : Int) : List Ent := if x ∈ st.nodes then st.l.drop (hasF st.m x).toNat else []
set_option maxRecDepth 100000 in
set_option maxHeartbeats 4000000 in
theorem pmissing_any (S : Nat → Prop) (p : Nat) (st : PSt) (x : Int) (w : World) (h : Pri w S p st) (hn : st.nodes.length ≤ 1000000) (hl : st.l.length ≤ 1000000) (hcb : ∀ e ∈ st.l, e.2.2.1.length ≤ 1000000) (hh : 0 ≤ hasF st.m x ∧ hasF st.m x ≤ (st.l.length : Int)) :
    Calls Try.prog 26 #[.pointer (some ⟨p, 0, none⟩), .int .i64 x] w fun e w' => ∃ v', e = .returned v' ∧ Chg No w w' ∧ Sl (Lt w.heap.size) w' v' (missF st x) := by
  obtain ⟨r, vn, vl, vz, h⟩ := h
  have Hin := Lib.hid (lcontains_any _ vn st.nodes x w h.nodes (by omega))
  have hres : missF st x = if x ∈ st.nodes then st.l.drop (hasF st.m x).toNat else [] := rfl
  have Hlk := Lib.hid (fun W (hW : Chg No w W) => run_hasF (h.keepNo hW).map x)
  obtain ⟨n, hn0⟩ : ∃ n : Nat, hasF st.m x = n := ⟨(hasF st.m x).toNat, by omega⟩
  rw [hn0] at Hlk hres hh
  rw [Int.toNat_natCast] at hres
  have hsl : Sl No w vl st.l := (h.l.sl (fun k hk g => by rcases g with g | g | g; exact g (h.ol k hk).1; exact (h.ol k hk).2.1 g; exact (h.ol k hk).2.2 g)).no
  obtain ⟨An, cn, rfl⟩ := h.nodes.slice
  obtain ⟨Al, cl, rfl⟩ := h.l.slice
  have hlc := hsl.len.2
  obtain ⟨A', c', hcut, hsl'⟩ := run_cut_lo (α := Ent) (P := Try.prog) Try.underlying43 info_ent Al st.l.length cl n (by omega) hlc
  have hdl : (st.l.drop n).length = st.l.length - n := List.length_drop
  have Hall := Lib.hid (fun W (hW : Chg No w W) => qall_any (.slice A' (st.l.length - n) c') (st.l.drop n) W ((hsl' No w st.l hsl).keepNo hW) (by omega) (fun e he => hcb e (List.mem_of_mem_drop he)))
  have p3 := cell_obj (i := 3) h.obj rfl
  have p4 := cell_obj (i := 4) h.obj rfl
  have p6 := cell_obj (i := 6) h.obj rfl
  have Hres := Lib.hid hres
  clear h hsl hres hn0 hcb hsl' hdl
  generalize missF st x = mf at *
  go_enter Try.func26, Try.ntmps26
  go_wp2_with (with_reducible first | refine stop_append ?_ | refine stop_copy ?_ | refine stop_make ?_ | refine stop_lookup ?_ | refine stop_update ?_ | refine stop_slice ?_ | refine stop_range ?_ | refine stop_next ?_ | refine stop_convert ⟨_, rfl⟩ ?_ | refine stop_convertB ⟨_, _, _, rfl⟩ ?_ | refine stop_eqSlice ⟨_, _, rfl⟩ ?_)
  refine Hin.out.mono ?_
  rintro e w1 ⟨rfl, hc1⟩
  replace p4 := hc1.cell p4 (not_no _)
  replace p6 := hc1.cell p6 (not_no _)
  by_cases hx : x ∈ st.nodes
  · have hdx : decide (x ∈ st.nodes) = true := decide_eq_true hx
    obtain rfl : mf = st.l.drop n := by rw [Hres.out, if_pos hx]
    rw [hdx]
    clear hx hdx Hres
    go_wp2_with (with_reducible first | refine stop_append ?_ | refine stop_copy ?_ | refine stop_make ?_ | refine stop_lookup ?_ | refine stop_update ?_ | refine stop_slice ?_ | refine stop_range ?_ | refine stop_next ?_ | refine stop_convert ⟨_, rfl⟩ ?_ | refine stop_convertB ⟨_, _, _, rfl⟩ ?_ | refine stop_eqSlice ⟨_, _, rfl⟩ ?_)
    have cd := (Chg.refl No w1).drew
    have HS := Lib.hid (show ∀ W, Chg No w1 W → (fun W => W.cell? ⟨p, 4, none⟩ = some (.slice Al st.l.length cl) ∧ W.cell? ⟨p, 6, none⟩ = some (.map (some r)) ∧ (Instr.lookup 99 (.map (some r)) (.int .i64 x) false).run Try.prog W = .ok (.int .i64 n) W) W from fun W hW => ⟨hW.cell p4 (not_no _), hW.cell p6 (not_no _), Hlk.out _ (hc1.trans hW)⟩)
    clear p3 p4 p6
    refine rt_start (fun W => W.cell? ⟨p, 4, none⟩ = some (.slice Al st.l.length cl) ∧ W.cell? ⟨p, 6, none⟩ = some (.map (some r)) ∧ (Instr.lookup 99 (.map (some r)) (.int .i64 x) false).run Try.prog W = .ok (.int .i64 n) W) (by kernel_rfl) ?_
    iterate 11 ((refine rt_nx [] (v := ?_) rfl (by kernel_rfl) (fun _ _ _ h => h) rfl ?_ ?_; rotate_left; focus (intro W hW; (try dsimp only at hW); go_split_ands; go_simp; (try (simp (disch := omega) only [IntWalk.i64_in]; (try go_simp))); (try (split; (next => omega); (try go_simp))); try rfl; done)); try simp only [Act.put, List.setIfInBounds_toArray, List.set_cons_zero, List.set_cons_succ, Nat.reduceAdd])
    refine rt_kx (fun W => W.cell? ⟨p, 4, none⟩ = some (.slice Al st.l.length cl) ∧ W.cell? ⟨p, 6, none⟩ = some (.map (some r)) ∧ (Instr.lookup 99 (.map (some r)) (.int .i64 x) false).run Try.prog W = .ok (.int .i64 n) W) 11 (by kernel_rfl) (HS.out _ cd) (fun _ h => h) rfl (by rfl) (fun K hK => ?_)
    go_simp
    refine (Hall.out _ (hc1.trans cd)).mono ?_
    rintro e w2 ⟨v2, rfl, hc2, hs2⟩
    obtain ⟨A2, c2, rfl⟩ := hs2.slice
    have cd2 := cd.trans hc2
    refine hK _ _ ?_
    clear hK K
    try simp only [Act.put, List.setIfInBounds_toArray, List.set_cons_zero, List.set_cons_succ]
    refine rt_kx (fun W => W.cell? ⟨p, 4, none⟩ = some (.slice Al st.l.length cl) ∧ W.cell? ⟨p, 6, none⟩ = some (.map (some r)) ∧ (Instr.lookup 99 (.map (some r)) (.int .i64 x) false).run Try.prog W = .ok (.int .i64 n) W) 12 (by kernel_rfl) (HS.out _ cd2) (fun _ h => h) rfl (by rfl) (fun K hK => ?_)
    go_simp
    refine hK _ _ ?_
    clear hK K
    try simp only [Act.put, List.setIfInBounds_toArray, List.set_cons_zero, List.set_cons_succ]
    refine rt_done (by kernel_rfl)  ?_
    have Hs2 := Lib.hid (show Sl (Lt w1.drew.heap.size) w2 (.slice A2 (st.l.length - n) c2) (st.l.drop n) by rw [← List.length_drop]; exact hs2)
    clear hs2
    go_wp2_with (with_reducible first | refine stop_append ?_ | refine stop_copy ?_ | refine stop_make ?_ | refine stop_lookup ?_ | refine stop_update ?_ | refine stop_slice ?_ | refine stop_range ?_ | refine stop_next ?_ | refine stop_convert ⟨_, rfl⟩ ?_ | refine stop_convertB ⟨_, _, _, rfl⟩ ?_ | refine stop_eqSlice ⟨_, _, rfl⟩ ?_)
    go_ret
    have hz := hc1.size
    exact ⟨_, rfl, hc1.trans cd2, Hs2.out.weak (fun k _ g => by simp only [Lt] at g ⊢; have hdr : w1.drew.heap.size = w1.heap.size := rfl; omega)⟩
  · have hdx : decide (x ∈ st.nodes) = false := decide_eq_false hx
    obtain rfl : mf = [] := by rw [Hres.out, if_neg hx]
    rw [hdx]
    clear hx hdx Hres
    go_wp2_with (with_reducible first | refine stop_append ?_ | refine stop_copy ?_ | refine stop_make ?_ | refine stop_lookup ?_ | refine stop_update ?_ | refine stop_slice ?_ | refine stop_range ?_ | refine stop_next ?_ | refine stop_convert ⟨_, rfl⟩ ?_ | refine stop_convertB ⟨_, _, _, rfl⟩ ?_ | refine stop_eqSlice ⟨_, _, rfl⟩ ?_)
    go_ret
    exact ⟨_, rfl, hc1, Sl.nil _ _ _ _⟩
end Go.Proofs.Yticimjplegbagaa

