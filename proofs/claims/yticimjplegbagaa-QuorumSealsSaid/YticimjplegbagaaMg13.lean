/- Texts QuoJ, QuoL, QuoM, QuoP. -/
import Derived.Test.YticimjplegbagaaMg12
import Derived.WideLaws
/- Walks of package quorum: Done, Tail and Heard of a sealer. -/
set_option linter.unusedVariables false
set_option linter.unusedSimpArgs false
namespace Cb
open Go
theorem run_len_op {P : Program} {a : Act} {w : World} {o : Oper} {x : Operand} {t K E : TypeId} {r : Nat} {es : Array MapEntry} {clk : Nat} (hop : o.op = .call ⟨.builtin .len, #[x], #[t]⟩) (hx : a.eval x = .map (some r)) (h : P.underlying t = some (.map K E))
    (hb : w.heap[r]? = some (.map es clk)) : (execOp a.eval o).run P w = .ok (.value (.int .i64 es.size)) w := by
  have hr := run_len_map (P := P) (w := w) t o.type r es clk (by simp [Program.mapKeyOf, Program.mapElemOf, h]) hb
  simp only [execOp, hop, resolve, invoke, builtin, Sem.run_bind, Sem.run_pure, Result.andThen_ok, List.map_toArray, List.map_cons, List.map_nil, hx, hr]
  rfl
end Cb
namespace Go.Proofs.Yticimjplegbagaa
open Go.RowKit Cb

def doneS (st : SSt) : Bool := decide (st.need ≤ st.m.length)
set_option maxRecDepth 100000 in
set_option maxHeartbeats 2000000 in
theorem sdone_any (S : Nat → Prop) (p : Nat) (st : SSt) (w : World) (h : Sea w S p st) : Calls Try.prog 15 #[.pointer (some ⟨p, 0, none⟩)] w fun e w' => e = .returned (.bool (doneS st)) ∧ Chg No w w' := by
  obtain ⟨r, vn, vt, h⟩ := h
  obtain ⟨es, clk, hh, hm, _⟩ := h.map
  have hes : es.size = st.m.length := by
    have := congrArg List.length hm
    simpa using this
  have p1 := cell_obj (i := 1) h.obj rfl
  have p2 := cell_obj (i := 2) h.obj rfl
  have Hres := Lib.hid (show doneS st = decide (st.need ≤ es.size) by rw [hes]; rfl)
  clear h hm hes
  generalize doneS st = res at *
  have cd := (Chg.refl No w).drew
  have HS := Lib.hid (show (fun W => W.cell? ⟨p, 1, none⟩ = some (.int .i64 st.need) ∧ W.cell? ⟨p, 2, none⟩ = some (.map (some r)) ∧ W.heap[r]? = some (.map es clk) ∧ Chg No w W) w.drew from ⟨cd.cell p1 (not_no _), cd.cell p2 (not_no _), cd.obj hh (not_no _), cd⟩)
  clear p1 p2 hh cd
  go_enter Try.func15, Try.ntmps15
  go_wp2_with (with_reducible first | refine stop_append ?_ | refine stop_copy ?_ | refine stop_make ?_ | refine stop_lookup ?_ | refine stop_update ?_ | refine stop_slice ?_ | refine stop_range ?_ | refine stop_next ?_ | refine stop_convert ⟨_, rfl⟩ ?_ | refine stop_convertB ⟨_, _, _, rfl⟩ ?_ | refine stop_eqSlice ⟨_, _, rfl⟩ ?_)
  refine pl_start (fun W => W.cell? ⟨p, 1, none⟩ = some (.int .i64 st.need) ∧ W.cell? ⟨p, 2, none⟩ = some (.map (some r)) ∧ W.heap[r]? = some (.map es clk) ∧ Chg No w W) (by kernel_rfl) (by kernel_rfl) HS.out ?_
  iterate 8 ((refine pl_nx [4] (v := ?_) rfl (by kernel_rfl) rfl ?_ ?_; rotate_left; focus (intro W hW; (try dsimp only at hW); go_split_ands; go_simp; (try (simp (disch := omega) only [IntWalk.i64_in]; (try go_simp))); (try (split; (next => omega); (try go_simp))); try rfl; done)); try simp only [Act.put, List.setIfInBounds_toArray, List.set_cons_zero, List.set_cons_succ, Nat.reduceAdd])
  refine pl_yesx 4 (.int .i64 es.size) rfl (by kernel_rfl) rfl (by exact (fun W hW => run_len_op rfl rfl Try.underlying86 hW.2.2.1)) ?_
  try simp only [Act.put, List.setIfInBounds_toArray, List.set_cons_zero, List.set_cons_succ, Nat.reduceAdd]
  iterate 2 ((refine pl_nx [] (v := ?_) rfl (by kernel_rfl) rfl ?_ ?_; rotate_left; focus (intro W hW; (try dsimp only at hW); go_split_ands; go_simp; (try (simp (disch := omega) only [IntWalk.i64_in]; (try go_simp))); (try (split; (next => omega); (try go_simp))); try rfl; done)); try simp only [Act.put, List.setIfInBounds_toArray, List.set_cons_zero, List.set_cons_succ, Nat.reduceAdd])
  refine pl_done (by kernel_rfl)  ?_
  rintro w1 ⟨-, -, -, hc⟩
  go_wp2_with (with_reducible first | refine stop_append ?_ | refine stop_copy ?_ | refine stop_make ?_ | refine stop_lookup ?_ | refine stop_update ?_ | refine stop_slice ?_ | refine stop_range ?_ | refine stop_next ?_ | refine stop_convert ⟨_, rfl⟩ ?_ | refine stop_convertB ⟨_, _, _, rfl⟩ ?_ | refine stop_eqSlice ⟨_, _, rfl⟩ ?_)
  go_ret
  exact ⟨by rw [Hres.out]; simp, hc⟩
def tailS (st : SSt) : List Ent := if doneS st = true then st.tail else []
set_option maxRecDepth 100000 in
set_option maxHeartbeats 2000000 in
theorem stail_any (S : Nat → Prop) (p : Nat) (st : SSt) (w : World) (h : Sea w S p st) (hl : st.tail.length ≤ 2199023255488) (hcb : ∀ e ∈ st.tail, e.2.2.1.length ≤ 1000000) :
    Calls Try.prog 17 #[.pointer (some ⟨p, 0, none⟩)] w fun e w' => ∃ A c, e = .returned (.tuple #[.slice A (tailS st).length c, .bool (doneS st)]) ∧ Chg No w w' ∧ Sl (Lt w.heap.size) w' (.slice A (tailS st).length c) (tailS st) := by
  have Hd := Lib.hid (sdone_any S p st w h)
  obtain ⟨r, vn, vt, h⟩ := h
  have Hall := Lib.hid (fun W (hW : Chg No w W) => qall_any vt st.tail W ((h.keepNo hW).tail.no) hl hcb)
  obtain ⟨Bt, dt, rfl⟩ := h.tail.slice
  have p3 := cell_obj (i := 3) h.obj rfl
  have hres : tailS st = if doneS st = true then st.tail else [] := rfl
  have Hres := Lib.hid hres
  clear h hcb hres
  generalize tailS st = tl at *
  generalize doneS st = dn at *
  go_enter Try.func17, Try.ntmps17
  go_wp2_with (with_reducible first | refine stop_append ?_ | refine stop_copy ?_ | refine stop_make ?_ | refine stop_lookup ?_ | refine stop_update ?_ | refine stop_slice ?_ | refine stop_range ?_ | refine stop_next ?_ | refine stop_convert ⟨_, rfl⟩ ?_ | refine stop_convertB ⟨_, _, _, rfl⟩ ?_ | refine stop_eqSlice ⟨_, _, rfl⟩ ?_)
  refine Hd.out.mono ?_
  rintro e w1 ⟨rfl, hc1⟩
  replace p3 := hc1.cell p3 (not_no _)
  cases dn
  · obtain rfl : tl = [] := Hres.out
    go_wp2_with (with_reducible first | refine stop_append ?_ | refine stop_copy ?_ | refine stop_make ?_ | refine stop_lookup ?_ | refine stop_update ?_ | refine stop_slice ?_ | refine stop_range ?_ | refine stop_next ?_ | refine stop_convert ⟨_, rfl⟩ ?_ | refine stop_convertB ⟨_, _, _, rfl⟩ ?_ | refine stop_eqSlice ⟨_, _, rfl⟩ ?_)
    go_ret2
    exact ⟨none, 0, rfl, hc1, Sl.nil _ _ _ _⟩
  · obtain rfl : tl = st.tail := Hres.out
    go_wp2_with (with_reducible first | refine stop_append ?_ | refine stop_copy ?_ | refine stop_make ?_ | refine stop_lookup ?_ | refine stop_update ?_ | refine stop_slice ?_ | refine stop_range ?_ | refine stop_next ?_ | refine stop_convert ⟨_, rfl⟩ ?_ | refine stop_convertB ⟨_, _, _, rfl⟩ ?_ | refine stop_eqSlice ⟨_, _, rfl⟩ ?_)
    refine (Hall.out _ hc1).mono ?_
    rintro e w2 ⟨v2, rfl, hc2, hs2⟩
    obtain ⟨A2, c2, rfl⟩ := hs2.slice
    have Hs2 := Lib.hid hs2
    clear hs2
    go_wp2_with (with_reducible first | refine stop_append ?_ | refine stop_copy ?_ | refine stop_make ?_ | refine stop_lookup ?_ | refine stop_update ?_ | refine stop_slice ?_ | refine stop_range ?_ | refine stop_next ?_ | refine stop_convert ⟨_, rfl⟩ ?_ | refine stop_convertB ⟨_, _, _, rfl⟩ ?_ | refine stop_eqSlice ⟨_, _, rfl⟩ ?_)
    go_ret2
    have hz := hc1.size
    exact ⟨A2, c2, rfl, hc1.trans hc2, Hs2.out.weak (fun k _ g => by simp only [Lt] at g ⊢; omega)⟩
/-- May what a sealed replica had be heard? -/
def hearSB (st : SSt) (x : Int) (l : List Ent) : Bool :=
  decide (x ∈ st.nodes) && (!decide (x ∈ st.m) && (decide ((chainF l 0 []).1 = l.length) && decide (l.take (min l.length st.tail.length) = st.tail.take (min l.length st.tail.length))))
def hearS (st : SSt) (x : Int) (l : List Ent) : SSt × Bool := if hearSB st x l = true then (⟨st.nodes, st.need, st.m ++ [x], if st.tail.length < l.length then l else st.tail⟩, true) else (st, false)
theorem metS (hs : List Int) : MetP (hs.map fun x => (x, true)) hs := by
  induction hs with
  | nil => exact met_nil
  | cons a r ih =>
    intro x
    have := ih x
    unfold mget at this ⊢
    rw [List.map_cons, List.find?_cons]
    by_cases h : a = x
    · subst h; simp
    · have h2 : x ≠ a := fun e => h e.symm
      simp only [h, decide_false, List.mem_cons, h2, false_or]
      exact this
theorem msetS {hs : List Int} {x : Int} (h : x ∉ hs) : mset (hs.map fun x => (x, true)) x true = (hs ++ [x]).map fun x => (x, true) := by
  have h1 : mget (hs.map fun x => (x, true)) x = none := by
    simp only [mget, Option.map_eq_none_iff, List.find?_eq_none, List.mem_map]
    rintro y ⟨z, hz, rfl⟩
    simp only [decide_eq_true_eq]
    rintro rfl
    exact h hz
  rw [mset_new _ _ _ h1, List.map_append]; rfl
def SeaPost (S : Nat → Prop) (p : Nat) (w : World) (r : SSt × Bool) (e : Ending) (w' : World) : Prop :=
  e = .returned (.bool r.2) ∧ Chg S w w' ∧ ∃ S', Sea w' S' p r.1 ∧ ∀ k, S' k → S k ∨ w.heap.size ≤ k
theorem sea_no {S : Nat → Prop} {p : Nat} {st : SSt} {w w' : World} (h : Sea w S p st) (hc : Chg No w w') : SeaPost S p w (st, false) (.returned (.bool false)) w' :=
  ⟨rfl, hc.of_no, S, h.keepNo hc, fun _ hk => .inl hk⟩
theorem SeaV.heard {W W' : World} {S : Nat → Prop} {p r : Nat} {vn vt : Value} {st : SSt} {x : Int} (h : SeaV W S p r vn vt st) (hm : MapAt W' r (Value.int .i64) Value.bool ((st.m ++ [x]).map fun x => (x, true))) (hc : Chg (At r) W W') :
    SeaV W' S p r vn vt ⟨st.nodes, st.need, st.m ++ [x], st.tail⟩ where
  obj := hc.obj h.obj (fun g => h.hpr g)
  map := hm
  hS := fun k hk => Nat.lt_of_lt_of_le (h.hS k hk) hc.size
  hp := h.hp
  hr := h.hr
  hpr := h.hpr
  nodes := h.nodes.keep (hc.weak (fun k _ g => .inr (.inr g)))
  tail := h.tail.keep (hc.weak (fun k _ g => .inr (.inr g)))
theorem SeaV.setTail {W : World} {S : Nat → Prop} {p r : Nat} {vn vt v : Value} {st : SSt} {l : List Ent} (h : SeaV W S p r vn vt st) (hv : Sl (fun k => ¬ S k ∨ k = p ∨ k = r) W v l) :
    SeaV (W.setCell ⟨p, 3, none⟩ v) S p r vn v ⟨st.nodes, st.need, st.m, l⟩ := by
  have hs := chg_set (w := W) (b := p) (i := 3) v
  exact { obj := obj_set h.obj rfl, map := h.map.keep hs (fun g => h.hpr g.symm), hS := fun k hk => by simpa using h.hS k hk, hp := h.hp, hr := h.hr, hpr := h.hpr, nodes := h.nodes.keep (hs.weak (fun k _ g => .inr (.inl g))), tail := hv.keep (hs.weak (fun k _ g => .inr (.inl g))) }
set_option maxRecDepth 100000 in
set_option maxHeartbeats 4000000 in
theorem sheard_short (S : Nat → Prop) (p : Nat) (st : SSt) (x : Int) (v : Value) (l : List Ent) (w : World) (h : Sea w S p st) (hv : Sl S w v l) (hn : st.nodes.length ≤ 1000000) (hl : l.length ≤ 1000000) (hcb : ∀ e ∈ l, e.2.2.1.length ≤ 1000000) (hlt : st.tail.length ≤ 1000000) (hct : ∀ e ∈ st.tail, e.2.2.1.length ≤ 1000000)
    (hh : st.tail.length < l.length) :
    Calls Try.prog 13 #[.pointer (some ⟨p, 0, none⟩), .int .i64 x, v] w (SeaPost S p w (hearS st x l)) := by
  obtain ⟨r, vn, vt, h⟩ := h
  have H := Lib.hid h
  have HS0 := Lib.hid (show Sea w S p st from ⟨r, vn, vt, h⟩)
  have Hin := Lib.hid (lcontains_any _ vn st.nodes x w h.nodes (by omega))
  have Hch := Lib.hid (fun W (hW : Chg No w W) => chain_any v l W (hv.no.keepNo hW) (by omega) (fun e he => by have := hcb e he; omega))
  have Heq := Lib.hid (fun W (hW : Chg No w W) (A : Option Addr) (c n : Nat) (A' : Option Addr) (c' : Nat) (h1 : Sl S W (.slice A n c) (l.take n)) (h2 : Sl No W (.slice A' n c') (st.tail.take n)) => eqents_any S No _ _ (l.take n) (st.tail.take n) W h1 h2 (by simp; omega) (by simp; omega) (fun e he => hcb e (List.mem_of_mem_take he)) (fun e he => by have := hct e (List.mem_of_mem_take he); omega))
  have Hall := Lib.hid (fun W (hW : Chg S w W) => qall_any v l W (hv.keep hW).no (by omega) hcb)
  have Hv := Lib.hid hv
  have Hmap := Lib.hid (fun W (hW : Chg No w W) => run_met (h.keepNo hW).map (metS st.m) x)
  obtain ⟨A, c, rfl⟩ := hv.slice
  obtain ⟨An, cn, rfl⟩ := h.nodes.slice
  obtain ⟨Bt, dt, rfl⟩ := h.tail.slice
  have p0 := cell_obj (i := 0) h.obj rfl
  have p2 := cell_obj (i := 2) h.obj rfl
  have p3 := cell_obj (i := 3) h.obj rfl
  have hB : hearS st x l = if (decide (x ∈ st.nodes) && (!decide (x ∈ st.m) && (decide ((chainF l 0 []).1 = l.length) && decide (l.take st.tail.length = st.tail.take st.tail.length)))) = true then (⟨st.nodes, st.need, st.m ++ [x], if st.tail.length < l.length then l else st.tail⟩, true) else (st, false) := by
    unfold hearS hearSB
    rw [show min l.length st.tail.length = st.tail.length by omega]
  have HB := Lib.hid hB
  clear h hv hcb hct hB
  generalize hearS st x l = res at *
  generalize (chainF l 0 []).1 = ch at *
  have hmin : min (l.length : Int) (st.tail.length : Int) = (st.tail.length : Int) := by omega
  go_enter Try.func13, Try.ntmps13
  go_wp2_with (with_reducible first | refine stop_append ?_ | refine stop_copy ?_ | refine stop_make ?_ | refine stop_lookup ?_ | refine stop_update ?_ | refine stop_slice ?_ | refine stop_range ?_ | refine stop_next ?_ | refine stop_convert ⟨_, rfl⟩ ?_ | refine stop_convertB ⟨_, _, _, rfl⟩ ?_ | refine stop_eqSlice ⟨_, _, rfl⟩ ?_)
  refine Hin.out.mono ?_
  rintro e w1 ⟨rfl, hc1⟩
  replace p2 := hc1.cell p2 (not_no _)
  replace p3 := hc1.cell p3 (not_no _)
  have hlk := Hmap.out _ hc1
  generalize decide (x ∈ st.nodes) = bn at *
  cases bn
  · obtain rfl : res = (st, false) := HB.out
    go_wp2_with (with_reducible first | refine stop_append ?_ | refine stop_copy ?_ | refine stop_make ?_ | refine stop_update ?_ | refine stop_slice ?_ | refine stop_range ?_ | refine stop_next ?_ | refine stop_convert ⟨_, rfl⟩ ?_ | refine stop_convertB ⟨_, _, _, rfl⟩ ?_ | refine stop_eqSlice ⟨_, _, rfl⟩ ?_)
    go_ret
    exact sea_no HS0.out hc1
  generalize hbm : decide (x ∈ st.m) = bm at *
  have Hbm := Lib.hid hbm
  clear hbm
  cases bm
  rotate_left
  · obtain rfl : res = (st, false) := HB.out
    go_wp2_with (with_reducible first | refine stop_append ?_ | refine stop_copy ?_ | refine stop_make ?_ | refine stop_update ?_ | refine stop_slice ?_ | refine stop_range ?_ | refine stop_next ?_ | refine stop_convert ⟨_, rfl⟩ ?_ | refine stop_convertB ⟨_, _, _, rfl⟩ ?_ | refine stop_eqSlice ⟨_, _, rfl⟩ ?_)
    go_ret
    exact sea_no HS0.out hc1
  go_wp2_with (with_reducible first | refine stop_append ?_ | refine stop_copy ?_ | refine stop_make ?_ | refine stop_update ?_ | refine stop_slice ?_ | refine stop_range ?_ | refine stop_next ?_ | refine stop_convert ⟨_, rfl⟩ ?_ | refine stop_convertB ⟨_, _, _, rfl⟩ ?_ | refine stop_eqSlice ⟨_, _, rfl⟩ ?_)
  refine (Hch.out _ hc1).mono ?_
  rintro e w2 ⟨rfl, hc2⟩
  have hcw2 := hc1.trans hc2
  replace p2 := hc2.cell p2 (not_no _)
  replace p3 := hc2.cell p3 (not_no _)
  clear hlk
  by_cases hcl : ch = l.length
  rotate_left
  · obtain rfl : res = (st, false) := by rw [HB.out]; simp [hcl]
    have hcl2 : ((ch : Int) != (l.length : Int)) = true := by simp; omega
    clear hcl
    go_wp2_with (with_reducible first | refine stop_append ?_ | refine stop_copy ?_ | refine stop_make ?_ | refine stop_update ?_ | refine stop_slice ?_ | refine stop_range ?_ | refine stop_next ?_ | refine stop_convert ⟨_, rfl⟩ ?_ | refine stop_convertB ⟨_, _, _, rfl⟩ ?_ | refine stop_eqSlice ⟨_, _, rfl⟩ ?_)
    go_ret
    exact sea_no HS0.out hcw2
  subst hcl
  go_wp2_with (with_reducible first | refine stop_append ?_ | refine stop_copy ?_ | refine stop_make ?_ | refine stop_update ?_ | refine stop_slice ?_ | refine stop_range ?_ | refine stop_next ?_ | refine stop_convert ⟨_, rfl⟩ ?_ | refine stop_convertB ⟨_, _, _, rfl⟩ ?_ | refine stop_eqSlice ⟨_, _, rfl⟩ ?_)
  have Heq2 := Lib.hid (fun W (hW : Chg No w2 W) => Heq.out W (hcw2.trans hW) A c st.tail.length Bt dt (take_sl (Hv.out.keepNo (hcw2.trans hW)) st.tail.length (by omega)) (take_sl ((H.out.keepNo (hcw2.trans hW)).tail.no) st.tail.length (by omega)))
  have Htl := Lib.hid (fun W (hW : Chg No w2 W) => (H.out.keepNo (hcw2.trans hW)).tail)
  clear Heq
  generalize decide (l.take st.tail.length = st.tail.take st.tail.length) = be at *
  have cd := (Chg.refl No w2).drew
  refine pl_start (fun W => W.cell? ⟨p, 3, none⟩ = some (.slice Bt st.tail.length dt) ∧ Chg No w2 W) (by kernel_rfl) (by kernel_rfl) ⟨cd.cell p3 (not_no _), cd⟩ ?_
  iterate 7 ((refine pl_nx [2, 8] (v := ?_) rfl (by kernel_rfl) rfl ?_ ?_; rotate_left; focus (intro W hW; (try dsimp only at hW); go_split_ands; go_simp; (try (simp (disch := omega) only [IntWalk.i64_in]; (try go_simp))); (try (split; (next => omega); (try go_simp))); try rfl; done)); try simp only [Act.put, List.setIfInBounds_toArray, List.set_cons_zero, List.set_cons_succ, Nat.reduceAdd])
  refine pl_yesx 2 (.slice A st.tail.length c) rfl (by kernel_rfl) rfl (by exact (fun W hW => take_run (α := Ent) Try.underlying43 info_ent (Hv.out.keepNo (hcw2.trans hW.2)) rfl (kd := .i64) rfl (by omega))) ?_
  try simp only [Act.put, List.setIfInBounds_toArray, List.set_cons_zero, List.set_cons_succ, Nat.reduceAdd]
  refine pl_yesx 8 (.slice Bt st.tail.length dt) rfl (by kernel_rfl) rfl (by exact (fun W hW => take_run (α := Ent) Try.underlying43 info_ent (Htl.out W hW.2) rfl (kd := .i64) rfl (by omega))) ?_
  try simp only [Act.put, List.setIfInBounds_toArray, List.set_cons_zero, List.set_cons_succ, Nat.reduceAdd]
  refine pl_callx 9 (.bool be) rfl (by kernel_rfl) rfl (by exact (fun W hW => (Heq2.out W hW.2).mono fun e w' h => ⟨h.1, h.2.cell hW.1 (not_no _), hW.2.trans h.2⟩)) (fun W => by kernel_rfl) ?_
  try simp only [Act.put, List.setIfInBounds_toArray, List.set_cons_zero, List.set_cons_succ, Nat.reduceAdd]
  ((refine pl_nx [] (v := ?_) rfl (by kernel_rfl) rfl ?_ ?_; rotate_left; focus (intro W hW; (try dsimp only at hW); go_split_ands; go_simp; (try (simp (disch := omega) only [IntWalk.i64_in]; (try go_simp))); (try (split; (next => omega); (try go_simp))); try rfl; done)); try simp only [Act.put, List.setIfInBounds_toArray, List.set_cons_zero, List.set_cons_succ, Nat.reduceAdd])
  refine pl_done (by kernel_rfl)  ?_
  rintro w3 ⟨q3, hc3⟩
  have hcw3 := hcw2.trans hc3
  clear p3 cd Heq2 Htl
  cases be
  · obtain rfl : res = (st, false) := HB.out
    go_wp2_with (with_reducible first | refine stop_append ?_ | refine stop_copy ?_ | refine stop_make ?_ | refine stop_lookup ?_ | refine stop_update ?_ | refine stop_slice ?_ | refine stop_range ?_ | refine stop_next ?_ | refine stop_convert ⟨_, rfl⟩ ?_ | refine stop_convertB ⟨_, _, _, rfl⟩ ?_ | refine stop_eqSlice ⟨_, _, rfl⟩ ?_)
    go_ret
    exact sea_no HS0.out hcw3
  have hres : res = (⟨st.nodes, st.need, st.m ++ [x], if st.tail.length < l.length then l else st.tail⟩, true) := by rw [HB.out]; simp
  rw [if_pos hh] at hres
  subst hres
  replace p2 := hc3.cell p2 (not_no _)
  have Hc23 := Lib.hid hcw3
  clear hcw2 hc1 hc2 HB Hin Hch
  go_wp2_with (with_reducible first | refine stop_append ?_ | refine stop_copy ?_ | refine stop_make ?_ | refine stop_lookup ?_ | refine stop_update ?_ | refine stop_slice ?_ | refine stop_range ?_ | refine stop_next ?_ | refine stop_convert ⟨_, rfl⟩ ?_ | refine stop_convertB ⟨_, _, _, rfl⟩ ?_ | refine stop_eqSlice ⟨_, _, rfl⟩ ?_)
  have h3 := H.out.keepNo Hc23.out
  refine step_update (κ := Int) (β := Bool) (kv := Value.int .i64) (vv := Value.bool) klN Try.underlying86 h3.map x true rfl rfl rfl ?_
  intro w4 hm4 hc4
  rw [msetS (of_decide_eq_false Hbm.out)] at hm4
  have h4 := h3.heard hm4 hc4
  have q3' := cell_obj (i := 3) h4.obj rfl
  have H4 := Lib.hid h4
  have hcS : Chg S w w4 := hcw3.of_no.trans (hc4.weak (fun k _ g => by simp only [At] at g; subst g; exact H.out.hr))
  have HcS := Lib.hid hcS
  clear hm4 h3 q3 hcw3 hc4 Hc23
  have f4 := free_obj (i := 3) h4.obj
  clear h4
  go_wp2_with (with_reducible first | refine stop_append ?_ | refine stop_copy ?_ | refine stop_make ?_ | refine stop_lookup ?_ | refine stop_update ?_ | refine stop_slice ?_ | refine stop_range ?_ | refine stop_next ?_ | refine stop_convert ⟨_, rfl⟩ ?_ | refine stop_convertB ⟨_, _, _, rfl⟩ ?_ | refine stop_eqSlice ⟨_, _, rfl⟩ ?_)
  refine (Hall.out _ hcS).mono ?_
  rintro e w5 ⟨v5, rfl, hc5, hs5⟩
  obtain ⟨A5, c5, rfl⟩ := hs5.slice
  have h5 := H4.out.keepNo hc5
  have hlt4 := h5.hS
  have hz5 := hc5.size
  have hz4 := hcS.size
  have hh4 := H4.out.hS
  have h6 := (h5.more (T := Upq S w4 w5) (fun _ h => .inl h) (fun k hk => by rcases hk with hk | hk; exact hlt4 k hk; exact hk.2)).setTail (l := l) (v := .slice A5 l.length c5) (hs5.weak (fun k hk g => by simp only [Lt]; rcases g with g | g | g; exact Classical.byContradiction fun e => g (.inr ⟨by omega, hk⟩); (have := hh4 _ H4.out.hp; omega); (have := hh4 _ H4.out.hr; omega)))
  have H6 := Lib.hid h6
  have hcF : Chg S w (w5.setCell ⟨p, 3, none⟩ (.slice A5 l.length c5)) := (hcS.trans hc5.of_no).trans ((chg_set (w := w5) (b := p) (i := 3) (.slice A5 l.length c5)).weak (fun k _ g => by simp only [At] at g; subst g; exact H4.out.hp))
  have HF := Lib.hid hcF
  have Hz4 := Lib.hid hz4
  have f5 := free_obj (i := 3) h5.obj
  have g5 := cell_obj (i := 3) h5.obj rfl
  clear h6 hcF hs5 hcS hz5 hz4 hlt4 hh4 h5
  go_wp2_with (with_reducible first | refine stop_append ?_ | refine stop_copy ?_ | refine stop_make ?_ | refine stop_lookup ?_ | refine stop_update ?_ | refine stop_slice ?_ | refine stop_range ?_ | refine stop_next ?_ | refine stop_convert ⟨_, rfl⟩ ?_ | refine stop_convertB ⟨_, _, _, rfl⟩ ?_ | refine stop_eqSlice ⟨_, _, rfl⟩ ?_)
  go_ret
  have hz4 := Hz4.out
  exact ⟨rfl, HF.out, Upq S w4 w5, ⟨r, _, _, H6.out⟩, fun k hk => by rcases hk with hk | hk; exact .inl hk; exact .inr (by omega)⟩
set_option maxRecDepth 100000 in
set_option maxHeartbeats 4000000 in
theorem sheard_long (S : Nat → Prop) (p : Nat) (st : SSt) (x : Int) (v : Value) (l : List Ent) (w : World) (h : Sea w S p st) (hv : Sl S w v l) (hn : st.nodes.length ≤ 1000000) (hl : l.length ≤ 1000000) (hcb : ∀ e ∈ l, e.2.2.1.length ≤ 1000000) (hlt : st.tail.length ≤ 1000000) (hct : ∀ e ∈ st.tail, e.2.2.1.length ≤ 1000000)
    (hh : ¬ st.tail.length < l.length) :
    Calls Try.prog 13 #[.pointer (some ⟨p, 0, none⟩), .int .i64 x, v] w (SeaPost S p w (hearS st x l)) := by
  obtain ⟨r, vn, vt, h⟩ := h
  have H := Lib.hid h
  have HS0 := Lib.hid (show Sea w S p st from ⟨r, vn, vt, h⟩)
  have Hin := Lib.hid (lcontains_any _ vn st.nodes x w h.nodes (by omega))
  have Hch := Lib.hid (fun W (hW : Chg No w W) => chain_any v l W (hv.no.keepNo hW) (by omega) (fun e he => by have := hcb e he; omega))
  have Heq := Lib.hid (fun W (hW : Chg No w W) (A : Option Addr) (c n : Nat) (A' : Option Addr) (c' : Nat) (h1 : Sl S W (.slice A n c) (l.take n)) (h2 : Sl No W (.slice A' n c') (st.tail.take n)) => eqents_any S No _ _ (l.take n) (st.tail.take n) W h1 h2 (by simp; omega) (by simp; omega) (fun e he => hcb e (List.mem_of_mem_take he)) (fun e he => by have := hct e (List.mem_of_mem_take he); omega))
  have Hall := Lib.hid (fun W (hW : Chg S w W) => qall_any v l W (hv.keep hW).no (by omega) hcb)
  have Hv := Lib.hid hv
  have Hmap := Lib.hid (fun W (hW : Chg No w W) => run_met (h.keepNo hW).map (metS st.m) x)
  obtain ⟨A, c, rfl⟩ := hv.slice
  obtain ⟨An, cn, rfl⟩ := h.nodes.slice
  obtain ⟨Bt, dt, rfl⟩ := h.tail.slice
  have p0 := cell_obj (i := 0) h.obj rfl
  have p2 := cell_obj (i := 2) h.obj rfl
  have p3 := cell_obj (i := 3) h.obj rfl
  have hB : hearS st x l = if (decide (x ∈ st.nodes) && (!decide (x ∈ st.m) && (decide ((chainF l 0 []).1 = l.length) && decide (l.take l.length = st.tail.take l.length)))) = true then (⟨st.nodes, st.need, st.m ++ [x], if st.tail.length < l.length then l else st.tail⟩, true) else (st, false) := by
    unfold hearS hearSB
    rw [show min l.length st.tail.length = l.length by omega]
  have HB := Lib.hid hB
  clear h hv hcb hct hB
  generalize hearS st x l = res at *
  generalize (chainF l 0 []).1 = ch at *
  have hmin : min (l.length : Int) (st.tail.length : Int) = (l.length : Int) := by omega
  go_enter Try.func13, Try.ntmps13
  go_wp2_with (with_reducible first | refine stop_append ?_ | refine stop_copy ?_ | refine stop_make ?_ | refine stop_lookup ?_ | refine stop_update ?_ | refine stop_slice ?_ | refine stop_range ?_ | refine stop_next ?_ | refine stop_convert ⟨_, rfl⟩ ?_ | refine stop_convertB ⟨_, _, _, rfl⟩ ?_ | refine stop_eqSlice ⟨_, _, rfl⟩ ?_)
  refine Hin.out.mono ?_
  rintro e w1 ⟨rfl, hc1⟩
  replace p2 := hc1.cell p2 (not_no _)
  replace p3 := hc1.cell p3 (not_no _)
  have hlk := Hmap.out _ hc1
  generalize decide (x ∈ st.nodes) = bn at *
  cases bn
  · obtain rfl : res = (st, false) := HB.out
    go_wp2_with (with_reducible first | refine stop_append ?_ | refine stop_copy ?_ | refine stop_make ?_ | refine stop_update ?_ | refine stop_slice ?_ | refine stop_range ?_ | refine stop_next ?_ | refine stop_convert ⟨_, rfl⟩ ?_ | refine stop_convertB ⟨_, _, _, rfl⟩ ?_ | refine stop_eqSlice ⟨_, _, rfl⟩ ?_)
    go_ret
    exact sea_no HS0.out hc1
  generalize hbm : decide (x ∈ st.m) = bm at *
  have Hbm := Lib.hid hbm
  clear hbm
  cases bm
  rotate_left
  · obtain rfl : res = (st, false) := HB.out
    go_wp2_with (with_reducible first | refine stop_append ?_ | refine stop_copy ?_ | refine stop_make ?_ | refine stop_update ?_ | refine stop_slice ?_ | refine stop_range ?_ | refine stop_next ?_ | refine stop_convert ⟨_, rfl⟩ ?_ | refine stop_convertB ⟨_, _, _, rfl⟩ ?_ | refine stop_eqSlice ⟨_, _, rfl⟩ ?_)
    go_ret
    exact sea_no HS0.out hc1
  go_wp2_with (with_reducible first | refine stop_append ?_ | refine stop_copy ?_ | refine stop_make ?_ | refine stop_update ?_ | refine stop_slice ?_ | refine stop_range ?_ | refine stop_next ?_ | refine stop_convert ⟨_, rfl⟩ ?_ | refine stop_convertB ⟨_, _, _, rfl⟩ ?_ | refine stop_eqSlice ⟨_, _, rfl⟩ ?_)
  refine (Hch.out _ hc1).mono ?_
  rintro e w2 ⟨rfl, hc2⟩
  have hcw2 := hc1.trans hc2
  replace p2 := hc2.cell p2 (not_no _)
  replace p3 := hc2.cell p3 (not_no _)
  clear hlk
  by_cases hcl : ch = l.length
  rotate_left
  · obtain rfl : res = (st, false) := by rw [HB.out]; simp [hcl]
    have hcl2 : ((ch : Int) != (l.length : Int)) = true := by simp; omega
    clear hcl
    go_wp2_with (with_reducible first | refine stop_append ?_ | refine stop_copy ?_ | refine stop_make ?_ | refine stop_update ?_ | refine stop_slice ?_ | refine stop_range ?_ | refine stop_next ?_ | refine stop_convert ⟨_, rfl⟩ ?_ | refine stop_convertB ⟨_, _, _, rfl⟩ ?_ | refine stop_eqSlice ⟨_, _, rfl⟩ ?_)
    go_ret
    exact sea_no HS0.out hcw2
  subst hcl
  go_wp2_with (with_reducible first | refine stop_append ?_ | refine stop_copy ?_ | refine stop_make ?_ | refine stop_update ?_ | refine stop_slice ?_ | refine stop_range ?_ | refine stop_next ?_ | refine stop_convert ⟨_, rfl⟩ ?_ | refine stop_convertB ⟨_, _, _, rfl⟩ ?_ | refine stop_eqSlice ⟨_, _, rfl⟩ ?_)
  have Heq2 := Lib.hid (fun W (hW : Chg No w2 W) => Heq.out W (hcw2.trans hW) A c l.length Bt dt (take_sl (Hv.out.keepNo (hcw2.trans hW)) l.length (by omega)) (take_sl ((H.out.keepNo (hcw2.trans hW)).tail.no) l.length (by omega)))
  have Htl := Lib.hid (fun W (hW : Chg No w2 W) => (H.out.keepNo (hcw2.trans hW)).tail)
  clear Heq
  generalize decide (l.take l.length = st.tail.take l.length) = be at *
  have cd := (Chg.refl No w2).drew
  refine pl_start (fun W => W.cell? ⟨p, 3, none⟩ = some (.slice Bt st.tail.length dt) ∧ Chg No w2 W) (by kernel_rfl) (by kernel_rfl) ⟨cd.cell p3 (not_no _), cd⟩ ?_
  iterate 7 ((refine pl_nx [2, 8] (v := ?_) rfl (by kernel_rfl) rfl ?_ ?_; rotate_left; focus (intro W hW; (try dsimp only at hW); go_split_ands; go_simp; (try (simp (disch := omega) only [IntWalk.i64_in]; (try go_simp))); (try (split; (next => omega); (try go_simp))); try rfl; done)); try simp only [Act.put, List.setIfInBounds_toArray, List.set_cons_zero, List.set_cons_succ, Nat.reduceAdd])
  refine pl_yesx 2 (.slice A l.length c) rfl (by kernel_rfl) rfl (by exact (fun W hW => take_run (α := Ent) Try.underlying43 info_ent (Hv.out.keepNo (hcw2.trans hW.2)) rfl (kd := .i64) rfl (by omega))) ?_
  try simp only [Act.put, List.setIfInBounds_toArray, List.set_cons_zero, List.set_cons_succ, Nat.reduceAdd]
  refine pl_yesx 8 (.slice Bt l.length dt) rfl (by kernel_rfl) rfl (by exact (fun W hW => take_run (α := Ent) Try.underlying43 info_ent (Htl.out W hW.2) rfl (kd := .i64) rfl (by omega))) ?_
  try simp only [Act.put, List.setIfInBounds_toArray, List.set_cons_zero, List.set_cons_succ, Nat.reduceAdd]
  refine pl_callx 9 (.bool be) rfl (by kernel_rfl) rfl (by exact (fun W hW => (Heq2.out W hW.2).mono fun e w' h => ⟨h.1, h.2.cell hW.1 (not_no _), hW.2.trans h.2⟩)) (fun W => by kernel_rfl) ?_
  try simp only [Act.put, List.setIfInBounds_toArray, List.set_cons_zero, List.set_cons_succ, Nat.reduceAdd]
  ((refine pl_nx [] (v := ?_) rfl (by kernel_rfl) rfl ?_ ?_; rotate_left; focus (intro W hW; (try dsimp only at hW); go_split_ands; go_simp; (try (simp (disch := omega) only [IntWalk.i64_in]; (try go_simp))); (try (split; (next => omega); (try go_simp))); try rfl; done)); try simp only [Act.put, List.setIfInBounds_toArray, List.set_cons_zero, List.set_cons_succ, Nat.reduceAdd])
  refine pl_done (by kernel_rfl)  ?_
  rintro w3 ⟨q3, hc3⟩
  have hcw3 := hcw2.trans hc3
  clear p3 cd Heq2 Htl
  cases be
  · obtain rfl : res = (st, false) := HB.out
    go_wp2_with (with_reducible first | refine stop_append ?_ | refine stop_copy ?_ | refine stop_make ?_ | refine stop_lookup ?_ | refine stop_update ?_ | refine stop_slice ?_ | refine stop_range ?_ | refine stop_next ?_ | refine stop_convert ⟨_, rfl⟩ ?_ | refine stop_convertB ⟨_, _, _, rfl⟩ ?_ | refine stop_eqSlice ⟨_, _, rfl⟩ ?_)
    go_ret
    exact sea_no HS0.out hcw3
  have hres : res = (⟨st.nodes, st.need, st.m ++ [x], if st.tail.length < l.length then l else st.tail⟩, true) := by rw [HB.out]; simp
  rw [if_neg hh] at hres
  subst hres
  replace p2 := hc3.cell p2 (not_no _)
  have Hc23 := Lib.hid hcw3
  clear hcw2 hc1 hc2 HB Hin Hch
  go_wp2_with (with_reducible first | refine stop_append ?_ | refine stop_copy ?_ | refine stop_make ?_ | refine stop_lookup ?_ | refine stop_update ?_ | refine stop_slice ?_ | refine stop_range ?_ | refine stop_next ?_ | refine stop_convert ⟨_, rfl⟩ ?_ | refine stop_convertB ⟨_, _, _, rfl⟩ ?_ | refine stop_eqSlice ⟨_, _, rfl⟩ ?_)
  have h3 := H.out.keepNo Hc23.out
  refine step_update (κ := Int) (β := Bool) (kv := Value.int .i64) (vv := Value.bool) klN Try.underlying86 h3.map x true rfl rfl rfl ?_
  intro w4 hm4 hc4
  rw [msetS (of_decide_eq_false Hbm.out)] at hm4
  have h4 := h3.heard hm4 hc4
  have q3' := cell_obj (i := 3) h4.obj rfl
  have H4 := Lib.hid h4
  have hcS : Chg S w w4 := hcw3.of_no.trans (hc4.weak (fun k _ g => by simp only [At] at g; subst g; exact H.out.hr))
  have HcS := Lib.hid hcS
  clear hm4 h3 q3 hcw3 hc4 Hc23
  clear h4 hcS p2 p0
  go_wp2_with (with_reducible first | refine stop_append ?_ | refine stop_copy ?_ | refine stop_make ?_ | refine stop_lookup ?_ | refine stop_update ?_ | refine stop_slice ?_ | refine stop_range ?_ | refine stop_next ?_ | refine stop_convert ⟨_, rfl⟩ ?_ | refine stop_convertB ⟨_, _, _, rfl⟩ ?_ | refine stop_eqSlice ⟨_, _, rfl⟩ ?_)
  go_ret
  exact ⟨rfl, HcS.out, S, ⟨r, _, _, H4.out⟩, fun _ hk => .inl hk⟩
theorem sheard_any (S : Nat → Prop) (p : Nat) (st : SSt) (x : Int) (v : Value) (l : List Ent) (w : World) (h : Sea w S p st) (hv : Sl S w v l) (hn : st.nodes.length ≤ 1000000) (hl : l.length ≤ 1000000) (hcb : ∀ e ∈ l, e.2.2.1.length ≤ 1000000) (hlt : st.tail.length ≤ 1000000) (hct : ∀ e ∈ st.tail, e.2.2.1.length ≤ 1000000) :
    Calls Try.prog 13 #[.pointer (some ⟨p, 0, none⟩), .int .i64 x, v] w (SeaPost S p w (hearS st x l)) := by
  by_cases hh : st.tail.length < l.length
  · exact sheard_short S p st x v l w h hv hn hl hcb hlt hct hh
  · exact sheard_long S p st x v l w h hv hn hl hcb hlt hct hh
end Go.Proofs.Yticimjplegbagaa


/- Walks of the quorum's laws: alive. -/
set_option linter.unusedVariables false
set_option linter.unusedSimpArgs false
namespace Go.Proofs.Yticimjplegbagaa
open Go.RowKit Cb

def qa0 : PSt := ⟨1, 2, 2, [0, 1, 2], [], [0, 0], [], false⟩
def qaX : Ent := (1, 1, [1, 0], 0, 0, 0)
def qa1 : PSt := ⟨1, 2, 2, [0, 1, 2], [qaX], [1, 0], [], false⟩
def qa2 : PSt := ⟨1, 2, 2, [0, 1, 2], [qaX], [1, 0], [(0, 1)], false⟩
def qa3 : PSt := ⟨1, 2, 2, [0, 1, 2], [qaX], [1, 0], [(0, 1), (1, 1)], true⟩
def qm (k f : Int) (b : Bool) : Msg := ((k, f, 0, 1), (0, 1), b, ((0, 0), [], ⟨#[]⟩), (0, 0, [], 0, 0, 0), (0, 0), 0, [], [])
def qs0 : SSt := ⟨[0, 1, 2], 2, [], []⟩
def qs1 : SSt := ⟨[0, 1, 2], 2, [0], [qaX]⟩
def qs2 : SSt := ⟨[0, 1, 2], 2, [0, 1], [qaX]⟩
theorem qa_right : rightC 1 [0, 1, 2] [[3], [4]] = true := by kernel_rfl
theorem qa_cut1 : cutF qa0 [1, 0] = (qa1, qaX, 0) := by kernel_rfl
theorem qa_cut2 : cutF qa1 [1, 0] = (qa1, zeroE, 1) := by kernel_rfl
theorem qa_p1 : (hearP qa1 0 1 false, true) = (qa2, true) := by kernel_rfl
theorem qa_p2 : (hearP qa2 1 1 true, true) = (qa3, true) := by kernel_rfl
theorem qa_h1 : heardF qa1 (qm 4 0 false) = (qa2, true) := by
  have : hearB qa1 (qm 4 0 false) = true := by simp [hearB, qa1, qm, right46, bare46, wiB]
  exact (if_pos this).trans qa_p1
theorem qa_h2 : heardF qa2 (qm 6 1 true) = (qa3, true) := by
  have : hearB qa2 (qm 6 1 true) = true := by simp [hearB, qa2, qm, right46, bare46, wiB]
  exact (if_pos this).trans qa_p2
theorem qa_cut3 : cutF qa3 [2, 0] = (qa3, zeroE, 120) := by kernel_rfl
theorem qa_comm : commF qa3 = 1 := by
  have h0 : commL qa3 = [[1], [1], [0]] := by kernel_rfl
  have h1 : sortI (column [[1], [1], [0]] 0) = [0, 1, 1] := by simp [sortI, column, List.mergeSort, List.MergeSort.Internal.splitInTwo, List.merge]
  have h3 : quorBad [[1], [1], [0]] = false := by kernel_rfl
  unfold commF
  rw [h0]
  unfold quorumF
  rw [if_pos ⟨by decide, by decide, h3⟩]
  simp only [headL, List.headD_cons, List.length_cons, List.length_nil, List.range_succ, List.range_zero, List.nil_append, List.map_append, List.map_cons, List.map_nil, h1]
  rfl
theorem qa_miss : missF qa3 2 = [qaX] := by kernel_rfl
theorem qs_h1 : hearS qs0 0 [qaX] = (qs1, true) := by kernel_rfl
theorem qs_h2 : hearS qs1 1 [] = (qs2, true) := by kernel_rfl
theorem qs_tail : tailS qs2 = [qaX] := by kernel_rfl
theorem qs_done : doneS qs2 = true := by kernel_rfl
theorem qnums2 {F : Nat → Prop} (w : World) (x y : Int) (T : TypeId) (hF : ¬ F w.heap.size) : Sl F (w.alloc (.cells #[.int .i64 x, .int .i64 y] T)) (.slice (some ⟨w.heap.size, 0, none⟩) 2 2) [x, y] :=
  Sl.lit (ys := [x, y]) (ds := [[.int .i64 x], [.int .i64 y]]) rfl rfl (fun i h h' => by
    match i, h with
    | 0, _ => rfl
    | 1, _ => rfl) hF rfl (Nat.le_refl _)
/-- The primary and the sealer of alive, which share nothing. -/
structure QA (w0 W : World) (S T : Nat → Prop) (p q : Nat) (st : PSt) (ss : SSt) : Prop where
  pri : Pri W S p st
  sea : Sea W T q ss
  dis : ∀ k, S k → ¬ T k
  slo : ∀ k, S k → w0.heap.size ≤ k
  tlo : ∀ k, T k → w0.heap.size ≤ k
  chg : Chg No w0 W
section
variable {w0 W W' : World} {S T S' T' : Nat → Prop} {p q : Nat} {st st' : PSt} {ss ss' : SSt}
theorem QA.no (h : QA w0 W S T p q st ss) (hc : Chg No W W') : QA w0 W' S T p q st ss := ⟨h.pri.keepNo hc, h.sea.keepNo hc, h.dis, h.slo, h.tlo, h.chg.trans hc⟩
theorem QA.setP (h : QA w0 W S T p q st ss) (hc : Chg S W W') (hp : Pri W' S' p st') (hS : ∀ k, S' k → S k ∨ W.heap.size ≤ k) : QA w0 W' S' T p q st' ss where
  pri := hp
  sea := h.sea.keep hc (fun k _ g => h.dis k g)
  dis := fun k s t => by
    rcases hS k s with g | g
    · exact h.dis k g t
    · have := h.sea.lt k t; omega
  slo := fun k s => by
    rcases hS k s with g | g
    · exact h.slo k g
    · have := h.chg.size; omega
  tlo := h.tlo
  chg := h.chg.old hc h.slo
theorem QA.setS (h : QA w0 W S T p q st ss) (hc : Chg T W W') (hs : Sea W' T' q ss') (hT : ∀ k, T' k → T k ∨ W.heap.size ≤ k) : QA w0 W' S T' p q st ss' where
  pri := h.pri.keep hc (fun k _ g s => h.dis k s g)
  sea := hs
  dis := fun k s t => by
    rcases hT k t with g | g
    · exact h.dis k s g
    · have := h.pri.lt k s; omega
  slo := h.slo
  tlo := fun k s => by
    rcases hT k s with g | g
    · exact h.tlo k g
    · have := h.chg.size; omega
  chg := h.chg.old hc h.tlo
end
def qcW (w : World) (I R : TypeId) : World := (((w.alloc (.cells #[.int .i64 0, .int .i64 1, .int .i64 2] I)).alloc (.cells #[.int .i64 3] I)).alloc (.cells #[.int .i64 4] I)).alloc (.cells #[.slice (some ⟨w.heap.size + 1, 0, none⟩) 1 1, .slice (some ⟨w.heap.size + 1 + 1, 0, none⟩) 1 1] R)
theorem qc_world (w : World) (I R : TypeId) : Sl No (qcW w I R) (.slice (some ⟨w.heap.size, 0, none⟩) 3 3) [(0 : Int), 1, 2] ∧ Sl No (qcW w I R) (.slice (some ⟨w.heap.size + 1 + 1 + 1, 0, none⟩) 2 2) [[(3 : Int)], [4]] ∧ Chg No w (qcW w I R) ∧ (qcW w I R).heap.size = w.heap.size + 1 + 1 + 1 + 1 := by
  have h0 : Sl No (w.alloc (.cells #[.int .i64 0, .int .i64 1, .int .i64 2] I)) (.slice (some ⟨w.heap.size, 0, none⟩) 3 3) [(0 : Int), 1, 2] :=
    Sl.lit (ys := [(0 : Int), 1, 2]) (ds := [[.int .i64 0], [.int .i64 1], [.int .i64 2]]) rfl rfl (fun i h h' => by
      match i, h with
      | 0, _ => rfl
      | 1, _ => rfl
      | 2, _ => rfl) (not_no _) rfl (Nat.le_refl _)
  have h1 : Sl No ((w.alloc (.cells #[.int .i64 0, .int .i64 1, .int .i64 2] I)).alloc (.cells #[.int .i64 3] I)) (.slice (some ⟨w.heap.size + 1, 0, none⟩) 1 1) [(3 : Int)] := by
    have := Sl.lit1 (F := No) (w := w.alloc (.cells #[.int .i64 0, .int .i64 1, .int .i64 2] I)) (T := I) (y := (3 : Int)) (d := [.int .i64 3]) rfl rfl (not_no _)
    simpa using this
  have h2 : Sl No (((w.alloc (.cells #[.int .i64 0, .int .i64 1, .int .i64 2] I)).alloc (.cells #[.int .i64 3] I)).alloc (.cells #[.int .i64 4] I)) (.slice (some ⟨w.heap.size + 1 + 1, 0, none⟩) 1 1) [(4 : Int)] := by
    have := Sl.lit1 (F := No) (w := (w.alloc (.cells #[.int .i64 0, .int .i64 1, .int .i64 2] I)).alloc (.cells #[.int .i64 3] I)) (T := I) (y := (4 : Int)) (d := [.int .i64 4]) rfl rfl (not_no _)
    simpa using this
  have h1' := h1.keepNo ((Chg.refl No _).alloc (.cells #[.int .i64 4] I))
  have h3 := Sl.lit (F := No) (w := ((w.alloc (.cells #[.int .i64 0, .int .i64 1, .int .i64 2] I)).alloc (.cells #[.int .i64 3] I)).alloc (.cells #[.int .i64 4] I)) (T := R) (ys := [[(3 : Int)], [4]]) (ds := [[.slice (some ⟨w.heap.size + 1, 0, none⟩) 1 1], [.slice (some ⟨w.heap.size + 1 + 1, 0, none⟩) 1 1]]) (C := _) rfl rfl (fun i h h' => by
    match i, h with
    | 0, _ => exact ⟨_, rfl, h1'⟩
    | 1, _ => exact ⟨_, rfl, h2⟩) (not_no _) (n := 2) (c := 2) rfl (Nat.le_refl _)
  simp only [World.size_alloc] at h3
  refine ⟨((h0.keepNo ((Chg.refl No _).alloc _)).keepNo ((Chg.refl No _).alloc _)).keepNo ((Chg.refl No _).alloc _), h3, (((Chg.refl No w).alloc _).alloc _).alloc _ |>.alloc _, by simp [qcW]⟩
set_option maxRecDepth 100000 in
set_option maxHeartbeats 8000000 in
theorem qalive_any (w : World) : Calls Try.prog 9 #[] w fun e w' => e = .returned (.bool true) ∧ Chg No w w' := by
  obtain ⟨hq, hs, hc0, hz0⟩ := qc_world w 3 22
  go_enter Try.func9, Try.ntmps9
  have o1 := alloc_obj (qcW w 3 22) (.cells #[.int .i64 1, .slice (some ⟨w.heap.size, 0, none⟩) 3 3, .slice (some ⟨w.heap.size + 1 + 1 + 1, 0, none⟩) 2 2] 36)
  have hca := (Chg.refl No (qcW w 3 22)).alloc (.cells #[.int .i64 1, .slice (some ⟨w.heap.size, 0, none⟩) 3 3, .slice (some ⟨w.heap.size + 1 + 1 + 1, 0, none⟩) 2 2] 36)
  have hz1 : ((qcW w 3 22).alloc (.cells #[.int .i64 1, .slice (some ⟨w.heap.size, 0, none⟩) 3 3, .slice (some ⟨w.heap.size + 1 + 1 + 1, 0, none⟩) 2 2] 36)).heap.size = w.heap.size + 1 + 1 + 1 + 1 + 1 := by simp [hz0]
  have Hq := Lib.hid (hq.keepNo hca)
  have Hs := Lib.hid (hs.keepNo hca)
  rw [hz0] at o1
  clear hq hs hz0
  have hcw := hc0.trans hca
  clear hca hc0
  unfold qcW at *
  have a0 := cell_obj (i := 0) o1 rfl
  have a1 := cell_obj (i := 1) o1 rfl
  have a2 := cell_obj (i := 2) o1 rfl
  go_wp2_with (with_reducible first | refine stop_append ?_ | refine stop_copy ?_ | refine stop_make ?_ | refine stop_lookup ?_ | refine stop_update ?_ | refine stop_slice ?_ | refine stop_range ?_ | refine stop_next ?_ | refine stop_convert ⟨_, rfl⟩ ?_ | refine stop_convertB ⟨_, _, _, rfl⟩ ?_ | refine stop_eqSlice ⟨_, _, rfl⟩ ?_)
  generalize (((((w.alloc (.cells #[.int .i64 0, .int .i64 1, .int .i64 2] 3)).alloc (.cells #[.int .i64 3] 3)).alloc (.cells #[.int .i64 4] 3)).alloc (.cells #[.slice (some ⟨w.heap.size + 1, 0, none⟩) 1 1, .slice (some ⟨w.heap.size + 1 + 1, 0, none⟩) 1 1] 22)).alloc (.cells #[.int .i64 1, .slice (some ⟨w.heap.size, 0, none⟩) 3 3, .slice (some ⟨w.heap.size + 1 + 1 + 1, 0, none⟩) 2 2] 36)) = w1 at *
  obtain ⟨b, hb⟩ : ∃ b, b = w.heap.size + 1 + 1 + 1 + 1 := ⟨_, rfl⟩
  rw [← hb] at a0 a1 a2 o1 hz1 ⊢
  have hN := Lib.hid (pnew_yes 1 (.slice (some ⟨w.heap.size, 0, none⟩) 3 3) (.slice (some ⟨w.heap.size + 1 + 1 + 1, 0, none⟩) 2 2) [0, 1, 2] [[3], [4]] w1 Hq.out Hs.out qa_right)
  unfold cfgV at hN
  clear hb hz1
  refine hN.out.mono ?_
  rintro e w2 ⟨p, rfl, hc2, hP2⟩
  replace a0 := hc2.cell a0 (not_no _)
  replace a1 := hc2.cell a1 (not_no _)
  replace a2 := hc2.cell a2 (not_no _)
  replace hP2 : Pri w2 (fun k => w1.heap.size ≤ k ∧ k < w2.heap.size) p qa0 := hP2
  have HP2 := Lib.hid hP2
  clear hP2 hN o1
  go_wp2_with (with_reducible first | refine stop_append ?_ | refine stop_copy ?_ | refine stop_make ?_ | refine stop_lookup ?_ | refine stop_update ?_ | refine stop_slice ?_ | refine stop_range ?_ | refine stop_next ?_ | refine stop_convert ⟨_, rfl⟩ ?_ | refine stop_convertB ⟨_, _, _, rfl⟩ ?_ | refine stop_eqSlice ⟨_, _, rfl⟩ ?_)
  have hN := Lib.hid (snew_yes 1 (.slice (some ⟨w.heap.size, 0, none⟩) 3 3) (.slice (some ⟨w.heap.size + 1 + 1 + 1, 0, none⟩) 2 2) [0, 1, 2] [[3], [4]] w2 (Hq.out.keepNo hc2) (Hs.out.keepNo hc2) qa_right)
  unfold cfgV at hN
  refine hN.out.mono ?_
  rintro e w3 ⟨q, rfl, hc3, hT3⟩
  replace hT3 : Sea w3 (fun k => w2.heap.size ≤ k ∧ k < w3.heap.size) q qs0 := hT3
  obtain ⟨S, T, hQ⟩ : ∃ S T, QA w w3 S T p q qa0 qs0 := ⟨_, _, HP2.out.keepNo hc3, hT3, fun k s t => by omega, fun k s => by have := hcw.size; omega, fun k s => by have := (hcw.trans hc2).size; omega, (hcw.trans hc2).trans hc3⟩
  have HQ := Lib.hid hQ
  clear hQ hT3 HP2 hN a0 a1 a2 hc2 hc3 hcw Hq Hs
  have hr4 := (Chg.refl No w3).alloc (.cells #[.int .i64 1, .int .i64 0] 3)
  have hv4 := qnums2 (F := S) w3 1 0 3 (fun s => by have := HQ.out.pri.lt _ s; omega)
  have HQ4 := Lib.hid (HQ.out.no hr4)
  go_wp2_with (with_reducible first | refine stop_append ?_ | refine stop_copy ?_ | refine stop_make ?_ | refine stop_lookup ?_ | refine stop_update ?_ | refine stop_slice ?_ | refine stop_range ?_ | refine stop_next ?_ | refine stop_convert ⟨_, rfl⟩ ?_ | refine stop_convertB ⟨_, _, _, rfl⟩ ?_ | refine stop_eqSlice ⟨_, _, rfl⟩ ?_)
  generalize w3.alloc (.cells #[.int .i64 1, .int .i64 0] 3) = w4 at *
  have hC := Lib.hid (pcut_any S p qa0 _ [1, 0] w4 HQ4.out.pri hv4 (by decide) (by decide) (by decide))
  rw [qa_cut1] at hC
  refine hC.out.mono ?_
  rintro e w5 ⟨vx, S5, rfl, hc5, hp5, hS5, hx5⟩
  have hx5 : Sl (fun k => S5 k ∨ k < w4.heap.size) w5 vx [(1 : Int), 0] := hx5
  obtain ⟨Ax, cx, rfl⟩ := hx5.slice
  have HQ5 := Lib.hid (HQ4.out.setP hc5 hp5 hS5)
  have hTw4 : ∀ k, T k → k < w4.heap.size := HQ4.out.sea.lt
  have HT4 := Lib.hid hTw4
  simp only [entV, qaX]
  clear hC hp5 hS5 hr4 hv4 hc5 hTw4
  have hr6 := (Chg.refl No w5).alloc (.cells #[.int .i64 1, .int .i64 1, .slice Ax 2 cx, .int .i64 0, .int .i64 0, .int .i64 0] 76)
  have o6 := alloc_obj w5 (.cells #[.int .i64 1, .int .i64 1, .slice Ax 2 cx, .int .i64 0, .int .i64 0, .int .i64 0] 76)
  have HQ6 := Lib.hid (HQ5.out.no hr6)
  have hx6 := hx5.keepNo hr6
  have hb6 : ¬ S5 w5.heap.size ∧ ¬ T w5.heap.size := ⟨fun s => by have := HQ5.out.pri.lt _ s; omega, fun s => by have := HQ5.out.sea.lt _ s; omega⟩
  have HB6 := Lib.hid hb6
  have Hx6 := Lib.hid hx6
  have E6 := Lib.hid (show (w5.alloc (.cells #[.int .i64 1, .int .i64 1, .slice Ax 2 cx, .int .i64 0, .int .i64 0, .int .i64 0] 76)).heap.size = w5.heap.size + 1 by simp)
  clear hx5 hx6 hb6 hr6
  go_wp2_with (with_reducible first | refine stop_append ?_ | refine stop_copy ?_ | refine stop_make ?_ | refine stop_lookup ?_ | refine stop_update ?_ | refine stop_slice ?_ | refine stop_range ?_ | refine stop_next ?_ | refine stop_convert ⟨_, rfl⟩ ?_ | refine stop_convertB ⟨_, _, _, rfl⟩ ?_ | refine stop_eqSlice ⟨_, _, rfl⟩ ?_)
  rw [← E6.out]
  generalize w5.alloc (.cells #[.int .i64 1, .int .i64 1, .slice Ax 2 cx, .int .i64 0, .int .i64 0, .int .i64 0] 76) = w6 at *
  generalize w5.heap.size = b6 at *
  have hr7 := (Chg.refl No w6).alloc (.cells #[.int .i64 1, .int .i64 0] 3)
  have hv7 := qnums2 (F := S5) w6 1 0 3 (fun s => by have := HQ6.out.pri.lt _ s; omega)
  have HQ7 := Lib.hid (HQ6.out.no hr7)
  replace o6 := hr7.obj o6 (not_no _)
  have Hx7 := Lib.hid (Hx6.out.keepNo hr7)
  generalize w6.alloc (.cells #[.int .i64 1, .int .i64 0] 3) = w7 at *
  have hC := Lib.hid (pcut_any S5 p qa1 _ [1, 0] w7 HQ7.out.pri hv7 (by decide) (by decide) (by decide))
  rw [qa_cut2] at hC
  refine hC.out.mono ?_
  rintro e w8 ⟨vy, S8, rfl, hc8, hp8, hS8, hy8⟩
  obtain ⟨Ay, cy, rfl⟩ := hy8.slice
  have HQ8 := Lib.hid (HQ7.out.setP hc8 hp8 hS8)
  have HT8 := Lib.hid HQ8.out.sea.lt
  have HB8 := Lib.hid (show ¬ S8 b6 ∧ ¬ T b6 from ⟨fun s => by rcases hS8 _ s with g | g; exact HB6.out.1 g; (have := lt_of_heap o6; omega), HB6.out.2⟩)
  have Hx8 := Lib.hid ((Hx7.out.keep (hc8.weak (fun k _ g => .inl g))).weak (G := fun k => T k) (fun k _ g => .inr (HT4.out k g)))
  have hx8 := (((Hx7.out.weak (G := fun k => S8 k ∨ S5 k ∨ k < w4.heap.size) (fun k hk g => by
    rcases g with g | g | g
    · rcases hS8 k g with g | g
      · exact .inl g
      · omega
    · exact .inl g
    · exact .inr g)).keep (hc8.weak (fun k _ g => .inr (.inl g)))).weak (G := fun k => S8 k ∨ k < w4.heap.size) (fun k _ g => g.imp id .inr))
  have HX8 := Lib.hid hx8
  replace o6 := hc8.obj o6 HB6.out.1
  simp only [entV, zeroE]
  have hr9 := (Chg.refl No w8).alloc (.cells #[.int .i64 0, .int .i64 0, .slice Ay 0 cy, .int .i64 0, .int .i64 0, .int .i64 0] 76)
  have HQ9 := Lib.hid (HQ8.out.no hr9)
  have HX9 := Lib.hid (HX8.out.keepNo hr9)
  replace o6 := hr9.obj o6 (not_no _)
  clear hC hp8 hS8 hr7 hv7 hc8 hy8 hx8 hr9 HQ4 HQ5 HQ6 HQ7 HQ8 Hx6 Hx7 Hx8 HX8 HB6 E6 HQ
  go_wp2_with (with_reducible first | refine stop_append ?_ | refine stop_copy ?_ | refine stop_make ?_ | refine stop_lookup ?_ | refine stop_update ?_ | refine stop_slice ?_ | refine stop_range ?_ | refine stop_next ?_ | refine stop_convert ⟨_, rfl⟩ ?_ | refine stop_convertB ⟨_, _, _, rfl⟩ ?_ | refine stop_eqSlice ⟨_, _, rfl⟩ ?_)
  generalize w8.alloc (.cells #[.int .i64 0, .int .i64 0, .slice Ay 0 cy, .int .i64 0, .int .i64 0, .int .i64 0] 76) = w9 at *
  have hH := Lib.hid (pheard_any S8 No p qa1 (qm 4 0 false) (.slice none 0 0) (.slice none 0 0) (.slice none 0 0) (.slice none 0 0) w9 HQ9.out.pri ⟨Sl.nil _ _ _ _, Sl.nil _ _ _ _, Sl.nil _ _ _ _, Sl.nil _ _ _ _⟩ ⟨by decide, by decide, by decide⟩ (by decide))
  rw [qa_h1] at hH
  refine hH.out.mono ?_
  rintro e w10 ⟨rfl, hc10, hp10⟩
  have HQ10 := Lib.hid (HQ9.out.setP hc10 hp10 (fun k s => .inl s))
  have HX10 := Lib.hid (HX9.out.keep (hc10.weak (fun k _ g => .inl g)))
  replace o6 := hc10.obj o6 HB8.out.1
  clear hH hp10 hc10 HQ9 HX9
  go_wp2_with (with_reducible first | refine stop_append ?_ | refine stop_copy ?_ | refine stop_make ?_ | refine stop_lookup ?_ | refine stop_update ?_ | refine stop_slice ?_ | refine stop_range ?_ | refine stop_next ?_ | refine stop_convert ⟨_, rfl⟩ ?_ | refine stop_convertB ⟨_, _, _, rfl⟩ ?_ | refine stop_eqSlice ⟨_, _, rfl⟩ ?_)
  have hH := Lib.hid (pheard_any S8 No p qa2 (qm 6 1 true) (.slice none 0 0) (.slice none 0 0) (.slice none 0 0) (.slice none 0 0) w10 HQ10.out.pri ⟨Sl.nil _ _ _ _, Sl.nil _ _ _ _, Sl.nil _ _ _ _, Sl.nil _ _ _ _⟩ ⟨by decide, by decide, by decide⟩ (by decide))
  rw [qa_h2] at hH
  refine hH.out.mono ?_
  rintro e w11 ⟨rfl, hc11, hp11⟩
  have HQ11 := Lib.hid (HQ10.out.setP hc11 hp11 (fun k s => .inl s))
  have HX11 := Lib.hid (HX10.out.keep (hc11.weak (fun k _ g => .inl g)))
  replace o6 := hc11.obj o6 HB8.out.1
  clear hH hp11 hc11 HQ10 HX10
  go_wp2_with (with_reducible first | refine stop_append ?_ | refine stop_copy ?_ | refine stop_make ?_ | refine stop_lookup ?_ | refine stop_update ?_ | refine stop_slice ?_ | refine stop_range ?_ | refine stop_next ?_ | refine stop_convert ⟨_, rfl⟩ ?_ | refine stop_convertB ⟨_, _, _, rfl⟩ ?_ | refine stop_eqSlice ⟨_, _, rfl⟩ ?_)
  have hr12 := (Chg.refl No w11).alloc (.cells #[.int .i64 2, .int .i64 0] 3)
  have hv12 := qnums2 (F := S8) w11 2 0 3 (fun s => by have := HQ11.out.pri.lt _ s; omega)
  have HQ12 := Lib.hid (HQ11.out.no hr12)
  have HX12 := Lib.hid (HX11.out.keepNo hr12)
  replace o6 := hr12.obj o6 (not_no _)
  generalize w11.alloc (.cells #[.int .i64 2, .int .i64 0] 3) = w12 at *
  have hb12 := Lib.hid (lt_of_heap o6)
  have hC := Lib.hid (pcut_any S8 p qa3 _ [2, 0] w12 HQ12.out.pri hv12 (by decide) (by decide) (by decide))
  rw [qa_cut3] at hC
  refine hC.out.mono ?_
  rintro e w13 ⟨vy, S13, rfl, hc13, hp13, hS13, hy13⟩
  obtain ⟨Az, cz, rfl⟩ := hy13.slice
  have HQ13 := Lib.hid (HQ12.out.setP hc13 hp13 hS13)
  have hx13 := ((HX12.out.keep (hc13.weak (fun k _ g => .inl g))).weak (G := T) (fun k _ g => .inr (HT4.out k g)))
  have Hx13 := Lib.hid hx13
  replace o6 := hc13.obj o6 HB8.out.1
  have HB13 := Lib.hid (show ¬ S13 b6 ∧ ¬ T b6 from ⟨fun s => by rcases hS13 _ s with g | g; exact HB8.out.1 g; (have := hb12.out; omega), HB8.out.2⟩)
  clear hC hp13 hS13 hr12 hv12 hc13 hy13 hx13 HQ11 HQ12 HX11 HX12 HB8
  simp only [entV, zeroE]
  have hr14 := (Chg.refl No w13).alloc (.cells #[.int .i64 0, .int .i64 0, .slice Az 0 cz, .int .i64 0, .int .i64 0, .int .i64 0] 76)
  have HQ14 := Lib.hid (HQ13.out.no hr14)
  have Hx14 := Lib.hid (Hx13.out.keepNo hr14)
  replace o6 := hr14.obj o6 (not_no _)
  have a0 := cell_obj (i := 0) o6 rfl
  have a1 := cell_obj (i := 1) o6 rfl
  have a2 := cell_obj (i := 2) o6 rfl
  have a3 := cell_obj (i := 3) o6 rfl
  have a4 := cell_obj (i := 4) o6 rfl
  have a5 := cell_obj (i := 5) o6 rfl
  have E14 := Lib.hid (show (w13.alloc (.cells #[.int .i64 0, .int .i64 0, .slice Az 0 cz, .int .i64 0, .int .i64 0, .int .i64 0] 76)).heap.size = w13.heap.size + 1 by simp)
  clear HQ13 Hx13 hr14 hb12
  go_wp2_with (with_reducible first | refine stop_append ?_ | refine stop_copy ?_ | refine stop_make ?_ | refine stop_lookup ?_ | refine stop_update ?_ | refine stop_slice ?_ | refine stop_range ?_ | refine stop_next ?_ | refine stop_convert ⟨_, rfl⟩ ?_ | refine stop_convertB ⟨_, _, _, rfl⟩ ?_ | refine stop_eqSlice ⟨_, _, rfl⟩ ?_)
  rw [← E14.out]
  generalize w13.alloc (.cells #[.int .i64 0, .int .i64 0, .slice Az 0 cz, .int .i64 0, .int .i64 0, .int .i64 0] 76) = w14 at *
  have hr15 := (Chg.refl No w14).alloc (.cells #[.int .i64 1, .int .i64 1, .slice Ax 2 cx, .int .i64 0, .int .i64 0, .int .i64 0] 76)
  have HQ15 := Lib.hid (HQ14.out.no hr15)
  replace o6 := hr15.obj o6 (not_no _)
  have hl15 : Sl T (w14.alloc (.cells #[.int .i64 1, .int .i64 1, .slice Ax 2 cx, .int .i64 0, .int .i64 0, .int .i64 0] 76)) (.slice (some ⟨w14.heap.size, 0, none⟩) 1 1) [qaX] := Sl.lit1 rfl (ent_mk qaX Hx14.out) (fun s => by have := HQ14.out.sea.lt _ s; omega)
  generalize w14.alloc (.cells #[.int .i64 1, .int .i64 1, .slice Ax 2 cx, .int .i64 0, .int .i64 0, .int .i64 0] 76) = w15 at *
  have hH := Lib.hid (sheard_any T q qs0 0 _ [qaX] w15 HQ15.out.sea hl15 (by decide) (by decide) (by decide) (by decide) (by decide))
  rw [qs_h1] at hH
  refine hH.out.mono ?_
  rintro e w16 ⟨rfl, hc16, T16, hs16, hT16⟩
  have HQ16 := Lib.hid (HQ15.out.setS hc16 hs16 hT16)
  have hb16 : ¬ T16 b6 := fun s => by rcases hT16 _ s with g | g; exact HB13.out.2 g; (have := lt_of_heap o6; omega)
  have HB16 := Lib.hid hb16
  replace o6 := hc16.obj o6 HB13.out.2
  clear hH hr15 hl15 hc16 hs16 hT16 HQ14 HQ15 Hx14 E14 a0 a1 a2 a3 a4 a5 HB13 hb16
  go_wp2_with (with_reducible first | refine stop_append ?_ | refine stop_copy ?_ | refine stop_make ?_ | refine stop_lookup ?_ | refine stop_update ?_ | refine stop_slice ?_ | refine stop_range ?_ | refine stop_next ?_ | refine stop_convert ⟨_, rfl⟩ ?_ | refine stop_convertB ⟨_, _, _, rfl⟩ ?_ | refine stop_eqSlice ⟨_, _, rfl⟩ ?_)
  have hH := Lib.hid (sheard_any T16 q qs1 1 (.slice none 0 0) [] w16 HQ16.out.sea (Sl.nil _ _ _ _) (by decide) (by decide) (by decide) (by decide) (by decide))
  rw [qs_h2] at hH
  refine hH.out.mono ?_
  rintro e w17 ⟨rfl, hc17, T17, hs17, hT17⟩
  have HQ17 := Lib.hid (HQ16.out.setS hc17 hs17 hT17)
  replace o6 := hc17.obj o6 HB16.out
  clear hH hc17 hs17 hT17 HQ16 HB16
  go_wp2_with (with_reducible first | refine stop_append ?_ | refine stop_copy ?_ | refine stop_make ?_ | refine stop_lookup ?_ | refine stop_update ?_ | refine stop_slice ?_ | refine stop_range ?_ | refine stop_next ?_ | refine stop_convert ⟨_, rfl⟩ ?_ | refine stop_convertB ⟨_, _, _, rfl⟩ ?_ | refine stop_eqSlice ⟨_, _, rfl⟩ ?_)
  have hH := Lib.hid (stail_any T17 q qs2 w17 HQ17.out.sea (by decide) (by decide))
  rw [qs_tail, qs_done] at hH
  refine hH.out.mono ?_
  rintro e w18 ⟨A18, c18, rfl, hc18, hs18⟩
  have HQ18 := Lib.hid (HQ17.out.no hc18)
  replace o6 := hc18.obj o6 (not_no _)
  have a0 := cell_obj (i := 0) o6 rfl
  clear hH hc18 hs18 HQ17 o6
  go_wp2_with (with_reducible first | refine stop_append ?_ | refine stop_copy ?_ | refine stop_make ?_ | refine stop_lookup ?_ | refine stop_update ?_ | refine stop_slice ?_ | refine stop_range ?_ | refine stop_next ?_ | refine stop_convert ⟨_, rfl⟩ ?_ | refine stop_convertB ⟨_, _, _, rfl⟩ ?_ | refine stop_eqSlice ⟨_, _, rfl⟩ ?_)
  have hH := Lib.hid (pcommitted_any S13 p qa3 w18 HQ18.out.pri (by decide))
  rw [qa_comm] at hH
  refine hH.out.mono ?_
  rintro e w19 ⟨rfl, hc19⟩
  have HQ19 := Lib.hid (HQ18.out.no hc19)
  clear hH hc19 HQ18
  go_wp2_with (with_reducible first | refine stop_append ?_ | refine stop_copy ?_ | refine stop_make ?_ | refine stop_lookup ?_ | refine stop_update ?_ | refine stop_slice ?_ | refine stop_range ?_ | refine stop_next ?_ | refine stop_convert ⟨_, rfl⟩ ?_ | refine stop_convertB ⟨_, _, _, rfl⟩ ?_ | refine stop_eqSlice ⟨_, _, rfl⟩ ?_)
  have hH := Lib.hid (pmissing_any S13 p qa3 2 w19 HQ19.out.pri (by decide) (by decide) (by decide) ⟨by decide, by decide⟩)
  rw [qa_miss] at hH
  refine hH.out.mono ?_
  rintro e w20 ⟨v20, rfl, hc20, hs20⟩
  obtain ⟨A20, c20, rfl⟩ := hs20.slice
  have HQ20 := Lib.hid (HQ19.out.no hc20)
  clear hH hc20 HQ19 hs20
  go_wp2_with (with_reducible first | refine stop_append ?_ | refine stop_copy ?_ | refine stop_make ?_ | refine stop_lookup ?_ | refine stop_update ?_ | refine stop_slice ?_ | refine stop_range ?_ | refine stop_next ?_ | refine stop_convert ⟨_, rfl⟩ ?_ | refine stop_convertB ⟨_, _, _, rfl⟩ ?_ | refine stop_eqSlice ⟨_, _, rfl⟩ ?_)
  go_ret
  exact ⟨rfl, HQ20.out.chg⟩
end Go.Proofs.Yticimjplegbagaa


/- Walks of the quorum's laws: operations of a script in memory, few. -/
set_option linter.unusedVariables false
set_option linter.unusedSimpArgs false
namespace Go.Proofs.Yticimjplegbagaa
open Go.RowKit Cb

/-- A call: kind, tag; vector; place; message. -/
abbrev Op12 := (Int × Int) × List Int × (Int × Int) × Msg
def opC (x : Op12) (vv vt vc vq vs : Value) : Array Value := #[.int .i64 x.1.1, .int .i64 x.1.2, vv, .int .i64 x.2.2.1.1, .int .i64 x.2.2.1.2,
  .int .i64 x.2.2.2.1.1, .int .i64 x.2.2.2.1.2.1, .int .i64 x.2.2.2.1.2.2.1, .int .i64 x.2.2.2.1.2.2.2, .int .i64 x.2.2.2.2.1.1, .int .i64 x.2.2.2.2.1.2, .bool x.2.2.2.2.2.1, .int .i64 x.2.2.2.2.2.2.1.1.1, .int .i64 x.2.2.2.2.2.2.1.1.2, vt, .string x.2.2.2.2.2.2.1.2.2,
  .int .i64 x.2.2.2.2.2.2.2.1.1, .int .i64 x.2.2.2.2.2.2.2.1.2.1, vc, .int .i64 x.2.2.2.2.2.2.2.1.2.2.2.1, .int .i64 x.2.2.2.2.2.2.2.1.2.2.2.2.1, .int .i64 x.2.2.2.2.2.2.2.1.2.2.2.2.2, .int .i64 x.2.2.2.2.2.2.2.2.1.1, .int .i64 x.2.2.2.2.2.2.2.2.1.2, .int .i64 x.2.2.2.2.2.2.2.2.2.1, vq, vs]
theorem op12_get {F : Nat → Prop} {w : World} {A : Option Addr} {n c : Nat} {l : List Op12} (h : Sl F w (.slice A n c) l) (k : Nat) (hk : k < l.length) :
    ∃ b o vv vt vc vq vs, A = some ⟨b, o, none⟩ ∧ ¬ F b ∧ b < w.heap.size ∧ Sl F w vv l[k].2.1 ∧ MsgS F w l[k].2.2.2 vt vc vq vs ∧ ∀ i v, (opC l[k] vv vt vc vq vs)[i]? = some v → w.cell? ⟨b, o + k * 27 + i, none⟩ = some v := by
  obtain ⟨b, o, d, rfl, hF, hb, hd, ha⟩ := h.get k hk
  generalize l[k] = x at *
  obtain ⟨⟨ok, og⟩, vec, ⟨ut, up⟩, ⟨⟨xk, xf, xo, xt⟩, ⟨xs, xn⟩, xb, ⟨⟨r1, r2⟩, tags, data⟩, ⟨e0, e1, cut, e3, e4, e5⟩, ⟨bal, old⟩, tt, q1, s1⟩⟩ := x
  obtain ⟨_, _, rfl, ⟨_, _, rfl, rfl, rfl⟩, ⟨_, _, rfl, ⟨vv, rfl, hv⟩, ⟨_, _, rfl, ⟨_, _, rfl, rfl, rfl⟩, ⟨_, _, rfl, ⟨_, _, rfl, rfl, ⟨_, _, rfl, rfl, ⟨_, _, rfl, rfl, rfl⟩⟩⟩, ⟨_, _, rfl, ⟨_, _, rfl, rfl, rfl⟩, ⟨_, _, rfl, rfl, ⟨_, _, rfl, ⟨_, _, rfl, ⟨_, _, rfl, rfl, rfl⟩, ⟨_, _, rfl, ⟨vt, rfl, ht⟩, rfl⟩⟩, ⟨_, _, rfl, ⟨_, _, rfl, rfl, ⟨_, _, rfl, rfl, ⟨_, _, rfl, ⟨vc, rfl, hc⟩, ⟨_, _, rfl, rfl, ⟨_, _, rfl, rfl, rfl⟩⟩⟩⟩⟩, ⟨_, _, rfl, ⟨_, _, rfl, rfl, rfl⟩, ⟨_, _, rfl, rfl, ⟨_, _, rfl, ⟨vq, rfl, hq⟩, ⟨vs, rfl, hs⟩⟩⟩⟩⟩⟩⟩⟩⟩⟩⟩⟩ := hd
  refine ⟨b, o, vv, vt, vc, vq, vs, rfl, hF, hb, hv, ⟨ht, hc, hq, hs⟩, fun i v hi => ha i v ?_⟩
  simpa [opC] using hi
/-- What an operation may hold. -/
def OpI12 (o : Op12) : Prop := o.2.1.length ≤ 17592186044416 ∧ o.2.2.2.2.2.2.1.2.1.length ≤ 17592186044416 ∧ o.2.2.2.2.2.2.1.2.2.size ≤ 140737488355328 ∧ o.2.2.2.2.2.2.2.1.2.2.1.length ≤ 17592186044416 ∧ o.2.2.2.2.2.2.2.2.2.2.1.length ≤ 17592186044416 ∧ o.2.2.2.2.2.2.2.2.2.2.2.length ≤ 17592186044416
/-- How much it holds. -/
def wt12 (o : Op12) : Nat := o.2.1.length + o.2.2.2.2.2.2.1.2.2.size + o.2.2.2.2.2.2.1.2.1.length + o.2.2.2.2.2.2.2.2.2.2.1.length + o.2.2.2.2.2.2.2.2.2.2.2.length + o.2.2.2.2.2.2.2.1.2.2.1.length
def wts (l : List Op12) : Nat := (l.map wt12).sum
theorem wts_snoc (l : List Op12) (k : Nat) (hk : k < l.length) : wts (l.take (k + 1)) = wts (l.take k) + wt12 l[k] := by
  unfold wts
  rw [List.take_succ_eq_append_getElem hk, List.map_append, List.sum_append]; simp
theorem wt_bound {o : Op12} (h : OpI12 o) : wt12 o ≤ 240000000000000 := by
  obtain ⟨h1, h2, h3, h4, h5, h6⟩ := h
  unfold wt12; omega
theorem wts_bound (l : List Op12) (h : ∀ o ∈ l, OpI12 o) : ∀ k, k ≤ l.length → wts (l.take k) ≤ k * 240000000000000 := by
  intro k
  induction k with
  | zero => intro _; simp [wts]
  | succ k ih => intro hk; rw [wts_snoc l k (by omega)]; have := ih (by omega); have := wt_bound (h _ (List.getElem_mem (by omega : k < l.length))); omega
def SmC (q : List Int) (s : List (List Int)) : Prop := q.length ≤ 100 ∧ s.length ≤ 100 ∧ ∀ x ∈ s, x.length ≤ 100
/-- What few answers: if yes, then the script is short, and its parts are. -/
def FewOut (q : List Int) (s : List (List Int)) (l : List Op12) (w : World) (e : Ending) (w' : World) : Prop :=
  (∃ b, e = .returned (.bool b) ∧ (b = true → l.length ≤ 60 ∧ (SmC q s → wts l ≤ 3000))) ∧ Chg No w w'
set_option maxRecDepth 100000 in
set_option maxHeartbeats 8000000 in
theorem fewq_any (F G H : Nat → Prop) (t : Int) (vq vs v : Value) (q : List Int) (s : List (List Int)) (l : List Op12) (w : World) (hq : Sl F w vq q) (hs : Sl G w vs s) (h : Sl H w v l) (hql : q.length ≤ 17592186044416) (hsl : s.length ≤ 17592186044416) (hsb : ∀ x ∈ s, x.length ≤ 17592186044416) (hl : l.length ≤ 1000000000000) (ho : ∀ o ∈ l, OpI12 o) :
    Calls Try.prog 8 #[cfgV t vq vs, v] w (FewOut q s l w) := by
  obtain ⟨Aq, cq, rfl⟩ := hq.slice
  obtain ⟨As, cs, rfl⟩ := hs.slice
  obtain ⟨A, c, rfl⟩ := h.slice
  unfold cfgV
  have o1 := alloc_obj w (.cells #[.int .i64 t, .slice Aq q.length cq, .slice As s.length cs] 25)
  have hc0 := (Chg.refl No w).alloc (.cells #[.int .i64 t, .slice Aq q.length cq, .slice As s.length cs] 25)
  have a1 := cell_obj (i := 1) o1 rfl
  have a2 := cell_obj (i := 2) o1 rfl
  have Hh := Lib.hid (h.keepNo hc0)
  have Hs := Lib.hid (hs.keepNo hc0)
  have Ho := Lib.hid ho
  have Hsb := Lib.hid hsb
  clear h hs hq ho o1 hsb
  go_enter Try.func8, Try.ntmps8
  go_wp2_with (with_reducible first | refine stop_append ?_ | refine stop_copy ?_ | refine stop_make ?_ | refine stop_lookup ?_ | refine stop_update ?_ | refine stop_slice ?_ | refine stop_range ?_ | refine stop_next ?_ | refine stop_convert ⟨_, rfl⟩ ?_ | refine stop_convertB ⟨_, _, _, rfl⟩ ?_ | refine stop_eqSlice ⟨_, _, rfl⟩ ?_)
  generalize w.alloc (.cells #[.int .i64 t, .slice Aq q.length cq, .slice As s.length cs] 25) = w0 at *
  generalize w.heap.size = b at *
  clear a1
  go_loopw [5, 7, 16] (fun v5 _ v16 wr => ∃ (k : Nat) (n : Int), k ≤ s.length ∧ v16 = .int .i64 k ∧ v5 = .int .i64 n ∧ wr = w0 ∧ (SmC q s → 0 ≤ n ∧ n ≤ 100 + k * 101)) (fun _ _ v16 _ => s.length - (intOf v16).toNat)
  case atStart => exact ⟨0, _, by omega, rfl, rfl, rfl, fun hS => by have := hS.1; omega⟩
  case round =>
    obtain ⟨k, n, hk, rfl, rfl, rfl, hn⟩ := hrel
    have Hn := Lib.hid hn
    clear hn
    by_cases hlt : k < s.length
    · obtain ⟨b2, o2, d, rfl, _, hbl2, ⟨vj, rfl, hvj⟩, ha⟩ := Hs.out.get k hlt
      have ha0 := ha 0 _ rfl
      simp only [show Rep.n (List Int) = 1 from rfl, Nat.mul_one, Nat.add_zero] at ha0
      obtain ⟨Aj, cj, rfl⟩ := hvj.slice
      have Hj := Lib.hid (show SmC q s → s[k].length ≤ 100 from fun hS => hS.2.2 _ (List.getElem_mem hlt))
      have Hj2 := Lib.hid (Hsb.out _ (List.getElem_mem hlt))
      generalize s[k].length = nj at *
      clear ha hvj
      have hw1 : IntKind.i64.wrap ((nj : Int) + 1) = (nj : Int) + 1 := IntWalk.i64_in _ (by have := Hj2.out; omega)
      go_wp2_with (with_reducible first | refine stop_append ?_ | refine stop_copy ?_ | refine stop_make ?_ | refine stop_lookup ?_ | refine stop_update ?_ | refine stop_slice ?_ | refine stop_range ?_ | refine stop_next ?_ | refine stop_convert ⟨_, rfl⟩ ?_ | refine stop_convertB ⟨_, _, _, rfl⟩ ?_ | refine stop_eqSlice ⟨_, _, rfl⟩ ?_)
      go_roundw
      case rel => exact ⟨k + 1, _, by omega, by go_num, rfl, by first | rfl | trivial, fun hS => by
        have h1 := Hn.out hS
        have h2 := Hj.out hS
        have h3 := hS.2.1
        unfold wrap64
        omega⟩
      case measure => simp [intOf]; omega
    · obtain rfl : k = s.length := by omega
      clear a2 hsl
      obtain ⟨ws, hws⟩ : ∃ f : Nat → Nat, f = fun k => wts (l.take k) := ⟨_, rfl⟩
      have Hws := Lib.hid (fun k (hk : k < l.length) => show ws (k + 1) = ws k + wt12 l[k] by subst hws; exact wts_snoc l k hk)
      have Hwb := Lib.hid (fun k (hk : k ≤ l.length) => show ws k ≤ k * 240000000000000 by subst hws; exact wts_bound l Ho.out k hk)
      have Hw0 := Lib.hid (show ws 0 = 0 by subst hws; simp [wts])
      have Hwl := Lib.hid (show ws l.length = wts l by subst hws; simp)
      clear hws
      obtain ⟨w0', rfl⟩ : ∃ W : World, W = wr := ⟨_, rfl⟩
      go_wp2_with (with_reducible first | refine stop_append ?_ | refine stop_copy ?_ | refine stop_make ?_ | refine stop_lookup ?_ | refine stop_update ?_ | refine stop_slice ?_ | refine stop_range ?_ | refine stop_next ?_ | refine stop_convert ⟨_, rfl⟩ ?_ | refine stop_convertB ⟨_, _, _, rfl⟩ ?_ | refine stop_eqSlice ⟨_, _, rfl⟩ ?_)
      go_loopw [5, 9, 28] (fun v5 _ v28 wr => ∃ (k : Nat) (m : Int), k ≤ l.length ∧ v28 = .int .i64 k ∧ v5 = .int .i64 m ∧ Chg No w0' wr ∧ (k ≤ 60 → SmC q s → m = n + ws k)) (fun _ _ v28 _ => l.length - (intOf v28).toNat)
      case atStart => exact ⟨0, n, by omega, rfl, rfl, Chg.refl _ _, fun _ _ => by rw [Hw0.out]; simp⟩
      case round =>
        obtain ⟨k, m, hk, rfl, rfl, hc1, hm⟩ := hrel
        have Hm := Lib.hid hm
        clear hm
        by_cases hlt : k < l.length
        · obtain ⟨b4, o4, vv, vt, vc, vq4, vs4, rfl, -, hbl, sv, sm, hcells⟩ := op12_get (Hh.out.keepNo hc1) k hlt
          have hI := Ho.out _ (List.getElem_mem hlt)
          have Hws1 := Lib.hid (Hws.out k hlt)
          have Hwb1 := Lib.hid (Hwb.out (k + 1) (by omega))
          generalize l[k] = x at *
          have hwt : wt12 x = x.2.1.length + x.2.2.2.2.2.2.1.2.2.size + x.2.2.2.2.2.2.1.2.1.length + x.2.2.2.2.2.2.2.2.2.2.1.length + x.2.2.2.2.2.2.2.2.2.2.2.length + x.2.2.2.2.2.2.2.1.2.2.1.length := rfl
          obtain ⟨h1, h2, h3, h4, h5, h6⟩ := hI
          obtain ⟨Av, cv, rfl⟩ := sv.slice
          obtain ⟨Ag, cg, rfl⟩ := sm.t.slice
          obtain ⟨Ac, cc, rfl⟩ := sm.c.slice
          obtain ⟨Bq, dq, rfl⟩ := sm.q.slice
          obtain ⟨Bs, ds, rfl⟩ := sm.s.slice
          have Hcells := Lib.hid hcells
          clear sv sm hcells
          obtain ⟨⟨ok, og⟩, vec, ⟨ut, up⟩, ⟨⟨xk, xf, xo, xt⟩, ⟨xs, xn⟩, xb, ⟨⟨r1, r2⟩, tags, data⟩, ⟨e0, e1, cut, e3, e4, e5⟩, ⟨bal, old⟩, tt, q1, s1⟩⟩ := x
          simp only at h1 h2 h3 h4 h5 h6 hwt
          unfold opC at Hcells
          simp only at Hcells
          have Hwt := Lib.hid hwt
          have we1 : IntKind.i64.wrap ((vec.length : Int) + data.size) = (vec.length : Int) + data.size := IntWalk.i64_in _ (by omega)
          have we2 : IntKind.i64.wrap ((vec.length : Int) + data.size + tags.length) = (vec.length : Int) + data.size + tags.length := IntWalk.i64_in _ (by omega)
          have we3 : IntKind.i64.wrap ((vec.length : Int) + data.size + tags.length + q1.length) = (vec.length : Int) + data.size + tags.length + q1.length := IntWalk.i64_in _ (by omega)
          have we4 : IntKind.i64.wrap ((vec.length : Int) + data.size + tags.length + q1.length + s1.length) = (vec.length : Int) + data.size + tags.length + q1.length + s1.length := IntWalk.i64_in _ (by omega)
          have we5 : IntKind.i64.wrap ((vec.length : Int) + data.size + tags.length + q1.length + s1.length + cut.length) = (vec.length : Int) + data.size + tags.length + q1.length + s1.length + cut.length := IntWalk.i64_in _ (by omega)
          have Hb1 := Lib.hid h1; have Hb2 := Lib.hid h2; have Hb3 := Lib.hid h3; have Hb4 := Lib.hid h4; have Hb5 := Lib.hid h5; have Hb6 := Lib.hid h6
          clear hwt h1 h2 h3 h4 h5 h6
          go_wp2_with (with_reducible first | refine stop_append ?_ | refine stop_copy ?_ | refine stop_make ?_ | refine stop_lookup ?_ | refine stop_update ?_ | refine stop_slice ?_ | refine stop_range ?_ | refine stop_next ?_ | refine stop_convert ⟨_, rfl⟩ ?_ | refine stop_convertB ⟨_, _, _, rfl⟩ ?_ | refine stop_eqSlice ⟨_, _, rfl⟩ ?_ | refine stop_store ?_ | refine stop_alloc ?_ | refine stop_box ?_ | refine stop_load (t := 70) ?_)
          refine step_load_at b4 (o4 + k * 27) #[.int .i64 ok, .int .i64 og, .slice Av vec.length cv, .int .i64 ut, .int .i64 up, .int .i64 xk, .int .i64 xf, .int .i64 xo, .int .i64 xt, .int .i64 xs, .int .i64 xn, .bool xb, .int .i64 r1, .int .i64 r2, .slice Ag tags.length cg, .string data, .int .i64 e0, .int .i64 e1, .slice Ac cut.length cc, .int .i64 e3, .int .i64 e4, .int .i64 e5, .int .i64 bal, .int .i64 old, .int .i64 tt, .slice Bq q1.length dq, .slice Bs s1.length ds] rfl Hcells.out Try.underlying70 rfl (by kernel_rfl) ?_
          go_wp2_with (with_reducible first | refine stop_append ?_ | refine stop_copy ?_ | refine stop_make ?_ | refine stop_lookup ?_ | refine stop_update ?_ | refine stop_slice ?_ | refine stop_range ?_ | refine stop_next ?_ | refine stop_convert ⟨_, rfl⟩ ?_ | refine stop_convertB ⟨_, _, _, rfl⟩ ?_ | refine stop_eqSlice ⟨_, _, rfl⟩ ?_ | refine stop_store ?_ | refine stop_alloc ?_ | refine stop_box ?_ | refine stop_load (t := 70) ?_)
          refine step_alloc (.agg #[.int .i64 0, .int .i64 0, .slice none 0 0, .int .i64 0, .int .i64 0, .int .i64 0, .int .i64 0, .int .i64 0, .int .i64 0, .int .i64 0, .int .i64 0, .bool false, .int .i64 0, .int .i64 0, .slice none 0 0, .string ⟨#[]⟩, .int .i64 0, .int .i64 0, .slice none 0 0, .int .i64 0, .int .i64 0, .int .i64 0, .int .i64 0, .int .i64 0, .int .i64 0, .slice none 0 0, .slice none 0 0]) #[.int .i64 0, .int .i64 0, .slice none 0 0, .int .i64 0, .int .i64 0, .int .i64 0, .int .i64 0, .int .i64 0, .int .i64 0, .int .i64 0, .int .i64 0, .bool false, .int .i64 0, .int .i64 0, .slice none 0 0, .string ⟨#[]⟩, .int .i64 0, .int .i64 0, .slice none 0 0, .int .i64 0, .int .i64 0, .int .i64 0, .int .i64 0, .int .i64 0, .int .i64 0, .slice none 0 0, .slice none 0 0] (by kernel_rfl) rfl ?_
          intro w2 o2 c2 s2
          go_wp2_with (with_reducible first | refine stop_append ?_ | refine stop_copy ?_ | refine stop_make ?_ | refine stop_lookup ?_ | refine stop_update ?_ | refine stop_slice ?_ | refine stop_range ?_ | refine stop_next ?_ | refine stop_convert ⟨_, rfl⟩ ?_ | refine stop_convertB ⟨_, _, _, rfl⟩ ?_ | refine stop_eqSlice ⟨_, _, rfl⟩ ?_ | refine stop_store ?_ | refine stop_alloc ?_ | refine stop_box ?_ | refine stop_load (t := 70) ?_)
          refine step_store_row wr.heap.size #[.int .i64 ok, .int .i64 og, .slice Av vec.length cv, .int .i64 ut, .int .i64 up, .int .i64 xk, .int .i64 xf, .int .i64 xo, .int .i64 xt, .int .i64 xs, .int .i64 xn, .bool xb, .int .i64 r1, .int .i64 r2, .slice Ag tags.length cg, .string data, .int .i64 e0, .int .i64 e1, .slice Ac cut.length cc, .int .i64 e3, .int .i64 e4, .int .i64 e5, .int .i64 bal, .int .i64 old, .int .i64 tt, .slice Bq q1.length dq, .slice Bs s1.length ds] rfl rfl o2 (by kernel_rfl) rfl (by simp [Value.oneCell']) ?_
          intro w3 o3 c3
          have hc3 := (hc1.trans c2).old c3 (fun i h => by simp only [At] at h; have := hc1.size; omega)
          have y2 := cell_obj (i := 2) o3 rfl
          have y14 := cell_obj (i := 14) o3 rfl
          have y15 := cell_obj (i := 15) o3 rfl
          have y18 := cell_obj (i := 18) o3 rfl
          have y25 := cell_obj (i := 25) o3 rfl
          have y26 := cell_obj (i := 26) o3 rfl
          clear o2 c2 s2 o3 c3
          go_wp2_with (with_reducible first | refine stop_append ?_ | refine stop_copy ?_ | refine stop_make ?_ | refine stop_lookup ?_ | refine stop_update ?_ | refine stop_slice ?_ | refine stop_range ?_ | refine stop_next ?_ | refine stop_convert ⟨_, rfl⟩ ?_ | refine stop_convertB ⟨_, _, _, rfl⟩ ?_ | refine stop_eqSlice ⟨_, _, rfl⟩ ?_ | refine stop_store ?_ | refine stop_alloc ?_ | refine stop_box ?_ | refine stop_load (t := 70) ?_)
          go_roundw
          case rel => exact ⟨k + 1, _, by omega, by go_num, rfl, hc3, fun hk60 hS => by
            have g1 := Hm.out (by omega) hS
            have g2 := Hn.out hS
            have g3 := hS.2.1
            have g4 := Hws1.out
            have g5 := Hwb1.out
            have g6 := Hwt.out
            unfold wrap64
            omega⟩
          case measure => simp [intOf]; omega
        · obtain rfl : k = l.length := by omega
          have hcw := hc0.trans hc1
          have Hfin := Lib.hid (fun (h1 : l.length ≤ 60) (h2 : m ≤ 3000) (hS : SmC q s) => show wts l ≤ 3000 by
            have g1 := Hm.out h1 hS
            have g2 := Hn.out hS
            rw [Hwl.out] at g1
            omega)
          clear hc0 hc1
          by_cases h1 : l.length ≤ 60
          · have h1' : (l.length : Int) ≤ 60 := by omega
            by_cases h2 : m ≤ 3000
            · go_wp2_with (with_reducible first | refine stop_append ?_ | refine stop_copy ?_ | refine stop_make ?_ | refine stop_lookup ?_ | refine stop_update ?_ | refine stop_slice ?_ | refine stop_range ?_ | refine stop_next ?_ | refine stop_convert ⟨_, rfl⟩ ?_ | refine stop_convertB ⟨_, _, _, rfl⟩ ?_ | refine stop_eqSlice ⟨_, _, rfl⟩ ?_)
              go_ret
              exact ⟨⟨_, rfl, fun _ => ⟨h1, Hfin.out h1 h2⟩⟩, hcw⟩
            · have Hn2 := Lib.hid h2
              go_wp2_with (with_reducible first | refine stop_append ?_ | refine stop_copy ?_ | refine stop_make ?_ | refine stop_lookup ?_ | refine stop_update ?_ | refine stop_slice ?_ | refine stop_range ?_ | refine stop_next ?_ | refine stop_convert ⟨_, rfl⟩ ?_ | refine stop_convertB ⟨_, _, _, rfl⟩ ?_ | refine stop_eqSlice ⟨_, _, rfl⟩ ?_)
              go_ret
              exact ⟨⟨false, by first | rfl | simp [Hn2.out], fun e => by cases e⟩, hcw⟩
          · have h1' : ¬ (l.length : Int) ≤ 60 := by omega
            clear h1
            go_wp2_with (with_reducible first | refine stop_append ?_ | refine stop_copy ?_ | refine stop_make ?_ | refine stop_lookup ?_ | refine stop_update ?_ | refine stop_slice ?_ | refine stop_range ?_ | refine stop_next ?_ | refine stop_convert ⟨_, rfl⟩ ?_ | refine stop_convertB ⟨_, _, _, rfl⟩ ?_ | refine stop_eqSlice ⟨_, _, rfl⟩ ?_)
            go_ret
            exact ⟨⟨false, by first | rfl | simp, fun e => by cases e⟩, hcw⟩
end Go.Proofs.Yticimjplegbagaa


/- The primary in plain words: what always holds of it; what is committed. No program in sight. -/
set_option linter.unusedVariables false
set_option linter.unusedSimpArgs false
namespace Go.Proofs.Yticimjplegbagaa
open Go.RowKit Cb

/-- What always holds of a primary behind so many calls. -/
structure PI (K : Nat) (st : PSt) : Prop where
  tt : 1 ≤ st.t ∧ st.t ≤ 64
  nodes : nodesB st.nodes = true ∧ 1 ≤ st.nodes.length ∧ st.nodes.length ≤ 7
  need : st.need = st.nodes.length / 2 + 1
  len : st.l.length ≤ K
  last8 : st.last.length ≤ 8
  ents : ∀ e ∈ st.l, entR e = true
  num : ∀ i (h : i < st.l.length), st.l[i].1 = (i : Int) + 1
  chain : ∃ lc, chainF st.l 0 [] = (st.l.length, lc) ∧ (lc = [] ∨ lc = st.last)
  has : ∀ x, 0 ≤ hasF st.m x ∧ hasF st.m x ≤ (st.l.length : Int)
theorem PI.more {K K' : Nat} {st : PSt} (h : PI K st) (hk : K ≤ K') : PI K' st := { h with len := Nat.le_trans h.len hk }
theorem ent_cut8 {e : Ent} (h : entR e = true) : e.2.2.1.length ≤ 8 := by
  unfold entR at h
  simp only [Bool.and_eq_true] at h
  obtain ⟨_, h⟩ := h
  split at h
  · simp only [Bool.and_eq_true] at h
    exact (vright_iff.1 h.1).2.1
  · split at h
    · simp only [Bool.and_eq_true, decide_eq_true_eq] at h
      omega
    · cases h
/-- What a call does to a primary. -/
structure DoesR (st : PSt) (x : Op12) (r : PSt × Ent × Int) : Prop where
  l : r.1.l = st.l ++ (if r.2.2 = 0 ∧ (x.1.1 = 0 ∨ x.1.1 = 1) then [r.2.1] else [])
  mono : ∀ y, hasF st.m y ≤ hasF r.1.m y
  t : r.1.t = st.t
  nodes : r.1.nodes = st.nodes
  need : r.1.need = st.need
/-! What is committed. -/
end Go.Proofs.Yticimjplegbagaa

