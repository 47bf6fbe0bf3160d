/- Walks of package order: New; the runs that a cut brings, told one by one. -/
import Derived.Test.YtbjpoamnglfjeaaOrdB
import Derived.Test.YtbjpoamnglfjeaaFen
import Derived.OwnWalkIn
import Derived.TacticsInMore
import Derived.LoopNIn
import Derived.LoopIn
import Derived.Shelf.Abstract
import Derived.Shelf.RegionOpen
set_option linter.unusedVariables false
set_option linter.unusedSimpArgs false
namespace Go.Proofs.Ytbjpoamnglfjeaa
open Go.RowKit Cb
attribute [local go_sem] Oper.semAt_some

set_option maxRecDepth 100000 in
set_option maxHeartbeats 1000000 in
theorem onew_no (n : Int) (w : World) (h : ¬ (1 ≤ n ∧ n ≤ 8)) : Calls Try.prog 25 #[.int .i64 n] w fun e w' => e = .returned (.tuple #[.pointer none, .int .i64 1]) ∧ Chg No w w' := by
  have H := Lib.hid (vzero_no n w h)
  have heq := fun n => veq_nil_run Try.underlying46 none n 0
  clear h
  go_enter Try.func25, Try.ntmps25
  go_wp2_with (first | (with_reducible refine stop_append ?_) | (with_reducible refine stop_copy ?_) | (with_reducible refine stop_make ?_) | (with_reducible refine stop_lookup ?_) | (with_reducible refine stop_update ?_) | (with_reducible refine stop_slice ?_) | (with_reducible refine stop_range ?_) | (with_reducible refine stop_next ?_) | (with_reducible refine stop_convert ⟨_, rfl⟩ ?_) | (with_reducible refine stop_convertB ⟨_, _, _, rfl⟩ ?_))
  refine H.out.mono ?_
  rintro e w1 ⟨rfl, hc⟩
  go_wp2_with (first | (with_reducible refine stop_append ?_) | (with_reducible refine stop_copy ?_) | (with_reducible refine stop_make ?_) | (with_reducible refine stop_lookup ?_) | (with_reducible refine stop_update ?_) | (with_reducible refine stop_slice ?_) | (with_reducible refine stop_range ?_) | (with_reducible refine stop_next ?_) | (with_reducible refine stop_convert ⟨_, rfl⟩ ?_) | (with_reducible refine stop_convertB ⟨_, _, _, rfl⟩ ?_))
  go_ret2
  exact ⟨rfl, hc⟩
set_option maxRecDepth 100000 in
set_option maxHeartbeats 1000000 in
theorem onew_yes (n : Nat) (w : World) (h1 : 1 ≤ n) (h8 : n ≤ 8) : Calls Try.prog 25 #[.int .i64 n] w fun e w' => ∃ p, e = .returned (.tuple #[.pointer (some ⟨p, 0, none⟩), .int .i64 0]) ∧ Chg No w w' ∧ Ord w' w.heap.size w'.heap.size p (newF n) := by
  have H := Lib.hid (vzero_yes n w h1 h8)
  go_enter Try.func25, Try.ntmps25
  go_wp2_with (first | (with_reducible refine stop_append ?_) | (with_reducible refine stop_copy ?_) | (with_reducible refine stop_make ?_) | (with_reducible refine stop_lookup ?_) | (with_reducible refine stop_update ?_) | (with_reducible refine stop_slice ?_) | (with_reducible refine stop_range ?_) | (with_reducible refine stop_next ?_) | (with_reducible refine stop_convert ⟨_, rfl⟩ ?_) | (with_reducible refine stop_convertB ⟨_, _, _, rfl⟩ ?_) | (with_reducible refine stop_eqSlice ⟨_, _, rfl⟩ ?_))
  refine H.out.mono ?_
  rintro e w1 ⟨a, c, rfl, hc, hs⟩
  have heq := fun m => veq_nil_run Try.underlying46 (some a) m c
  have Hs := Lib.hid hs
  have Hc := Lib.hid hc
  clear hs hc
  go_wp2_with (first | (with_reducible refine stop_append ?_) | (with_reducible refine stop_copy ?_) | (with_reducible refine stop_make ?_) | (with_reducible refine stop_lookup ?_) | (with_reducible refine stop_update ?_) | (with_reducible refine stop_slice ?_) | (with_reducible refine stop_range ?_) | (with_reducible refine stop_next ?_) | (with_reducible refine stop_convert ⟨_, rfl⟩ ?_) | (with_reducible refine stop_convertB ⟨_, _, _, rfl⟩ ?_))
  go_ret2
  have hs := Hs.out
  have hc := Hc.out
  have hlt : ∀ k, Lt w.heap.size k → k < w.heap.size := fun _ h => h
  have hsz := hc.size
  have hcc := (((Chg.refl No w1).alloc (.cells #[.int .i64 0] 3)).alloc (.cells #[.slice (some a) n c, .slice none 0 0, .slice (some ⟨w1.heap.size, 0, none⟩) 1 1] 122))
  refine ⟨_, rfl, hc.trans hcc, .slice (some a) n c, .slice none 0 0, .slice (some ⟨w1.heap.size, 0, none⟩) 1 1, { obj := ?_, hp := ?_, hhi := Nat.le_refl _, sl := ?_, rr := ?_, ra := ?_, ob := ?_ }⟩
  · have := alloc_obj (w1.alloc (.cells #[.int .i64 0] 3)) (.cells #[.slice (some a) n c, .slice none 0 0, .slice (some ⟨w1.heap.size, 0, none⟩) 1 1] 122)
    rw [World.size_alloc] at this
    exact this
  · simp; omega
  · have e : (newF n).last = List.replicate n (0 : Int) := by simp [newF]
    rw [e]
    refine (hs.weak (fun b hb h => ?_)).keepNo hcc
    simp only [World.size_alloc, OB, Value.ownBlock] at h
    simp only [Lt]
    rcases h with h | h | h | h | h
    · exact h
    · omega
    · omega
    · cases h
    · simp only [Option.some.injEq] at h; omega
  · exact .inl ⟨Own.nil _ _ _ _, fun k h => by simp [OB, Value.ownBlock] at h⟩
  · refine .inr ⟨?_, _, _, rfl⟩
    refine ((Sl.lit1 (y := (0 : Int)) rfl rfl (F := fun k => k < w.heap.size ∨ w1.heap.size + 1 ≤ k) (by omega)).keepNo ((Chg.refl No _).alloc _)).weak (fun b hb h => ?_)
    simp only [World.size_alloc, OB, Value.ownBlock] at h
    rcases h with h | h | h | h
    · exact .inl h
    · exact .inr (by omega)
    · exact .inr (by omega)
    · cases h
  · intro k hk
    simp only [World.size_alloc, OB, Value.ownBlock] at hk ⊢
    rcases hk with hk | hk
    · cases hk
    · simp only [Option.some.injEq] at hk; omega
theorem brings_any (p : Nat) (A : Option Addr) (n c : Nat) (w : World) : Calls Try.prog 65 #[.pointer (some ⟨p, 0, none⟩), .slice A n c] w fun e w' =>
    e = .returned (.func (.func 95) #[] #[.pointer (some ⟨w.heap.size, 0, none⟩), .pointer (some ⟨w.heap.size + 1, 0, none⟩)]) ∧ w' = (w.alloc (.cells #[.pointer (some ⟨p, 0, none⟩)] 25)).alloc (.cells #[.slice A n c] 46) := by
  go_enter Try.func65, Try.ntmps65
  go_wp2_with (first | (with_reducible refine stop_append ?_) | (with_reducible refine stop_copy ?_) | (with_reducible refine stop_make ?_) | (with_reducible refine stop_lookup ?_) | (with_reducible refine stop_update ?_) | (with_reducible refine stop_slice ?_) | (with_reducible refine stop_range ?_) | (with_reducible refine stop_next ?_) | (with_reducible refine stop_convert ⟨_, rfl⟩ ?_) | (with_reducible refine stop_convertB ⟨_, _, _, rfl⟩ ?_) | (with_reducible refine stop_eqSlice ⟨_, _, rfl⟩ ?_))
  go_ret
  exact ⟨rfl, rfl⟩
def encR (x : Rn) : Array Value := #[.agg #[.int .i64 x.1, .int .i64 x.2.1.1, .int .i64 x.2.1.2, .int .i64 x.2.2]]
/-- What the iterator reads between two rounds. -/
structure BrQ (B p q2 q3 : Nat) (lv vv : Value) (last v : List Int) (W : World) : Prop where
  c2 : W.cell? ⟨q2, 0, none⟩ = some (.pointer (some ⟨p, 0, none⟩))
  c3 : W.cell? ⟨q3, 0, none⟩ = some vv
  cp : W.cell? ⟨p, 0, none⟩ = some lv
  sl : Sl (Ge B) W lv last
  sv : Sl (Ge B) W vv v
  sz : B ≤ W.heap.size
theorem BrQ.keepNo {B p q2 q3 : Nat} {lv vv : Value} {last v : List Int} {W W' : World} (h : BrQ B p q2 q3 lv vv last v W) (hc : Chg No W W') : BrQ B p q2 q3 lv vv last v W' :=
  ⟨hc.cell h.c2 (not_no _), hc.cell h.c3 (not_no _), hc.cell h.cp (not_no _), h.sl.keepNo hc, h.sv.keepNo hc, Nat.le_trans h.sz hc.size⟩
theorem abides_no {β : Type} {B : Nat} {J : β → World → Prop} (h : AbidesFrom B J) {s : β} {W W' : World} (hc : Chg No W W') (hj : J s W) : J s W' :=
  h s W W' none hj ⟨hc.os, hc.tape, hc.output, hc.size, fun k hk _ => hc.block k hk (not_no k)⟩ (fun r e => by cases e)
set_option maxRecDepth 100000 in
set_option maxHeartbeats 2000000 in
theorem brings1_in (B p q2 q3 : Nat) (lv vv : Value) (last v : List Int) (hg : Geq v last) (h8 : v.length ≤ 8) (hl : ∀ x ∈ last, 0 ≤ x) (hv : ∀ x ∈ v, x ≤ 1099511627776) (pos : Int) (hpos : 0 ≤ pos ∧ pos ≤ 1000000)
    (l : Nat) (J Jx : List Rn → World → Prop)
    (hY : ∀ pre x W1, J pre W1 → pre.length < (bringsF pos 0 last v).length → YieldAt Fence.wide 7 Try.prog l (encR x) W1 fun e W' =>
      (e = .returned (.bool true) ∧ J (pre ++ [x]) W' ∧ (BrQ B p q2 q3 lv vv last v W1 → BrQ B p q2 q3 lv vv last v W')) ∨ (e = .returned (.bool false) ∧ Jx (pre ++ [x]) W'))
    (W : World) (hJ : AbidesFrom W.heap.size J) (hlen : Calls Try.prog 20 #[.pointer (some ⟨p, 0, none⟩)] W fun e w' => e = .returned (.int .i64 pos) ∧ Chg No W w') (hq : BrQ B p q2 q3 lv vv last v W) (h0 : J [] W) :
    CallsIn Fence.wide 8 Try.prog 95 #[.func (.yield l) #[] #[], .pointer (some ⟨q2, 0, none⟩), .pointer (some ⟨q3, 0, none⟩)] W fun e W' => (∃ x, e = .returned x) ∧
      ((∃ ys, ys = bringsF pos 0 last v ∧ J ys W') ∨ (∃ pre, True ∧ Jx pre W')) := by
  refine callsIn_of_wp Try.func95 rfl trivial ?_ rfl
  simp only [Try.ntmps95, List.size_toArray, List.length_cons, List.length_nil, Nat.reduceAdd, Nat.reduceSub, Array.replicate_succ, Array.replicate_zero, List.push_toArray, List.append_toArray, List.nil_append, List.cons_append]
  obtain ⟨Av, cv, rfl⟩ := hq.sv.slice
  obtain ⟨Al, cl, rfl⟩ := hq.sl.slice
  have c2 := hq.c2
  have c3 := hq.c3
  gi_wp2
  refine ⟨trivial, (callsIn_wide.2 hlen).mono ?_⟩
  rintro e w1 ⟨rfl, hc1⟩
  have HJ := Lib.hid (fun (pre : List Rn) (W1 W2 : World) (h : Chg No W1 W2) (hj : J pre W1) => abides_no hJ h hj)
  have hq1 := hq.keepNo hc1
  have c3 := hq1.c3
  have hj1 := HJ.out _ _ _ hc1 h0
  have Hq1 := Lib.hid hq1
  have HY := Lib.hid hY
  have Hc1 := Lib.hid hc1
  clear c2 hq hlen h0 hY hq1 hc1 hJ
  gi_wp2
  gi_loopw [4, 5, 6, 7, 12] (fun v4 _ _ _ v12 wr => ∃ (k : Nat) (ps : Int) (pre : List Rn), k ≤ v.length ∧ v12 = .int .i64 k ∧ v4 = .int .i64 ps ∧ 0 ≤ ps ∧ ps ≤ 1000000 + 1099511627776 * k ∧ J pre wr ∧ BrQ B p q2 q3 (.slice Al last.length cl) (.slice Av v.length cv) last v wr ∧ bringsF pos 0 last v = pre ++ bringsF ps k (last.drop k) (v.drop k)) (fun _ _ _ _ v12 _ => v.length - (intOf v12).toNat)
  case atStart => exact ⟨0, pos, [], by omega, rfl, rfl, hpos.1, by omega, hj1, Hq1.out, by simp⟩
  case round =>
    clear c3 hj1 Hq1
    obtain ⟨k, ps, pre, hk, rfl, rfl, hp0, hp1, hj, hq, hb⟩ := hrel
    have Hb := Lib.hid hb
    have Hq := Lib.hid hq
    have Hj := Lib.hid hj
    clear hb hj
    by_cases hlt : k < v.length
    · have hlt2 : k < last.length := by have := hg.len; omega
      have hxy := (geq_iff.1 hg).2 k hlt hlt2
      have hy0 := hl _ (List.getElem_mem hlt2)
      have hx1 := hv _ (List.getElem_mem hlt)
      obtain ⟨b, o, d, rfl, _, hbl, rfl, ha⟩ := hq.sv.get k hlt
      obtain ⟨b', o', d', rfl, _, hbl', rfl, ha'⟩ := hq.sl.get k hlt2
      have ha0 := ha 0 _ rfl
      have hb0 := ha' 0 _ rfl
      simp only [show Rep.n Int = 1 from rfl, Nat.mul_one, Nat.add_zero] at ha0 hb0
      have hbr : bringsF ps k (last.drop k) (v.drop k) = (if 0 < v[k] - last[k] then [(ps, ((k : Int), last[k]), v[k] - last[k])] else []) ++ bringsF (ps + (v[k] - last[k])) ((k + 1 : Nat) : Int) (last.drop (k + 1)) (v.drop (k + 1)) := by
        rw [List.drop_eq_getElem_cons hlt, List.drop_eq_getElem_cons hlt2]
        simp [bringsF]
      have c2 := hq.c2
      have cp := hq.cp
      have Hbr := Lib.hid hbr
      clear ha ha' hbr hq
      generalize v[k] = x at ha0 hxy hx1 Hbr
      generalize last[k] = y at hb0 hxy hy0 Hbr
      have hmm : (k : Int) < last.length := by omega
      have hm1 : IntKind.i64.wrap (x - y) = x - y := IntWalk.i64_in _ (by omega)
      have hm2 : IntKind.i64.wrap (ps + (x - y)) = ps + (x - y) := IntWalk.i64_in _ (by omega)
      gi_wp2
      refine rti_start (fun W => W.cell? ⟨q2, 0, none⟩ = some (.pointer (some ⟨p, 0, none⟩)) ∧ W.cell? ⟨p, 0, none⟩ = some (.slice (some ⟨b', o', none⟩) last.length cl) ∧ W.cell? ⟨b', o' + k, none⟩ = some (.int .i64 y)) (r := none) (by kernel_rfl) (by kernel_rfl) ?_
      ((refine rt_yes (i := 0) (oi := { dst := some 17, op := Go.Op.move (Go.Operand.tmp 4), type := 3, pos := "order.go:72", after := #[], guard := none }) (v := ?_) rfl (by kernel_rfl) (by kernel_rfl) (by kernel_rfl) (fun _ _ _ h => h) rfl ?_ ?_); rotate_left; focus (intro W hW; (try dsimp only at hW); go_split_ands; go_simp; (try (simp (disch := omega) only [IntWalk.i64_in]; (try go_simp))); (try (split; (next => omega); (try go_simp))); try rfl; done))
      try simp only [Act.put, List.setIfInBounds_toArray, List.set_cons_zero, List.set_cons_succ]
      ((refine rt_yes (i := 1) (oi := { dst := some 18, op := Go.Op.move (Go.Operand.tmp 5), type := 3, pos := "order.go:72", after := #[], guard := none }) (v := ?_) rfl (by kernel_rfl) (by kernel_rfl) (by kernel_rfl) (fun _ _ _ h => h) rfl ?_ ?_); rotate_left; focus (intro W hW; (try dsimp only at hW); go_split_ands; go_simp; (try (simp (disch := omega) only [IntWalk.i64_in]; (try go_simp))); (try (split; (next => omega); (try go_simp))); try rfl; done))
      try simp only [Act.put, List.setIfInBounds_toArray, List.set_cons_zero, List.set_cons_succ]
      ((refine rt_yes (i := 2) (oi := { dst := some 19, op := Go.Op.load 25 (Go.Operand.tmp 1), type := 25, pos := "order.go:72", after := #[], guard := none }) (v := ?_) rfl (by kernel_rfl) (by kernel_rfl) (by kernel_rfl) (fun _ _ _ h => h) rfl ?_ ?_); rotate_left; focus (intro W hW; (try dsimp only at hW); go_split_ands; go_simp; (try (simp (disch := omega) only [IntWalk.i64_in]; (try go_simp))); (try (split; (next => omega); (try go_simp))); try rfl; done))
      try simp only [Act.put, List.setIfInBounds_toArray, List.set_cons_zero, List.set_cons_succ]
      ((refine rt_yes (i := 3) (oi := { dst := some 20, op := Go.Op.nilCheck (Go.Operand.tmp 19), type := 0, pos := "order.go:72", after := #[{ on := 2, ground := Go.Ground.data }], guard := none }) (v := ?_) rfl (by kernel_rfl) (by kernel_rfl) (by kernel_rfl) (fun _ _ _ h => h) rfl ?_ ?_); rotate_left; focus (intro W hW; (try dsimp only at hW); go_split_ands; go_simp; (try (simp (disch := omega) only [IntWalk.i64_in]; (try go_simp))); (try (split; (next => omega); (try go_simp))); try rfl; done))
      try simp only [Act.put, List.setIfInBounds_toArray, List.set_cons_zero, List.set_cons_succ]
      ((refine rt_yes (i := 4) (oi := { dst := some 21, op := Go.Op.fieldAddr 122 (Go.Operand.tmp 20) 0, type := 0, pos := "order.go:72", after := #[{ on := 3, ground := Go.Ground.data }], guard := none }) (v := ?_) rfl (by kernel_rfl) (by kernel_rfl) (by kernel_rfl) (fun _ _ _ h => h) rfl ?_ ?_); rotate_left; focus (intro W hW; (try dsimp only at hW); go_split_ands; go_simp; (try (simp (disch := omega) only [IntWalk.i64_in]; (try go_simp))); (try (split; (next => omega); (try go_simp))); try rfl; done))
      try simp only [Act.put, List.setIfInBounds_toArray, List.set_cons_zero, List.set_cons_succ]
      ((refine rt_yes (i := 5) (oi := { dst := some 22, op := Go.Op.load 46 (Go.Operand.tmp 21), type := 46, pos := "order.go:72", after := #[{ on := 4, ground := Go.Ground.data }], guard := none }) (v := ?_) rfl (by kernel_rfl) (by kernel_rfl) (by kernel_rfl) (fun _ _ _ h => h) rfl ?_ ?_); rotate_left; focus (intro W hW; (try dsimp only at hW); go_split_ands; go_simp; (try (simp (disch := omega) only [IntWalk.i64_in]; (try go_simp))); (try (split; (next => omega); (try go_simp))); try rfl; done))
      try simp only [Act.put, List.setIfInBounds_toArray, List.set_cons_zero, List.set_cons_succ]
      ((refine rt_yes (i := 6) (oi := { dst := some 23, op := Go.Op.move (Go.Operand.tmp 5), type := 3, pos := "order.go:72", after := #[], guard := none }) (v := ?_) rfl (by kernel_rfl) (by kernel_rfl) (by kernel_rfl) (fun _ _ _ h => h) rfl ?_ ?_); rotate_left; focus (intro W hW; (try dsimp only at hW); go_split_ands; go_simp; (try (simp (disch := omega) only [IntWalk.i64_in]; (try go_simp))); (try (split; (next => omega); (try go_simp))); try rfl; done))
      try simp only [Act.put, List.setIfInBounds_toArray, List.set_cons_zero, List.set_cons_succ]
      ((refine rt_yes (i := 7) (oi := { dst := some 24, op := Go.Op.indexAddr 46 (Go.Operand.tmp 22) (Go.Operand.tmp 23), type := 0, pos := "order.go:72", after := #[{ on := 5, ground := Go.Ground.data }, { on := 6, ground := Go.Ground.data }], guard := none }) (v := ?_) rfl (by kernel_rfl) (by kernel_rfl) (by kernel_rfl) (fun _ _ _ h => h) rfl ?_ ?_); rotate_left; focus (intro W hW; (try dsimp only at hW); go_split_ands; go_simp; (try (simp (disch := omega) only [IntWalk.i64_in]; (try go_simp))); (try (split; (next => omega); (try go_simp))); try rfl; done))
      try simp only [Act.put, List.setIfInBounds_toArray, List.set_cons_zero, List.set_cons_succ]
      ((refine rt_yes (i := 8) (oi := { dst := some 25, op := Go.Op.load 3 (Go.Operand.tmp 24), type := 3, pos := "order.go:72", after := #[{ on := 7, ground := Go.Ground.data }], guard := none }) (v := ?_) rfl (by kernel_rfl) (by kernel_rfl) (by kernel_rfl) (fun _ _ _ h => h) rfl ?_ ?_); rotate_left; focus (intro W hW; (try dsimp only at hW); go_split_ands; go_simp; (try (simp (disch := omega) only [IntWalk.i64_in]; (try go_simp))); (try (split; (next => omega); (try go_simp))); try rfl; done))
      try simp only [Act.put, List.setIfInBounds_toArray, List.set_cons_zero, List.set_cons_succ]
      ((refine rt_yes (i := 9) (oi := { dst := some 26, op := Go.Op.build 36 #[(0, Go.Operand.tmp 18), (1, Go.Operand.tmp 25)], type := 36, pos := "order.go:72", after := #[{ on := 1, ground := Go.Ground.data }, { on := 8, ground := Go.Ground.data }], guard := none }) (v := ?_) rfl (by kernel_rfl) (by kernel_rfl) (by kernel_rfl) (fun _ _ _ h => h) rfl ?_ ?_); rotate_left; focus (intro W hW; (try dsimp only at hW); go_split_ands; go_simp; (try (simp (disch := omega) only [IntWalk.i64_in]; (try go_simp))); (try (split; (next => omega); (try go_simp))); try rfl; done))
      try simp only [Act.put, List.setIfInBounds_toArray, List.set_cons_zero, List.set_cons_succ]
      ((refine rt_yes (i := 10) (oi := { dst := some 27, op := Go.Op.move (Go.Operand.tmp 6), type := 3, pos := "order.go:72", after := #[], guard := none }) (v := ?_) rfl (by kernel_rfl) (by kernel_rfl) (by kernel_rfl) (fun _ _ _ h => h) rfl ?_ ?_); rotate_left; focus (intro W hW; (try dsimp only at hW); go_split_ands; go_simp; (try (simp (disch := omega) only [IntWalk.i64_in]; (try go_simp))); (try (split; (next => omega); (try go_simp))); try rfl; done))
      try simp only [Act.put, List.setIfInBounds_toArray, List.set_cons_zero, List.set_cons_succ]
      ((refine rt_yes (i := 11) (oi := { dst := some 28, op := Go.Op.load 25 (Go.Operand.tmp 1), type := 25, pos := "order.go:72", after := #[], guard := none }) (v := ?_) rfl (by kernel_rfl) (by kernel_rfl) (by kernel_rfl) (fun _ _ _ h => h) rfl ?_ ?_); rotate_left; focus (intro W hW; (try dsimp only at hW); go_split_ands; go_simp; (try (simp (disch := omega) only [IntWalk.i64_in]; (try go_simp))); (try (split; (next => omega); (try go_simp))); try rfl; done))
      try simp only [Act.put, List.setIfInBounds_toArray, List.set_cons_zero, List.set_cons_succ]
      ((refine rt_yes (i := 12) (oi := { dst := some 29, op := Go.Op.nilCheck (Go.Operand.tmp 28), type := 0, pos := "order.go:72", after := #[{ on := 11, ground := Go.Ground.data }], guard := none }) (v := ?_) rfl (by kernel_rfl) (by kernel_rfl) (by kernel_rfl) (fun _ _ _ h => h) rfl ?_ ?_); rotate_left; focus (intro W hW; (try dsimp only at hW); go_split_ands; go_simp; (try (simp (disch := omega) only [IntWalk.i64_in]; (try go_simp))); (try (split; (next => omega); (try go_simp))); try rfl; done))
      try simp only [Act.put, List.setIfInBounds_toArray, List.set_cons_zero, List.set_cons_succ]
      ((refine rt_yes (i := 13) (oi := { dst := some 30, op := Go.Op.fieldAddr 122 (Go.Operand.tmp 29) 0, type := 0, pos := "order.go:72", after := #[{ on := 12, ground := Go.Ground.data }], guard := none }) (v := ?_) rfl (by kernel_rfl) (by kernel_rfl) (by kernel_rfl) (fun _ _ _ h => h) rfl ?_ ?_); rotate_left; focus (intro W hW; (try dsimp only at hW); go_split_ands; go_simp; (try (simp (disch := omega) only [IntWalk.i64_in]; (try go_simp))); (try (split; (next => omega); (try go_simp))); try rfl; done))
      try simp only [Act.put, List.setIfInBounds_toArray, List.set_cons_zero, List.set_cons_succ]
      ((refine rt_yes (i := 14) (oi := { dst := some 31, op := Go.Op.load 46 (Go.Operand.tmp 30), type := 46, pos := "order.go:72", after := #[{ on := 13, ground := Go.Ground.data }], guard := none }) (v := ?_) rfl (by kernel_rfl) (by kernel_rfl) (by kernel_rfl) (fun _ _ _ h => h) rfl ?_ ?_); rotate_left; focus (intro W hW; (try dsimp only at hW); go_split_ands; go_simp; (try (simp (disch := omega) only [IntWalk.i64_in]; (try go_simp))); (try (split; (next => omega); (try go_simp))); try rfl; done))
      try simp only [Act.put, List.setIfInBounds_toArray, List.set_cons_zero, List.set_cons_succ]
      ((refine rt_yes (i := 15) (oi := { dst := some 32, op := Go.Op.move (Go.Operand.tmp 5), type := 3, pos := "order.go:72", after := #[], guard := none }) (v := ?_) rfl (by kernel_rfl) (by kernel_rfl) (by kernel_rfl) (fun _ _ _ h => h) rfl ?_ ?_); rotate_left; focus (intro W hW; (try dsimp only at hW); go_split_ands; go_simp; (try (simp (disch := omega) only [IntWalk.i64_in]; (try go_simp))); (try (split; (next => omega); (try go_simp))); try rfl; done))
      try simp only [Act.put, List.setIfInBounds_toArray, List.set_cons_zero, List.set_cons_succ]
      ((refine rt_yes (i := 16) (oi := { dst := some 33, op := Go.Op.indexAddr 46 (Go.Operand.tmp 31) (Go.Operand.tmp 32), type := 0, pos := "order.go:72", after := #[{ on := 14, ground := Go.Ground.data }, { on := 15, ground := Go.Ground.data }], guard := none }) (v := ?_) rfl (by kernel_rfl) (by kernel_rfl) (by kernel_rfl) (fun _ _ _ h => h) rfl ?_ ?_); rotate_left; focus (intro W hW; (try dsimp only at hW); go_split_ands; go_simp; (try (simp (disch := omega) only [IntWalk.i64_in]; (try go_simp))); (try (split; (next => omega); (try go_simp))); try rfl; done))
      try simp only [Act.put, List.setIfInBounds_toArray, List.set_cons_zero, List.set_cons_succ]
      ((refine rt_yes (i := 17) (oi := { dst := some 34, op := Go.Op.load 3 (Go.Operand.tmp 33), type := 3, pos := "order.go:72", after := #[{ on := 16, ground := Go.Ground.data }], guard := none }) (v := ?_) rfl (by kernel_rfl) (by kernel_rfl) (by kernel_rfl) (fun _ _ _ h => h) rfl ?_ ?_); rotate_left; focus (intro W hW; (try dsimp only at hW); go_split_ands; go_simp; (try (simp (disch := omega) only [IntWalk.i64_in]; (try go_simp))); (try (split; (next => omega); (try go_simp))); try rfl; done))
      try simp only [Act.put, List.setIfInBounds_toArray, List.set_cons_zero, List.set_cons_succ]
      ((refine rt_yes (i := 18) (oi := { dst := some 35, op := Go.Op.binOp Go.BinOp.sub 3 (Go.Operand.tmp 27) (Go.Operand.tmp 34) 3, type := 3, pos := "order.go:72", after := #[{ on := 10, ground := Go.Ground.data }, { on := 17, ground := Go.Ground.data }], guard := none }) (v := ?_) rfl (by kernel_rfl) (by kernel_rfl) (by kernel_rfl) (fun _ _ _ h => h) rfl ?_ ?_); rotate_left; focus (intro W hW; (try dsimp only at hW); go_split_ands; go_simp; (try (simp (disch := omega) only [IntWalk.i64_in]; (try go_simp))); (try (split; (next => omega); (try go_simp))); try rfl; done))
      try simp only [Act.put, List.setIfInBounds_toArray, List.set_cons_zero, List.set_cons_succ]
      ((refine rt_yes (i := 19) (oi := { dst := some 36, op := Go.Op.build 124 #[(0, Go.Operand.tmp 17), (1, Go.Operand.tmp 26), (2, Go.Operand.tmp 35)], type := 124, pos := "order.go:72", after := #[{ on := 0, ground := Go.Ground.data }, { on := 9, ground := Go.Ground.data }, { on := 18, ground := Go.Ground.data }], guard := none }) (v := ?_) rfl (by kernel_rfl) (by kernel_rfl) (by kernel_rfl) (fun _ _ _ h => h) rfl ?_ ?_); rotate_left; focus (intro W hW; (try dsimp only at hW); go_split_ands; go_simp; (try (simp (disch := omega) only [IntWalk.i64_in]; (try go_simp))); (try (split; (next => omega); (try go_simp))); try rfl; done))
      try simp only [Act.put, List.setIfInBounds_toArray, List.set_cons_zero, List.set_cons_succ]
      -- ready: [20]
      have s0 : (fun W => W.cell? ⟨q2, 0, none⟩ = some (.pointer (some ⟨p, 0, none⟩)) ∧ W.cell? ⟨p, 0, none⟩ = some (.slice (some ⟨b', o', none⟩) last.length cl) ∧ W.cell? ⟨b', o' + k, none⟩ = some (.int .i64 y)) wr.drew := ⟨c2, cp, hb0⟩
      refine rt_k (fun W => W.cell? ⟨q2, 0, none⟩ = some (.pointer (some ⟨p, 0, none⟩)) ∧ W.cell? ⟨p, 0, none⟩ = some (.slice (some ⟨b', o', none⟩) last.length cl) ∧ W.cell? ⟨b', o' + k, none⟩ = some (.int .i64 y)) (i := 20) (oi := { dst := some 7, op := Go.Op.alloc 124, type := 0, pos := "order.go:72", after := #[], guard := none }) (by kernel_rfl) s0 (fun _ h => h) rfl (by rfl) (fun K hK => ?_)
      go_simp
      refine hK _ _ ?_
      clear hK K
      try simp only [Act.put, List.setIfInBounds_toArray, List.set_cons_zero, List.set_cons_succ]
      -- ready: [21]
      have ha1 := (Chg.refl No wr).drew.alloc (.cells #[.int .i64 0, .int .i64 0, .int .i64 0, .int .i64 0] 124)
      have s1 : (fun W => W.cell? ⟨q2, 0, none⟩ = some (.pointer (some ⟨p, 0, none⟩)) ∧ W.cell? ⟨p, 0, none⟩ = some (.slice (some ⟨b', o', none⟩) last.length cl) ∧ W.cell? ⟨b', o' + k, none⟩ = some (.int .i64 y)) (wr.drew.alloc (.cells #[.int .i64 0, .int .i64 0, .int .i64 0, .int .i64 0] 124)) := ⟨ha1.cell c2 (not_no _), ha1.cell cp (not_no _), ha1.cell hb0 (not_no _)⟩
      refine rt_k (fun W => W.cell? ⟨q2, 0, none⟩ = some (.pointer (some ⟨p, 0, none⟩)) ∧ W.cell? ⟨p, 0, none⟩ = some (.slice (some ⟨b', o', none⟩) last.length cl) ∧ W.cell? ⟨b', o' + k, none⟩ = some (.int .i64 y)) (i := 21) (oi := { dst := none, op := Go.Op.store 124 (Go.Operand.tmp 7) (Go.Operand.tmp 36), type := 0, pos := "order.go:72", after := #[{ on := 20, ground := Go.Ground.data }, { on := 19, ground := Go.Ground.data }, { on := 0, ground := Go.Ground.phase }, { on := 1, ground := Go.Ground.phase }, { on := 2, ground := Go.Ground.phase }, { on := 3, ground := Go.Ground.phase }, { on := 4, ground := Go.Ground.phase }, { on := 5, ground := Go.Ground.phase }, { on := 6, ground := Go.Ground.phase }, { on := 7, ground := Go.Ground.phase }, { on := 8, ground := Go.Ground.phase }, { on := 9, ground := Go.Ground.phase }, { on := 10, ground := Go.Ground.phase }, { on := 11, ground := Go.Ground.phase }, { on := 12, ground := Go.Ground.phase }, { on := 13, ground := Go.Ground.phase }, { on := 14, ground := Go.Ground.phase }, { on := 15, ground := Go.Ground.phase }, { on := 16, ground := Go.Ground.phase }, { on := 17, ground := Go.Ground.phase }, { on := 18, ground := Go.Ground.phase }, { on := 19, ground := Go.Ground.phase }, { on := 20, ground := Go.Ground.phase }], guard := none }) (by kernel_rfl) s1 (fun _ h => h) rfl (by rfl) (fun K hK => ?_)
      go_simp
      refine hK _ _ ?_
      clear hK K
      try simp only [Act.put, List.setIfInBounds_toArray, List.set_cons_zero, List.set_cons_succ]
      -- ready: []
      refine rt_done (by kernel_rfl)  ?_
      simp only [Only]
      have hc3 : Chg No wr (wr.alloc (.cells #[.int .i64 ps, .int .i64 k, .int .i64 y, .int .i64 (x - y)] 124)).drew := ((Chg.refl No wr).alloc _).drew
      have o7 : ((wr.alloc (.cells #[.int .i64 ps, .int .i64 k, .int .i64 y, .int .i64 (x - y)] 124)).drew).heap[wr.heap.size]? = some (.cells #[.int .i64 ps, .int .i64 k, .int .i64 y, .int .i64 (x - y)] 124 (0, 0)) := alloc_obj wr _
      generalize (wr.alloc (.cells #[.int .i64 ps, .int .i64 k, .int .i64 y, .int .i64 (x - y)] 124)).drew = w3 at hc3 o7 ⊢
      generalize wr.heap.size = q7 at *
      have e0 : w3.cell? ⟨q7, 0, none⟩ = some (.int .i64 ps) := cell_obj (i := 0) o7 rfl
      have e1 : w3.cell? ⟨q7, 1, none⟩ = some (.int .i64 k) := cell_obj (i := 1) o7 rfl
      have e2 : w3.cell? ⟨q7, 2, none⟩ = some (.int .i64 y) := cell_obj (i := 2) o7 rfl
      have e3 : w3.cell? ⟨q7, 3, none⟩ = some (.int .i64 (x - y)) := cell_obj (i := 3) o7 rfl
      have hj3 := HJ.out _ _ _ hc3 Hj.out
      have hq3 := Hq.out.keepNo hc3
      clear ha0 hb0 c2 cp o7 hbl hbl' ha1 s1 s0
      by_cases hpx : 0 < x - y
      · obtain ⟨fn, tmps, assign, body, hy, hR⟩ := HY.out pre (ps, ((k : Int), y), x - y) w3 hj3 (by
          rw [Hb.out, Hbr.out, if_pos hpx]; simp)
        dsimp only [encR] at hy
        have Hj3 := Lib.hid hj3
        have Hq3 := Lib.hid hq3
        have hfin := Lib.hid (show bringsF pos 0 last v = (pre ++ [(ps, ((k : Int), y), x - y)]) ++ bringsF (ps + (x - y)) ((k + 1 : Nat) : Int) (last.drop (k + 1)) (v.drop (k + 1)) by
          rw [Hb.out, Hbr.out, if_pos hpx, List.append_assoc])
        clear hj3 hq3 HY
        gi_wp2
        refine hR.mono ?_
        rintro e W3 (⟨rfl, hJ4, hk4⟩ | ⟨rfl, hJx⟩)
        · have hq4 := hk4 Hq3.out
          have Hq4 := Lib.hid hq4
          have HJ4 := Lib.hid hJ4
          clear hq4 hk4 hJ4
          gi_wp2
          go_roundw
          case rel => exact ⟨k + 1, _, _, by omega, by go_num, rfl, by omega, by push_cast; omega, HJ4.out, Hq4.out, hfin.out⟩
          case measure => simp [intOf]; omega
        · gi_wp2
          refine bodyPost_ret (results_none rfl _ _ _) rfl ?_
          exact ⟨⟨_, rfl⟩, .inr ⟨_, trivial, hJx⟩⟩
      · have hfin := Lib.hid (show bringsF pos 0 last v = pre ++ bringsF (ps + (x - y)) ((k + 1 : Nat) : Int) (last.drop (k + 1)) (v.drop (k + 1)) by
          rw [Hb.out, Hbr.out, if_neg hpx, List.nil_append])
        have Hj3 := Lib.hid hj3
        have Hq3 := Lib.hid hq3
        clear hj3 hq3 HY
        gi_wp2
        refine ⟨fun _ h => (by cases h), ?_⟩
        gi_wp2
        go_roundw
        case rel => exact ⟨k + 1, _, pre, by omega, by go_num, rfl, by omega, by push_cast; omega, Hj3.out, Hq3.out, hfin.out⟩
        case measure => simp [intOf]; omega
    · obtain rfl : k = v.length := by omega
      gi_wp2
      go_end0
      have hb := Hb.out
      rw [List.drop_length, show bringsF ps v.length (last.drop v.length) [] = [] by unfold bringsF; cases last.drop v.length <;> rfl, List.append_nil] at hb
      exact ⟨⟨_, rfl⟩, .inl ⟨_, rfl, by rw [hb]; exact Hj.out⟩⟩
end Go.Proofs.Ytbjpoamnglfjeaa
