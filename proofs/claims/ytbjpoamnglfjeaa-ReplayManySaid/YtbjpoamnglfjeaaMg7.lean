/- Texts OrdC, OrdD, OrdE, Map, TerA, TerB, RegA, RegF, RegG. -/
import Derived.Test.YtbjpoamnglfjeaaMg6
import Derived.OwnWalkIn
import Derived.TacticsInMore
import Derived.LoopNIn
import Derived.LoopIn
import Derived.Shelf.Abstract
import Derived.Shelf.RegionOpen
/- Walks of package order: New; the runs that a cut brings, told one by one. -/
set_option linter.unusedVariables false
set_option linter.unusedSimpArgs false
namespace Go.Proofs.Ytbjpoamnglfjeaa
open Go.RowKit Cb
attribute [local go_sem] Oper.semAt_some

set_option maxRecDepth 100000 in
set_option maxHeartbeats 1000000 in
theorem onew_yes (n : Nat) (w : World) (h1 : 1 ≤ n) (h8 : n ≤ 8) : Calls Try.prog 25 #[.int .i64 n] w fun e w' => ∃ p, e = .returned (.tuple #[.pointer (some ⟨p, 0, none⟩), .int .i64 0]) ∧ Chg No w w' ∧ Ord w' w.heap.size w'.heap.size p (newF n) := by
  have H := Lib.hid (vzero_yes n w h1 h8)
  go_enter Try.func25, Try.ntmps25
  go_wp2_with (with_reducible first | refine stop_append ?_ | refine stop_copy ?_ | refine stop_make ?_ | refine stop_lookup ?_ | refine stop_update ?_ | refine stop_slice ?_ | refine stop_range ?_ | refine stop_next ?_ | refine stop_convert ⟨_, rfl⟩ ?_ | refine stop_convertB ⟨_, _, _, rfl⟩ ?_ | refine stop_eqSlice ⟨_, _, rfl⟩ ?_)
  refine H.out.mono ?_
  rintro e w1 ⟨a, c, rfl, hc, hs⟩
  have heq := fun m => veq_nil_run Try.underlying46 (some a) m c
  have Hs := Lib.hid hs
  have Hc := Lib.hid hc
  clear hs hc
  go_wp2_with (with_reducible first | refine stop_append ?_ | refine stop_copy ?_ | refine stop_make ?_ | refine stop_lookup ?_ | refine stop_update ?_ | refine stop_slice ?_ | refine stop_range ?_ | refine stop_next ?_ | refine stop_convert ⟨_, rfl⟩ ?_ | refine stop_convertB ⟨_, _, _, rfl⟩ ?_)
  go_ret2
  have hs := Hs.out
  have hc := Hc.out
  have hlt : ∀ k, Lt w.heap.size k → k < w.heap.size := fun _ h => h
  have hsz := hc.size
  have hcc := (((Chg.refl No w1).alloc (.cells #[.int .i64 0] 3)).alloc (.cells #[.slice (some a) n c, .slice none 0 0, .slice (some ⟨w1.heap.size, 0, none⟩) 1 1] 122))
  refine ⟨_, rfl, hc.trans hcc, .slice (some a) n c, .slice none 0 0, .slice (some ⟨w1.heap.size, 0, none⟩) 1 1, { obj := ?_, hp := ?_, hhi := Nat.le_refl _, sl := ?_, rr := ?_, ra := ?_, ob := ?_ }⟩
  · have := alloc_obj (w1.alloc (.cells #[.int .i64 0] 3)) (.cells #[.slice (some a) n c, .slice none 0 0, .slice (some ⟨w1.heap.size, 0, none⟩) 1 1] 122)
    rw [World.size_alloc] at this
    exact this
  · simp; omega
  · have e : (newF n).last = List.replicate n (0 : Int) := by simp [newF]
    rw [e]
    refine (hs.weak (fun b hb h => ?_)).keepNo hcc
    simp only [World.size_alloc, OB, Value.ownBlock] at h
    simp only [Lt]
    rcases h with h | h | h | h | h
    · exact h
    · omega
    · omega
    · cases h
    · simp only [Option.some.injEq] at h; omega
  · exact .inl ⟨Own.nil _ _ _ _, fun k h => by simp [OB, Value.ownBlock] at h⟩
  · refine .inr ⟨?_, _, _, rfl⟩
    refine ((Sl.lit1 (y := (0 : Int)) rfl rfl (F := fun k => k < w.heap.size ∨ w1.heap.size + 1 ≤ k) (by omega)).keepNo ((Chg.refl No _).alloc _)).weak (fun b hb h => ?_)
    simp only [World.size_alloc, OB, Value.ownBlock] at h
    rcases h with h | h | h | h
    · exact .inl h
    · exact .inr (by omega)
    · exact .inr (by omega)
    · cases h
  · intro k hk
    simp only [World.size_alloc, OB, Value.ownBlock] at hk ⊢
    rcases hk with hk | hk
    · cases hk
    · simp only [Option.some.injEq] at hk; omega
theorem brings_any (p : Nat) (A : Option Addr) (n c : Nat) (w : World) : Calls Try.prog 65 #[.pointer (some ⟨p, 0, none⟩), .slice A n c] w fun e w' =>
    e = .returned (.func (.func 95) #[] #[.pointer (some ⟨w.heap.size, 0, none⟩), .pointer (some ⟨w.heap.size + 1, 0, none⟩)]) ∧ w' = (w.alloc (.cells #[.pointer (some ⟨p, 0, none⟩)] 25)).alloc (.cells #[.slice A n c] 46) := by
  go_enter Try.func65, Try.ntmps65
  go_wp2_with (with_reducible first | refine stop_append ?_ | refine stop_copy ?_ | refine stop_make ?_ | refine stop_lookup ?_ | refine stop_update ?_ | refine stop_slice ?_ | refine stop_range ?_ | refine stop_next ?_ | refine stop_convert ⟨_, rfl⟩ ?_ | refine stop_convertB ⟨_, _, _, rfl⟩ ?_ | refine stop_eqSlice ⟨_, _, rfl⟩ ?_)
  go_ret
  exact ⟨rfl, rfl⟩
def encR (x : Rn) : Array Value := #[.agg #[.int .i64 x.1, .int .i64 x.2.1.1, .int .i64 x.2.1.2, .int .i64 x.2.2]]
/-- What the iterator reads between two rounds. -/
structure BrQ (B p q2 q3 : Nat) (lv vv : Value) (last v : List Int) (W : World) : Prop where
  c2 : W.cell? ⟨q2, 0, none⟩ = some (.pointer (some ⟨p, 0, none⟩))
  c3 : W.cell? ⟨q3, 0, none⟩ = some vv
  cp : W.cell? ⟨p, 0, none⟩ = some lv
  sl : Sl (Ge B) W lv last
  sv : Sl (Ge B) W vv v
  sz : B ≤ W.heap.size
theorem BrQ.keepNo {B p q2 q3 : Nat} {lv vv : Value} {last v : List Int} {W W' : World} (h : BrQ B p q2 q3 lv vv last v W) (hc : Chg No W W') : BrQ B p q2 q3 lv vv last v W' :=
  ⟨hc.cell h.c2 (not_no _), hc.cell h.c3 (not_no _), hc.cell h.cp (not_no _), h.sl.keepNo hc, h.sv.keepNo hc, Nat.le_trans h.sz hc.size⟩
theorem abides_no {β : Type} {B : Nat} {J : β → World → Prop} (h : AbidesFrom B J) {s : β} {W W' : World} (hc : Chg No W W') (hj : J s W) : J s W' :=
  h s W W' none hj ⟨hc.os, hc.tape, hc.output, hc.size, fun k hk _ => hc.block k hk (not_no k)⟩ (fun r e => by cases e)
set_option maxRecDepth 100000 in
set_option maxHeartbeats 2000000 in
theorem brings1_in (B p q2 q3 : Nat) (lv vv : Value) (last v : List Int) (hg : Geq v last) (h8 : v.length ≤ 8) (hl : ∀ x ∈ last, 0 ≤ x) (hv : ∀ x ∈ v, x ≤ 1099511627776) (pos : Int) (hpos : 0 ≤ pos ∧ pos ≤ 1000000)
    (l : Nat) (J Jx : List Rn → World → Prop)
    (hY : ∀ pre x W1, J pre W1 → pre.length < (bringsF pos 0 last v).length → YieldAt Fence.wide 7 Try.prog l (encR x) W1 fun e W' =>
      (e = .returned (.bool true) ∧ J (pre ++ [x]) W' ∧ (BrQ B p q2 q3 lv vv last v W1 → BrQ B p q2 q3 lv vv last v W')) ∨ (e = .returned (.bool false) ∧ Jx (pre ++ [x]) W'))
    (W : World) (hJ : AbidesFrom W.heap.size J) (hlen : Calls Try.prog 20 #[.pointer (some ⟨p, 0, none⟩)] W fun e w' => e = .returned (.int .i64 pos) ∧ Chg No W w') (hq : BrQ B p q2 q3 lv vv last v W) (h0 : J [] W) :
    CallsIn Fence.wide 8 Try.prog 95 #[.func (.yield l) #[] #[], .pointer (some ⟨q2, 0, none⟩), .pointer (some ⟨q3, 0, none⟩)] W fun e W' => (∃ x, e = .returned x) ∧
      ((∃ ys, ys = bringsF pos 0 last v ∧ J ys W') ∨ (∃ pre, True ∧ Jx pre W')) := by
  refine callsIn_of_wp Try.func95 rfl trivial ?_ rfl
  simp only [Try.ntmps95, List.size_toArray, List.length_cons, List.length_nil, Nat.reduceAdd, Nat.reduceSub, Array.replicate_succ, Array.replicate_zero, List.push_toArray, List.append_toArray, List.nil_append, List.cons_append]
  obtain ⟨Av, cv, rfl⟩ := hq.sv.slice
  obtain ⟨Al, cl, rfl⟩ := hq.sl.slice
  have c2 := hq.c2
  have c3 := hq.c3
  gi_wp2
  refine ⟨trivial, (callsIn_wide.2 hlen).mono ?_⟩
  rintro e w1 ⟨rfl, hc1⟩
  have HJ := Lib.hid (fun (pre : List Rn) (W1 W2 : World) (h : Chg No W1 W2) (hj : J pre W1) => abides_no hJ h hj)
  have hq1 := hq.keepNo hc1
  have c3 := hq1.c3
  have hj1 := HJ.out _ _ _ hc1 h0
  have Hq1 := Lib.hid hq1
  have HY := Lib.hid hY
  have Hc1 := Lib.hid hc1
  clear c2 hq hlen h0 hY hq1 hc1 hJ
  gi_wp2
  gi_loopw [4, 5, 6, 7, 12] (fun v4 _ _ _ v12 wr => ∃ (k : Nat) (ps : Int) (pre : List Rn), k ≤ v.length ∧ v12 = .int .i64 k ∧ v4 = .int .i64 ps ∧ 0 ≤ ps ∧ ps ≤ 1000000 + 1099511627776 * k ∧ J pre wr ∧ BrQ B p q2 q3 (.slice Al last.length cl) (.slice Av v.length cv) last v wr ∧ bringsF pos 0 last v = pre ++ bringsF ps k (last.drop k) (v.drop k)) (fun _ _ _ _ v12 _ => v.length - (intOf v12).toNat)
  case atStart => exact ⟨0, pos, [], by omega, rfl, rfl, hpos.1, by omega, hj1, Hq1.out, by simp⟩
  case round =>
    clear c3 hj1 Hq1
    obtain ⟨k, ps, pre, hk, rfl, rfl, hp0, hp1, hj, hq, hb⟩ := hrel
    have Hb := Lib.hid hb
    have Hq := Lib.hid hq
    have Hj := Lib.hid hj
    clear hb hj
    by_cases hlt : k < v.length
    · have hlt2 : k < last.length := by have := hg.len; omega
      have hxy := (geq_iff.1 hg).2 k hlt hlt2
      have hy0 := hl _ (List.getElem_mem hlt2)
      have hx1 := hv _ (List.getElem_mem hlt)
      obtain ⟨b, o, d, rfl, _, hbl, rfl, ha⟩ := hq.sv.get k hlt
      obtain ⟨b', o', d', rfl, _, hbl', rfl, ha'⟩ := hq.sl.get k hlt2
      have ha0 := ha 0 _ rfl
      have hb0 := ha' 0 _ rfl
      simp only [show Rep.n Int = 1 from rfl, Nat.mul_one, Nat.add_zero] at ha0 hb0
      have hbr : bringsF ps k (last.drop k) (v.drop k) = (if 0 < v[k] - last[k] then [(ps, ((k : Int), last[k]), v[k] - last[k])] else []) ++ bringsF (ps + (v[k] - last[k])) ((k + 1 : Nat) : Int) (last.drop (k + 1)) (v.drop (k + 1)) := by
        rw [List.drop_eq_getElem_cons hlt, List.drop_eq_getElem_cons hlt2]
        simp [bringsF]
      have c2 := hq.c2
      have cp := hq.cp
      have Hbr := Lib.hid hbr
      clear ha ha' hbr hq
      generalize v[k] = x at ha0 hxy hx1 Hbr
      generalize last[k] = y at hb0 hxy hy0 Hbr
      have hmm : (k : Int) < last.length := by omega
      have hm1 : IntKind.i64.wrap (x - y) = x - y := IntWalk.i64_in _ (by omega)
      have hm2 : IntKind.i64.wrap (ps + (x - y)) = ps + (x - y) := IntWalk.i64_in _ (by omega)
      gi_wp2
      refine rti_start (fun W => W.cell? ⟨q2, 0, none⟩ = some (.pointer (some ⟨p, 0, none⟩)) ∧ W.cell? ⟨p, 0, none⟩ = some (.slice (some ⟨b', o', none⟩) last.length cl) ∧ W.cell? ⟨b', o' + k, none⟩ = some (.int .i64 y)) (r := none) (by kernel_rfl) (by kernel_rfl) ?_
      iterate 20 ((refine rt_nx [] (v := ?_) rfl (by kernel_rfl) (fun _ _ _ h => h) rfl ?_ ?_; rotate_left; focus (intro W hW; (try dsimp only at hW); go_split_ands; go_simp; (try (simp (disch := omega) only [IntWalk.i64_in]; (try go_simp))); (try (split; (next => omega); (try go_simp))); try rfl; done)); try simp only [Act.put, List.setIfInBounds_toArray, List.set_cons_zero, List.set_cons_succ, Nat.reduceAdd])
      have s0 : (fun W => W.cell? ⟨q2, 0, none⟩ = some (.pointer (some ⟨p, 0, none⟩)) ∧ W.cell? ⟨p, 0, none⟩ = some (.slice (some ⟨b', o', none⟩) last.length cl) ∧ W.cell? ⟨b', o' + k, none⟩ = some (.int .i64 y)) wr.drew := ⟨c2, cp, hb0⟩
      refine rt_kx (fun W => W.cell? ⟨q2, 0, none⟩ = some (.pointer (some ⟨p, 0, none⟩)) ∧ W.cell? ⟨p, 0, none⟩ = some (.slice (some ⟨b', o', none⟩) last.length cl) ∧ W.cell? ⟨b', o' + k, none⟩ = some (.int .i64 y)) 20 (by kernel_rfl) s0 (fun _ h => h) rfl (by rfl) (fun K hK => ?_)
      go_simp
      refine hK _ _ ?_
      clear hK K
      try simp only [Act.put, List.setIfInBounds_toArray, List.set_cons_zero, List.set_cons_succ]
      have ha1 := (Chg.refl No wr).drew.alloc (.cells #[.int .i64 0, .int .i64 0, .int .i64 0, .int .i64 0] 124)
      have s1 : (fun W => W.cell? ⟨q2, 0, none⟩ = some (.pointer (some ⟨p, 0, none⟩)) ∧ W.cell? ⟨p, 0, none⟩ = some (.slice (some ⟨b', o', none⟩) last.length cl) ∧ W.cell? ⟨b', o' + k, none⟩ = some (.int .i64 y)) (wr.drew.alloc (.cells #[.int .i64 0, .int .i64 0, .int .i64 0, .int .i64 0] 124)) := ⟨ha1.cell c2 (not_no _), ha1.cell cp (not_no _), ha1.cell hb0 (not_no _)⟩
      refine rt_kx (fun W => W.cell? ⟨q2, 0, none⟩ = some (.pointer (some ⟨p, 0, none⟩)) ∧ W.cell? ⟨p, 0, none⟩ = some (.slice (some ⟨b', o', none⟩) last.length cl) ∧ W.cell? ⟨b', o' + k, none⟩ = some (.int .i64 y)) 21 (by kernel_rfl) s1 (fun _ h => h) rfl (by rfl) (fun K hK => ?_)
      go_simp
      refine hK _ _ ?_
      clear hK K
      try simp only [Act.put, List.setIfInBounds_toArray, List.set_cons_zero, List.set_cons_succ]
      refine rt_done (by kernel_rfl)  ?_
      simp only [Only]
      have hc3 : Chg No wr (wr.alloc (.cells #[.int .i64 ps, .int .i64 k, .int .i64 y, .int .i64 (x - y)] 124)).drew := ((Chg.refl No wr).alloc _).drew
      have o7 : ((wr.alloc (.cells #[.int .i64 ps, .int .i64 k, .int .i64 y, .int .i64 (x - y)] 124)).drew).heap[wr.heap.size]? = some (.cells #[.int .i64 ps, .int .i64 k, .int .i64 y, .int .i64 (x - y)] 124 (0, 0)) := alloc_obj wr _
      generalize (wr.alloc (.cells #[.int .i64 ps, .int .i64 k, .int .i64 y, .int .i64 (x - y)] 124)).drew = w3 at hc3 o7 ⊢
      generalize wr.heap.size = q7 at *
      have e0 : w3.cell? ⟨q7, 0, none⟩ = some (.int .i64 ps) := cell_obj (i := 0) o7 rfl
      have e1 : w3.cell? ⟨q7, 1, none⟩ = some (.int .i64 k) := cell_obj (i := 1) o7 rfl
      have e2 : w3.cell? ⟨q7, 2, none⟩ = some (.int .i64 y) := cell_obj (i := 2) o7 rfl
      have e3 : w3.cell? ⟨q7, 3, none⟩ = some (.int .i64 (x - y)) := cell_obj (i := 3) o7 rfl
      have hj3 := HJ.out _ _ _ hc3 Hj.out
      have hq3 := Hq.out.keepNo hc3
      clear ha0 hb0 c2 cp o7 hbl hbl' ha1 s1 s0
      by_cases hpx : 0 < x - y
      · obtain ⟨fn, tmps, assign, body, hy, hR⟩ := HY.out pre (ps, ((k : Int), y), x - y) w3 hj3 (by
          rw [Hb.out, Hbr.out, if_pos hpx]; simp)
        dsimp only [encR] at hy
        have Hj3 := Lib.hid hj3
        have Hq3 := Lib.hid hq3
        have hfin := Lib.hid (show bringsF pos 0 last v = (pre ++ [(ps, ((k : Int), y), x - y)]) ++ bringsF (ps + (x - y)) ((k + 1 : Nat) : Int) (last.drop (k + 1)) (v.drop (k + 1)) by
          rw [Hb.out, Hbr.out, if_pos hpx, List.append_assoc])
        clear hj3 hq3 HY
        gi_wp2
        refine hR.mono ?_
        rintro e W3 (⟨rfl, hJ4, hk4⟩ | ⟨rfl, hJx⟩)
        · have hq4 := hk4 Hq3.out
          have Hq4 := Lib.hid hq4
          have HJ4 := Lib.hid hJ4
          clear hq4 hk4 hJ4
          gi_wp2
          go_roundw
          case rel => exact ⟨k + 1, _, _, by omega, by go_num, rfl, by omega, by push_cast; omega, HJ4.out, Hq4.out, hfin.out⟩
          case measure => simp [intOf]; omega
        · gi_wp2
          refine bodyPost_ret (results_none rfl _ _ _) rfl ?_
          exact ⟨⟨_, rfl⟩, .inr ⟨_, trivial, hJx⟩⟩
      · have hfin := Lib.hid (show bringsF pos 0 last v = pre ++ bringsF (ps + (x - y)) ((k + 1 : Nat) : Int) (last.drop (k + 1)) (v.drop (k + 1)) by
          rw [Hb.out, Hbr.out, if_neg hpx, List.nil_append])
        have Hj3 := Lib.hid hj3
        have Hq3 := Lib.hid hq3
        clear hj3 hq3 HY
        gi_wp2
        refine ⟨fun _ h => (by cases h), ?_⟩
        gi_wp2
        go_roundw
        case rel => exact ⟨k + 1, _, pre, by omega, by go_num, rfl, by omega, by push_cast; omega, Hj3.out, Hq3.out, hfin.out⟩
        case measure => simp [intOf]; omega
    · obtain rfl : k = v.length := by omega
      gi_wp2
      go_end0
      have hb := Hb.out
      rw [List.drop_length, show bringsF ps v.length (last.drop v.length) [] = [] by unfold bringsF; cases last.drop v.length <;> rfl, List.append_nil] at hb
      exact ⟨⟨_, rfl⟩, .inl ⟨_, rfl, by rw [hb]; exact Hj.out⟩⟩
end Go.Proofs.Ytbjpoamnglfjeaa


/- Walks of package order: Add. -/
set_option linter.unusedVariables false
set_option linter.unusedSimpArgs false
namespace Go.Proofs.Ytbjpoamnglfjeaa
open Go.RowKit Cb
attribute [local go_sem] Oper.semAt_some

theorem brings_stops {sh lo hi p q2 q3 : Nat} {st : OSt} {w : World} {lv vv : Value} {v : List Int} (h : Ord w lo hi p st) (hI : Inv sh st) (hg : Geq v st.last) (h8 : v.length ≤ 8) (hv : ∀ x ∈ v, x ≤ 1099511627776)
    (hq : BrQ w.heap.size p q2 q3 lv vv st.last v w) :
    SeqStopsK Fence.wide 8 Try.prog 95 #[.pointer (some ⟨q2, 0, none⟩), .pointer (some ⟨q3, 0, none⟩)] encR (fun A B => BrQ w.heap.size p q2 q3 lv vv st.last v A → BrQ w.heap.size p q2 q3 lv vv st.last v B) (fun ys => ys = bringsF st.len 0 st.last v) (fun _ => True) (bringsF st.len 0 st.last v).length w :=
  fun l J Jx W hW hJ _ hY h0 => by
    have hc := Chg.of_below hW
    have hlen := hI.olen
    have hb : 0 ≤ st.len ∧ st.len ≤ 1000000 := by rw [hlen]; exact ⟨(vright_sum hI.right).1, hI.tot⟩
    exact brings1_in w.heap.size p q2 q3 lv vv st.last v hg h8 (fun x hx => ((vright_iff.1 hI.right).2.2 x hx).1) hv st.len hb l J Jx hY W hJ (olen_any (h.keepNo hc) hI) (hq.keepNo hc) h0
theorem OrdV.keepNo' {w w' : World} {lo hi p : Nat} {lv rv av : Value} {st : OSt} (h : OrdV w lo hi p lv rv av st) (hc : Chg No w w') : OrdV w' lo hi p lv rv av st := h.keep hc (fun _ f => f.elim)
theorem Ord.top {w : World} {lo hi p : Nat} {st : OSt} (h : Ord w lo hi p st) : Ord w lo w.heap.size p st := by
  obtain ⟨lv, rv, av, h⟩ := h
  have hh := h.hhi
  exact ⟨lv, rv, av, { obj := h.obj, hp := ⟨h.hp.1, by have := h.hp.2; omega⟩, hhi := Nat.le_refl _, sl := h.sl.weak (fun b hb g => by
      rcases g with g | g | g
      · exact .inl g
      · omega
      · exact .inr (.inr g)), rr := h.rr.weak (fun b hb g => by
      rcases g with g | g | g
      · exact .inl g
      · omega
      · exact .inr (.inr g)), ra := h.ra.weak (fun b hb g => by
      rcases g with g | g | g
      · exact .inl g
      · omega
      · exact .inr (.inr g)), ob := fun k hk => Nat.lt_of_lt_of_le (h.ob k hk) hh }⟩
def In (lo hi : Nat) : Nat → Prop := fun k => lo ≤ k ∧ k < hi
def AddPost (r : OSt × Int) (lo hi p : Nat) (w : World) (x : Ending) (w' : World) : Prop :=
  x = .returned (.int .i64 r.2) ∧ Chg (In lo hi) w w' ∧ Ord w' lo w'.heap.size p r.1
/-- An order whose runs are being appended to: its other rows lie below B, the runs below h0 or from B on. -/
structure OrdL (W : World) (lo h0 B p : Nat) (lv rv av : Value) (st : OSt) : Prop where
  obj : W.heap[p]? = some (.cells #[lv, rv, av] 122 (0, 0))
  hp : lo ≤ p ∧ p < h0
  hB : h0 ≤ B ∧ B ≤ W.heap.size
  sl : Sl (fun k => k < lo ∨ B ≤ k ∨ k = p ∨ OB rv k ∨ OB av k) W lv st.last
  rr : (Cb.Own No W lo 124 rv st.runs ∧ ∀ k, OB rv k → k ≠ p ∧ ¬ OB av k) ∨ (Sl (fun k => k < lo ∨ B ≤ k ∨ k = p ∨ OB av k) W rv st.runs ∧ ∃ A n, rv = .slice A n n)
  ra : RowT (fun k => k < lo ∨ B ≤ k ∨ k = p ∨ OB rv k) W lo 3 av st.after
  rb : ∀ k, OB rv k → (k < h0 ∨ B ≤ k) ∧ k < W.heap.size
  ab : ∀ k, OB av k → k < h0
theorem OrdV.loop {w : World} {lo hi B p : Nat} {lv rv av : Value} {st : OSt} (h : OrdV w lo hi p lv rv av st) (hB : hi ≤ B) (hw : B ≤ w.heap.size) : OrdL w lo hi B p lv rv av st where
  obj := h.obj
  hp := h.hp
  hB := ⟨hB, hw⟩
  sl := h.sl.weak (fun b _ g => by rcases g with g | g | g; exact .inl g; exact .inr (.inl (by omega)); exact .inr (.inr g))
  rr := by
    rcases h.rr with ⟨h1, h2⟩ | ⟨h1, h2⟩
    · exact .inl ⟨h1, fun k hk => ⟨fun e => h2 k hk (.inr (.inr (.inl e))), fun e => h2 k hk (.inr (.inr (.inr e)))⟩⟩
    · exact .inr ⟨h1.weak (fun b _ g => by rcases g with g | g | g; exact .inl g; exact .inr (.inl (by omega)); exact .inr (.inr g)), h2⟩
  ra := h.ra.weak (fun b _ g => by rcases g with g | g | g; exact .inl g; exact .inr (.inl (by omega)); exact .inr (.inr g))
  rb := fun k hk => ⟨.inl (h.ob k (.inl hk)), by have := h.ob k (.inl hk); have := h.hhi; omega⟩
  ab := fun k hk => h.ob k (.inr hk)
theorem OrdL.ord {W : World} {lo h0 B p : Nat} {lv rv av : Value} {st : OSt} (h : OrdL W lo h0 B p lv rv av st) : OrdV W lo W.heap.size p lv rv av st where
  obj := h.obj
  hp := ⟨h.hp.1, by have := h.hp.2; have := h.hB; omega⟩
  hhi := Nat.le_refl _
  sl := h.sl.weak (fun b hb g => by rcases g with g | g | g; exact .inl g; omega; exact .inr (.inr g))
  rr := by
    rcases h.rr with ⟨h1, h2⟩ | ⟨h1, h2⟩
    · exact .inl ⟨h1, fun k hk g => by
        have := h1.lt k hk
        rcases g with g | g | g | g
        · omega
        · omega
        · exact (h2 k hk).1 g
        · exact (h2 k hk).2 g⟩
    · exact .inr ⟨h1.weak (fun b hb g => by rcases g with g | g | g; exact .inl g; omega; exact .inr (.inr g)), h2⟩
  ra := h.ra.weak (fun b hb g => by rcases g with g | g | g; exact .inl g; omega; exact .inr (.inr g))
  ob := fun k hk => by
    rcases hk with hk | hk
    · exact (h.rb k hk).2
    · have := h.ab k hk; have := h.hB; omega
theorem OrdL.row {W : World} {lo h0 B p : Nat} {lv rv av : Value} {st : OSt} (h : OrdL W lo h0 B p lv rv av st) : RowT (fun k => k < lo ∨ W.heap.size ≤ k ∨ k = p ∨ OB av k) W lo 124 rv st.runs := h.ord.rr
theorem OrdL.turn {W W' : World} {lo h0 B p : Nat} {lv rv av : Value} {st : OSt} {row : Option Nat} (h : OrdL W lo h0 B p lv rv av st) (hg : W.grownBy W' row) (hr : ∀ r, row = some r → B ≤ r ∧ ∃ o : Obj, W.heap[r]? = some o ∧ o.isCells = false) : OrdL W' lo h0 B p lv rv av st := by
  have hc : Chg (fun k => B ≤ k ∧ row = some k) W W' := (Chg.refl _ W).grown hg (fun k e => .inl ⟨(hr k e).1, e⟩)
  exact { obj := turn_obj h.obj hg (fun r e => (hr r e).2), hp := h.hp, hB := ⟨h.hB.1, Nat.le_trans h.hB.2 hg.size⟩,
          sl := h.sl.keep (hc.weak (fun k _ g => .inr (.inl g.1))),
          rr := by
            rcases h.rr with ⟨h1, h2⟩ | ⟨h1, h2⟩
            · refine .inl ⟨h1.keepFlat hc (fun k hk g => ?_), h2⟩
              obtain ⟨C, T, fz, hcell⟩ := h1.cells k hk
              obtain ⟨o, ho, hoc⟩ := (hr k g.2).2
              rw [hcell] at ho
              cases ho
              simp [Obj.isCells] at hoc
            · exact .inr ⟨h1.keep (hc.weak (fun k _ g => .inr (.inl g.1))), h2⟩
          ra := h.ra.keep hc (fun k _ g => .inr (.inl g.1)), rb := fun k hk => ⟨(h.rb k hk).1, Nat.lt_of_lt_of_le (h.rb k hk).2 hg.size⟩, ab := h.ab }
theorem OrdL.keepNo {W W' : World} {lo h0 B p : Nat} {lv rv av : Value} {st : OSt} (h : OrdL W lo h0 B p lv rv av st) (hc : Chg No W W') : OrdL W' lo h0 B p lv rv av st where
  obj := hc.obj h.obj (not_no _)
  hp := h.hp
  hB := ⟨h.hB.1, Nat.le_trans h.hB.2 hc.size⟩
  sl := h.sl.keepNo hc
  rr := by
    rcases h.rr with ⟨h1, h2⟩ | ⟨h1, h2⟩
    · exact .inl ⟨h1.keepFlat hc (fun _ _ f => f), h2⟩
    · exact .inr ⟨h1.keepNo hc, h2⟩
  ra := h.ra.keepNo hc
  rb := fun k hk => ⟨(h.rb k hk).1, Nat.lt_of_lt_of_le (h.rb k hk).2 hc.size⟩
  ab := h.ab
theorem OrdL.app {W W5 : World} {lo h0 B p : Nat} {lv rv v' av : Value} {st : OSt} {x : Rn} (h : OrdL W lo h0 B p lv rv av st) (hown : Cb.Own No W5 lo 124 v' (st.runs ++ [x]))
    (hc : Chg (fun k => OB rv k ∧ ¬ (k < lo ∨ W.heap.size ≤ k ∨ k = p ∨ OB av k) ∧ IsC W k) W W5) (hb : ∀ k, OB v' k → (OB rv k ∧ ¬ (k < lo ∨ W.heap.size ≤ k ∨ k = p ∨ OB av k)) ∨ W.heap.size ≤ k) :
    OrdL (W5.setCell ⟨p, 1, none⟩ v') lo h0 B p lv v' av ⟨st.last, st.runs ++ [x], st.after⟩ ∧ Chg (fun k => (OB rv k ∧ ¬ (k < lo ∨ W.heap.size ≤ k ∨ k = p ∨ OB av k) ∧ IsC W k) ∨ k = p) W (W5.setCell ⟨p, 1, none⟩ v') := by
  have hs := chg_set (w := W5) (b := p) (i := 1) v'
  have hpW := lt_of_heap h.obj
  have hBW := h.hB
  have hcc : Chg (fun k => (OB rv k ∧ ¬ (k < lo ∨ W.heap.size ≤ k ∨ k = p ∨ OB av k) ∧ IsC W k) ∨ k = p) W (W5.setCell ⟨p, 1, none⟩ v') := hc.trans' hs (fun k _ g => .inl g) (fun k _ g => .inr g)
  have hown' : Cb.Own No (W5.setCell ⟨p, 1, none⟩ v') lo 124 v' (st.runs ++ [x]) := hown.keepFlat hs (fun k hk g => by
    simp only [At] at g
    rcases hb k hk with f | f
    · exact f.2 (.inr (.inr (.inl g)))
    · omega)
  refine ⟨{ obj := obj_set (hc.obj h.obj (fun g => g.2.1 (.inr (.inr (.inl rfl))))) rfl, hp := h.hp, hB := ⟨h.hB.1, Nat.le_trans h.hB.2 hcc.size⟩, sl := ?_, rr := .inl ⟨hown', ?_⟩, ra := ?_, rb := ?_, ab := h.ab }, hcc⟩
  · refine (h.sl.keep (hcc.weak (fun k _ g => ?_))).weak (fun k _ g => ?_)
    · rcases g with g | g
      · exact .inr (.inr (.inr (.inl g.1)))
      · exact .inr (.inr (.inl g))
    · rcases g with g | g | g | g | g
      · exact .inl g
      · exact .inr (.inl g)
      · exact .inr (.inr (.inl g))
      · rcases hb k g with f | f
        · exact .inr (.inr (.inr (.inl f.1)))
        · exact .inr (.inl (by omega))
      · exact .inr (.inr (.inr (.inr g)))
  · intro k hk
    rcases hb k hk with f | f
    · exact ⟨fun e => f.2 (.inr (.inr (.inl e))), fun e => f.2 (.inr (.inr (.inr e)))⟩
    · exact ⟨by omega, fun e => by have := h.ab k e; omega⟩
  · refine (h.ra.keep hcc (fun k _ g => ?_)).weak (fun k _ g => ?_)
    · rcases g with g | g
      · exact .inr (.inr (.inr g.1))
      · exact .inr (.inr (.inl g))
    · rcases g with g | g | g | g
      · exact .inl g
      · exact .inr (.inl g)
      · exact .inr (.inr (.inl g))
      · rcases hb k g with f | f
        · exact .inr (.inr (.inr f.1))
        · exact .inr (.inl (by omega))
  · intro k hk
    refine ⟨?_, (hown'.lt k hk).2⟩
    rcases hb k hk with f | f
    · exact (h.rb k f.1).1
    · exact .inr (by omega)
theorem OrdV.app {W W5 : World} {lo hi p : Nat} {lv rv v' av : Value} {st : OSt} {x : Int} (h : OrdV W lo hi p lv rv av st) (hown : Cb.Own No W5 lo 3 v' (st.after ++ [x]))
    (hc : Chg (fun k => OB av k ∧ ¬ (k < lo ∨ hi ≤ k ∨ k = p ∨ OB rv k) ∧ IsC W k) W W5) (hb : ∀ k, OB v' k → (OB av k ∧ ¬ (k < lo ∨ hi ≤ k ∨ k = p ∨ OB rv k)) ∨ W.heap.size ≤ k) :
    Ord (W5.setCell ⟨p, 2, none⟩ v') lo (W5.setCell ⟨p, 2, none⟩ v').heap.size p ⟨st.last, st.runs, st.after ++ [x]⟩ ∧ Chg (In lo hi) W (W5.setCell ⟨p, 2, none⟩ v') ∧ Chg (fun k => (OB av k ∧ ¬ (k < lo ∨ hi ≤ k ∨ k = p ∨ OB rv k) ∧ IsC W k) ∨ k = p) W (W5.setCell ⟨p, 2, none⟩ v') := by
  have hs := chg_set (w := W5) (b := p) (i := 2) v'
  have hpW := lt_of_heap h.obj
  have hhi := h.hhi
  have hcc : Chg (fun k => (OB av k ∧ ¬ (k < lo ∨ hi ≤ k ∨ k = p ∨ OB rv k) ∧ IsC W k) ∨ k = p) W (W5.setCell ⟨p, 2, none⟩ v') := hc.trans' hs (fun k _ g => .inl g) (fun k _ g => .inr g)
  have hown' : Cb.Own No (W5.setCell ⟨p, 2, none⟩ v') lo 3 v' (st.after ++ [x]) := hown.keepFlat hs (fun k hk g => by
    simp only [At] at g
    rcases hb k hk with f | f
    · exact f.2 (.inr (.inr (.inl g)))
    · omega)
  refine ⟨⟨lv, rv, v', { obj := obj_set (hc.obj h.obj (fun g => g.2.1 (.inr (.inr (.inl rfl))))) rfl, hp := ⟨h.hp.1, Nat.lt_of_lt_of_le hpW hcc.size⟩, hhi := Nat.le_refl _, sl := ?_, rr := ?_, ra := .inl ⟨hown', ?_⟩, ob := ?_ }⟩, hcc.weak (fun k _ g => ?_), hcc⟩
  · refine (h.sl.keep (hcc.weak (fun k _ g => ?_))).weak (fun k hk g => ?_)
    · rcases g with g | g
      · exact .inr (.inr (.inr (.inr g.1)))
      · exact .inr (.inr (.inl g))
    · rcases g with g | g | g | g | g
      · exact .inl g
      · omega
      · exact .inr (.inr (.inl g))
      · exact .inr (.inr (.inr (.inl g)))
      · rcases hb k g with f | f
        · exact .inr (.inr (.inr (.inr f.1)))
        · exact .inr (.inl (by omega))
  · refine (h.rr.keep hcc (fun k _ g => ?_)).weak (fun k hk g => ?_)
    · rcases g with g | g
      · exact .inr (.inr (.inr g.1))
      · exact .inr (.inr (.inl g))
    · rcases g with g | g | g | g
      · exact .inl g
      · omega
      · exact .inr (.inr (.inl g))
      · rcases hb k g with f | f
        · exact .inr (.inr (.inr f.1))
        · exact .inr (.inl (by omega))
  · intro k hk g
    have hlt := hown'.lt k hk
    rcases g with g | g | g | g
    · omega
    · omega
    · rcases hb k hk with f | f
      · exact f.2 (.inr (.inr (.inl g)))
      · omega
    · rcases hb k hk with f | f
      · exact f.2 (.inr (.inr (.inr g)))
      · have := h.ob k (.inl g); omega
  · intro k hk
    have hsz := hcc.size
    rcases hk with hk | hk
    · have := h.ob k (.inl hk); omega
    · exact (hown'.lt k hk).2
  · have := h.hp
    rcases g with g | g
    · have h1 := g.2.1
      simp only [not_or] at h1
      exact ⟨by omega, by omega⟩
    · subst g; exact this
theorem cell_turn {w w' : World} {row : Option Nat} {a : Addr} {u : Value} (h : w.cell? a = some u) (hg : w.grownBy w' row) (hr : ∀ r, row = some r → ∃ o : Obj, w.heap[r]? = some o ∧ o.isCells = false) : w'.cell? a = some u := by
  refine (World.cell?_of_block (hg.block a.block (World.block_lt_of_cell? w a h) (fun e => ?_))).trans h
  obtain ⟨o, ho, hc⟩ := hr _ e.symm
  unfold World.cell? at h
  rw [ho] at h
  cases o <;> simp_all [Obj.isCells]
theorem sl_turn {α : Type} [Rep α] [Flat α] {F : Nat → Prop} {w w' : World} {row : Option Nat} {v : Value} {xs : List α} (h : Sl F w v xs) (hg : w.grownBy w' row) (hr : ∀ r, row = some r → ∃ o : Obj, w.heap[r]? = some o ∧ o.isCells = false) : Sl F w' v xs := by
  obtain ⟨A, c, rfl, hl, h | ⟨b, o, rfl, hb, hlt, hrow⟩⟩ := h
  · exact ⟨A, c, rfl, hl, .inl h⟩
  · refine ⟨_, c, rfl, hl, .inr ⟨b, o, rfl, hb, Nat.lt_of_lt_of_le hlt hg.size, fun i hi => ?_⟩⟩
    obtain ⟨d, hd, hj⟩ := hrow i hi
    exact ⟨d, Flat.flat hd, fun j u hu => cell_turn (hj j u hu) hg hr⟩
theorem row_turn {α : Type} [Rep α] [Flat α] {F : Nat → Prop} {w w' : World} {row : Option Nat} {lo : Nat} {T : TypeId} {v : Value} {xs : List α} (h : RowT F w lo T v xs) (hg : w.grownBy w' row) (hr : ∀ r, row = some r → ∃ o : Obj, w.heap[r]? = some o ∧ o.isCells = false) : RowT F w' lo T v xs := by
  rcases h with ⟨h1, h2⟩ | ⟨h1, h2⟩
  · refine .inl ⟨h1.keepFlat ((Chg.refl (fun k => row = some k) w).grown hg (fun k e => .inl e)) (fun k hk g => ?_), h2⟩
    obtain ⟨C, T, fz, hcell⟩ := h1.cells k hk
    obtain ⟨o, ho, hoc⟩ := hr k g
    rw [hcell] at ho
    cases ho
    simp [Obj.isCells] at hoc
  · exact .inr ⟨sl_turn h1 hg hr, h2⟩
theorem OrdV.turn {W W' : World} {lo hi p : Nat} {lv rv av : Value} {st : OSt} {row : Option Nat} (h : OrdV W lo hi p lv rv av st) (hg : W.grownBy W' row) (hr : ∀ r, row = some r → ∃ o : Obj, W.heap[r]? = some o ∧ o.isCells = false) : OrdV W' lo hi p lv rv av st where
  obj := turn_obj h.obj hg hr
  hp := h.hp
  hhi := Nat.le_trans h.hhi hg.size
  sl := sl_turn h.sl hg hr
  rr := row_turn h.rr hg hr
  ra := row_turn h.ra hg hr
  ob := h.ob
theorem OrdV.setlast {W W1 : World} {lo hi p : Nat} {lv v' rv av : Value} {st : OSt} {cut : List Int} (h : OrdV W lo hi p lv rv av st) (hW : hi = W.heap.size) (hc : Chg No W W1) (hs : Sl (Lt W.heap.size) W1 v' cut) :
    OrdV (W1.setCell ⟨p, 0, none⟩ v') lo W1.heap.size p v' rv av ⟨cut, st.runs, st.after⟩ := by
  have h1 := h.keepNo' hc
  have hp := h.hp
  have hsz := hc.size
  have hset := chg_set (w := W1) (b := p) (i := 0) v'
  have hsz2 : (W1.setCell ⟨p, 0, none⟩ v').heap.size = W1.heap.size := by simp
  refine { obj := obj_set h1.obj rfl, hp := ⟨hp.1, by omega⟩, hhi := by omega, sl := ?_, rr := ?_, ra := ?_, ob := fun k hk => by have := h.ob k hk; omega }
  · refine (hs.keep (hset.weak (fun k _ g => by simp only [At] at g; simp only [Lt]; omega))).weak (fun b hb g => ?_)
    simp only [Lt]
    rcases g with g | g | g | g | g
    · omega
    · omega
    · omega
    · have := h.ob b (.inl g); omega
    · have := h.ob b (.inr g); omega
  · exact (h1.rr.keep hset (fun k _ g => .inr (.inr (.inl g)))).weak (fun b hb g => by
      rcases g with g | g | g
      · exact .inl g
      · exact .inr (.inl (by omega))
      · exact .inr (.inr g))
  · exact (h1.ra.keep hset (fun k _ g => .inr (.inr (.inl g)))).weak (fun b hb g => by
      rcases g with g | g | g
      · exact .inl g
      · exact .inr (.inl (by omega))
      · exact .inr (.inr g))
theorem brings_len : ∀ (l v : List Int) (p s : Int), (bringsF p s l v).length ≤ l.length
  | [], v, p, s => by unfold bringsF; simp
  | _ :: _, [], p, s => by unfold bringsF; simp
  | y :: l, x :: v, p, s => by
    have := brings_len l v (p + (x - y)) (s + 1)
    unfold bringsF
    rw [List.length_append, List.length_cons]
    split <;> simp <;> omega
theorem info_run : Info Try.prog 124 (.agg #[.int .i64 0, .int .i64 0, .int .i64 0, .int .i64 0]) 4 32 := by unfold Info; kernel_rfl
/-- Between two rounds of Add's loop. -/
def AddI (w : World) (lo hi B p q2 q3 qa qb : Nat) (lv av vv : Value) (cut : List Int) (E : Array Value) (st : OSt) (pre : List Rn) (W : World) : Prop :=
  ∃ rv, OrdL W lo hi B p lv rv av ⟨st.last, st.runs ++ pre, st.after⟩ ∧ W.heap[q2]? = some (.cells #[.pointer (some ⟨p, 0, none⟩)] 25 (0, 0)) ∧ W.heap[q3]? = some (.cells E 58 (0, 0)) ∧
    W.heap[qa]? = some (.cells #[.pointer (some ⟨p, 0, none⟩)] 25 (0, 0)) ∧ W.heap[qb]? = some (.cells #[vv] 46 (0, 0)) ∧ Sl (Ge lo) W vv cut ∧ Chg (In lo hi) w W
section
variable {w W W' : World} {lo hi B p q2 q3 qa qb : Nat} {lv av vv : Value} {cut : List Int} {E : Array Value} {st : OSt} {pre : List Rn}
theorem AddI.turn {row : Option Nat} (h : AddI w lo hi B p q2 q3 qa qb lv av vv cut E st pre W) (hw : w.heap.size ≤ B) (hg : W.grownBy W' row) (hr : ∀ r, row = some r → B ≤ r ∧ ∃ o : Obj, W.heap[r]? = some o ∧ o.isCells = false) :
    AddI w lo hi B p q2 q3 qa qb lv av vv cut E st pre W' := by
  obtain ⟨rv, h1, h2, h3, h4, h5, h6, h7⟩ := h
  have hr2 : ∀ r, row = some r → ∃ o : Obj, W.heap[r]? = some o ∧ o.isCells = false := fun r e => (hr r e).2
  exact ⟨rv, h1.turn hg hr, turn_obj h2 hg hr2, turn_obj h3 hg hr2, turn_obj h4 hg hr2, turn_obj h5 hg hr2,
    h6.keep ((Chg.refl _ W).grown hg (fun k e => .inl (by have := (hr k e).1; have := h1.hp; have := h1.hB; simp only [Ge]; omega))), h7.grown hg (fun k e => .inr (by have := (hr k e).1; omega))⟩
theorem AddI.no (h : AddI w lo hi B p q2 q3 qa qb lv av vv cut E st pre W) (hc : Chg No W W') : AddI w lo hi B p q2 q3 qa qb lv av vv cut E st pre W' := by
  obtain ⟨rv, h1, h2, h3, h4, h5, h6, h7⟩ := h
  exact ⟨rv, h1.keepNo hc, hc.obj h2 (not_no _), hc.obj h3 (not_no _), hc.obj h4 (not_no _), hc.obj h5 (not_no _), h6.keepNo hc, h7.trans hc.of_no⟩
theorem AddI.brq (h : AddI w lo hi B p q2 q3 qa qb lv av vv cut E st pre W) : BrQ B p qa qb lv vv st.last cut W := by
  obtain ⟨rv, h1, h2, h3, h4, h5, h6, h7⟩ := h
  exact ⟨cell_obj (i := 0) h4 rfl, cell_obj (i := 0) h5 rfl, cell_obj (i := 0) h1.obj rfl, h1.sl.weak (fun k _ g => .inr (.inl g)), h6.weak (fun k _ g => by have := h1.hp; have := h1.hB; simp only [Ge] at g ⊢; omega), h1.hB.2⟩
theorem BrQ.turn {last : List Int} {row : Option Nat} (h : BrQ B p qa qb lv vv last cut W) (hg : W.grownBy W' row) (hr : ∀ r, row = some r → B ≤ r ∧ ∃ o : Obj, W.heap[r]? = some o ∧ o.isCells = false)
    (ha : qa < B) (hb : qb < B) (hp : p < B) : BrQ B p qa qb lv vv last cut W' := by
  have hc : Chg (Ge B) W W' := (Chg.refl _ W).grown hg (fun k e => .inl (hr k e).1)
  exact ⟨hc.cell h.c2 (by simp only [Ge]; omega), hc.cell h.c3 (by simp only [Ge]; omega), hc.cell h.cp (by simp only [Ge]; omega), h.sl.keep hc, h.sv.keep hc, Nat.le_trans h.sz hc.size⟩
theorem AddI.app {W5 : World} {rv v' : Value} {x : Rn} {rs : List Rn} (hrs : rs = st.runs ++ pre) (h1 : OrdL W lo hi B p lv rv av ⟨st.last, rs, st.after⟩) (h2 : W.heap[q2]? = some (.cells #[.pointer (some ⟨p, 0, none⟩)] 25 (0, 0))) (h3 : W.heap[q3]? = some (.cells E 58 (0, 0)))
    (h4 : W.heap[qa]? = some (.cells #[.pointer (some ⟨p, 0, none⟩)] 25 (0, 0))) (h5 : W.heap[qb]? = some (.cells #[vv] 46 (0, 0))) (h6 : Sl (Ge lo) W vv cut) (h7 : Chg (In lo hi) w W)
    (hq : (hi ≤ q2 ∧ q2 < B) ∧ (hi ≤ q3 ∧ q3 < B) ∧ (hi ≤ qa ∧ qa < B) ∧ (hi ≤ qb ∧ qb < B)) (hw : w.heap.size ≤ B)
    (hown : Cb.Own No W5 lo 124 v' (rs ++ [x])) (hc : Chg (fun k => OB rv k ∧ ¬ (k < lo ∨ W.heap.size ≤ k ∨ k = p ∨ OB av k) ∧ IsC W k) W W5) (hb : ∀ k, OB v' k → (OB rv k ∧ ¬ (k < lo ∨ W.heap.size ≤ k ∨ k = p ∨ OB av k)) ∨ W.heap.size ≤ k) :
    KeepsFrom B W (W5.setCell ⟨p, 1, none⟩ v') ∧ AddI w lo hi B p q2 q3 qa qb lv av vv cut E st (pre ++ [x]) (W5.setCell ⟨p, 1, none⟩ v') := by
  subst hrs
  obtain ⟨k1, k2⟩ := h1.app hown hc hb
  have hp := h1.hp
  have hB := h1.hB
  have hno : ∀ q, hi ≤ q → q < B → ¬ ((OB rv q ∧ ¬ (q < lo ∨ W.heap.size ≤ q ∨ q = p ∨ OB av q) ∧ IsC W q) ∨ q = p) := fun q a b g => by
    rcases g with g | g
    · have := (h1.rb q g.1).1; omega
    · omega
  have hge : ∀ k, ((OB rv k ∧ ¬ (k < lo ∨ W.heap.size ≤ k ∨ k = p ∨ OB av k) ∧ IsC W k) ∨ k = p) → Ge lo k := fun k g => by
    rcases g with g | g
    · have := g.2.1; simp only [not_or] at this; simp only [Ge]; omega
    · simp only [Ge]; omega
  refine ⟨keeps_of_chg k2 (fun k o g ho => ?_), v', by rw [← List.append_assoc]; exact k1, k2.obj h2 (hno _ hq.1.1 hq.1.2), k2.obj h3 (hno _ hq.2.1.1 hq.2.1.2), k2.obj h4 (hno _ hq.2.2.1.1 hq.2.2.1.2), k2.obj h5 (hno _ hq.2.2.2.1 hq.2.2.2.2), h6.keep (k2.weak (fun k _ g => hge k g)), ?_⟩
  · rcases g with ⟨_, _, C, T, fz, hC⟩ | rfl
    · rw [hC] at ho; cases ho; rfl
    · rw [h1.obj] at ho; cases ho; rfl
  · refine h7.trans' k2 (fun _ _ g => g) (fun k hk g => ?_)
    have h8 := hge k g
    simp only [Ge] at h8
    rcases g with g | g
    · have := (h1.rb k g.1).1
      exact ⟨h8, by omega⟩
    · exact ⟨h8, by omega⟩
end
set_option maxRecDepth 100000 in
set_option maxHeartbeats 4000000 in
theorem oadd_any {sh lo hi p : Nat} {st : OSt} {w : World} (h : Ord w lo hi p st) (hI : Inv sh st) (e : Ent) (v : Value) (hs : Sl (Ge lo) w v e.2.2.1) (hl : e.2.2.1.length * 8 ≤ 140737488355328) :
    Calls Try.prog 26 #[.pointer (some ⟨p, 0, none⟩), entV e v] w (AddPost (addF st e) lo hi p w) := by
  have hright := Lib.hid (fun W hW => eright_any _ e v W (hs.keepNo (w' := W) hW) hl)
  have hent := Lib.hid (fun W hW => oentries_any (h.keepNo (w' := W) hW) hI)
  have Hs := Lib.hid hs
  have H := Lib.hid h
  have HI := Lib.hid hI
  obtain ⟨n, k, cut, tag, t, u⟩ := e
  simp only at hs hl
  obtain ⟨A, c, rfl, hcl, _⟩ := id hs
  have hpl : p < w.heap.size := by obtain ⟨lv, rv, av, h⟩ := h; exact lt_of_heap h.obj
  have hc0 : Chg No w ((w.alloc (.cells #[.pointer (some ⟨p, 0, none⟩)] 25)).alloc (.cells #[.int .i64 n, .int .i64 k, .slice A cut.length c, .int .i64 tag, .int .i64 t, .int .i64 u] 58)) := ((Chg.refl No w).alloc _).alloc _
  have o2 : ((w.alloc (.cells #[.pointer (some ⟨p, 0, none⟩)] 25)).alloc (.cells #[.int .i64 n, .int .i64 k, .slice A cut.length c, .int .i64 tag, .int .i64 t, .int .i64 u] 58)).heap[w.heap.size]? = some (.cells #[.pointer (some ⟨p, 0, none⟩)] 25 (0, 0)) :=
    ((Chg.refl No _).alloc _).obj (alloc_obj w _) (not_no _)
  have o3 : ((w.alloc (.cells #[.pointer (some ⟨p, 0, none⟩)] 25)).alloc (.cells #[.int .i64 n, .int .i64 k, .slice A cut.length c, .int .i64 tag, .int .i64 t, .int .i64 u] 58)).heap[w.heap.size + 1]? = some (.cells #[.int .i64 n, .int .i64 k, .slice A cut.length c, .int .i64 tag, .int .i64 t, .int .i64 u] 58 (0, 0)) := by
    have := alloc_obj (w.alloc (.cells #[.pointer (some ⟨p, 0, none⟩)] 25)) (.cells #[.int .i64 n, .int .i64 k, .slice A cut.length c, .int .i64 tag, .int .i64 t, .int .i64 u] 58)
    rw [World.size_alloc] at this
    exact this
  have hmany := hI.many
  have hafter : 1 ≤ st.after.length := by obtain ⟨a, ha⟩ := hI.aft; simp [ha]
  have hstay : ∀ x W, Chg No w W → addF st (n, k, cut, tag, t, u) = (st, x) → AddPost (addF st (n, k, cut, tag, t, u)) lo hi p w (.returned (.int .i64 x)) W := fun x W hW he => by
    rw [he]; exact ⟨rfl, hW.of_no, (H.out.keepNo hW).top⟩
  have Hstay := Lib.hid hstay
  have hAdd := Lib.hid (show addF st (n, k, cut, tag, t, u) = addF st (n, k, cut, tag, t, u) from rfl)
  have hq : w.heap.size < w.heap.size + 1 := by omega
  unfold entV at *
  simp only at *
  clear hs h hI hstay
  refine calls_of_marks Try.func26 rfl ?_
  simp only [Try.ntmps26, List.size_toArray, List.length_cons, List.length_nil, Nat.reduceAdd, Nat.reduceSub, Array.replicate_succ, Array.replicate_zero, List.push_toArray, List.append_toArray, List.nil_append, List.cons_append]
  go_wp2_with (with_reducible first | refine stop_append ?_ | refine stop_copy ?_ | refine stop_make ?_ | refine stop_lookup ?_ | refine stop_update ?_ | refine stop_slice ?_ | refine stop_range ?_ | refine stop_next ?_ | refine stop_convert ⟨_, rfl⟩ ?_ | refine stop_convertB ⟨_, _, _, rfl⟩ ?_ | refine stop_eqSlice ⟨_, _, rfl⟩ ?_)
  generalize (w.alloc (.cells #[.pointer (some ⟨p, 0, none⟩)] 25)).alloc (.cells #[.int .i64 n, .int .i64 k, .slice A cut.length c, .int .i64 tag, .int .i64 t, .int .i64 u] 58) = w0 at *
  generalize hq3 : w.heap.size + 1 = q3 at *
  generalize hq2 : w.heap.size = q2 at *
  have b2 : w0.cell? ⟨q2, 0, none⟩ = some (.pointer (some ⟨p, 0, none⟩)) := cell_obj (i := 0) o2 rfl
  have d0 : w0.cell? ⟨q3, 0, none⟩ = some (.int .i64 n) := cell_obj (i := 0) o3 rfl
  have d1 : w0.cell? ⟨q3, 1, none⟩ = some (.int .i64 k) := cell_obj (i := 1) o3 rfl
  have d2 : w0.cell? ⟨q3, 2, none⟩ = some (.slice A cut.length c) := cell_obj (i := 2) o3 rfl
  have d3 : w0.cell? ⟨q3, 3, none⟩ = some (.int .i64 tag) := cell_obj (i := 3) o3 rfl
  have d4 : w0.cell? ⟨q3, 4, none⟩ = some (.int .i64 t) := cell_obj (i := 4) o3 rfl
  have d5 : w0.cell? ⟨q3, 5, none⟩ = some (.int .i64 u) := cell_obj (i := 5) o3 rfl
  have hS : ∀ W, Chg No w0 W → (fun W => W.cell? ⟨q2, 0, none⟩ = some (.pointer (some ⟨p, 0, none⟩)) ∧ W.cell? ⟨q3, 0, none⟩ = some (.int .i64 n) ∧ W.cell? ⟨q3, 1, none⟩ = some (.int .i64 k) ∧ W.cell? ⟨q3, 2, none⟩ = some (.slice A cut.length c) ∧ W.cell? ⟨q3, 3, none⟩ = some (.int .i64 tag) ∧ W.cell? ⟨q3, 4, none⟩ = some (.int .i64 t) ∧ W.cell? ⟨q3, 5, none⟩ = some (.int .i64 u) ∧ Chg No w0 W) W := fun W h => ⟨h.cell b2 (not_no _), h.cell d0 (not_no _), h.cell d1 (not_no _), h.cell d2 (not_no _), h.cell d3 (not_no _), h.cell d4 (not_no _), h.cell d5 (not_no _), h⟩
  have HS := Lib.hid hS
  have s0 := hS _ (Chg.refl No w0).drew
  clear b2 d0 d1 d2 d3 d4 d5 hS
  cases hb : entR (n, k, cut, tag, t, u) with
  | false =>
    have hres := Lib.hid (show addF st (n, k, cut, tag, t, u) = (st, 150) by unfold addF; rw [if_neg (fun h => by rw [hb] at h; cases h.1)])
    rw [hb] at hright
    refine pl_start (fun W => W.cell? ⟨q2, 0, none⟩ = some (.pointer (some ⟨p, 0, none⟩)) ∧ W.cell? ⟨q3, 0, none⟩ = some (.int .i64 n) ∧ W.cell? ⟨q3, 1, none⟩ = some (.int .i64 k) ∧ W.cell? ⟨q3, 2, none⟩ = some (.slice A cut.length c) ∧ W.cell? ⟨q3, 3, none⟩ = some (.int .i64 tag) ∧ W.cell? ⟨q3, 4, none⟩ = some (.int .i64 t) ∧ W.cell? ⟨q3, 5, none⟩ = some (.int .i64 u) ∧ Chg No w0 W) (by kernel_rfl) (by kernel_rfl) s0 ?_
    ((refine pl_nx [] (v := ?_) rfl (by kernel_rfl) rfl ?_ ?_; rotate_left; focus (intro W hW; (try dsimp only at hW); go_split_ands; go_simp; (try (simp (disch := omega) only [IntWalk.i64_in]; (try go_simp))); (try (split; (next => omega); (try go_simp))); try rfl; done)); try simp only [Act.put, List.setIfInBounds_toArray, List.set_cons_zero, List.set_cons_succ, Nat.reduceAdd])
    refine pl_callx 1 (.bool false) rfl (by kernel_rfl) rfl (by exact (fun W hW => (hright.out W (hc0.trans hW.2.2.2.2.2.2.2)).mono fun x w' h => ⟨h.1, HS.out _ (hW.2.2.2.2.2.2.2.trans h.2)⟩)) (fun W => by kernel_rfl) ?_
    try simp only [Act.put, List.setIfInBounds_toArray, List.set_cons_zero, List.set_cons_succ, Nat.reduceAdd]
    iterate 2 ((refine pl_nx [] (v := ?_) rfl (by kernel_rfl) rfl ?_ ?_; rotate_left; focus (intro W hW; (try dsimp only at hW); go_split_ands; go_simp; (try (simp (disch := omega) only [IntWalk.i64_in]; (try go_simp))); (try (split; (next => omega); (try go_simp))); try rfl; done)); try simp only [Act.put, List.setIfInBounds_toArray, List.set_cons_zero, List.set_cons_succ, Nat.reduceAdd])
    iterate 3 ((first | (refine pl_nn [] rfl (by kernel_rfl) rfl ?_) | (refine pl_nx [] (v := ?_) rfl (by kernel_rfl) rfl ?_ ?_; rotate_left; focus (intro W hW; (try dsimp only at hW); go_split_ands; go_simp; (try (simp (disch := omega) only [IntWalk.i64_in]; (try go_simp))); (try (split; (next => omega); (try go_simp))); try rfl; done))); try simp only [Act.put, List.setIfInBounds_toArray, List.set_cons_zero, List.set_cons_succ, Nat.reduceAdd])
    refine pl_nox 7 (by kernel_rfl) rfl rfl ?_
    try simp only [Act.put, List.setIfInBounds_toArray, List.set_cons_zero, List.set_cons_succ, Nat.reduceAdd]
    iterate 2 ((first | (refine pl_nn [] rfl (by kernel_rfl) rfl ?_) | (refine pl_nx [] (v := ?_) rfl (by kernel_rfl) rfl ?_ ?_; rotate_left; focus (intro W hW; (try dsimp only at hW); go_split_ands; go_simp; (try (simp (disch := omega) only [IntWalk.i64_in]; (try go_simp))); (try (split; (next => omega); (try go_simp))); try rfl; done))); try simp only [Act.put, List.setIfInBounds_toArray, List.set_cons_zero, List.set_cons_succ, Nat.reduceAdd])
    ((refine pl_nx [] (v := ?_) rfl (by kernel_rfl) rfl ?_ ?_; rotate_left; focus (intro W hW; (try dsimp only at hW); go_split_ands; go_simp; (try (simp (disch := omega) only [IntWalk.i64_in]; (try go_simp))); (try (split; (next => omega); (try go_simp))); try rfl; done)); try simp only [Act.put, List.setIfInBounds_toArray, List.set_cons_zero, List.set_cons_succ, Nat.reduceAdd])
    refine pl_done (by kernel_rfl)  ?_
    rintro w1 ⟨_, _, _, _, _, _, _, hc1⟩
    go_wp2_with (with_reducible first | refine stop_append ?_ | refine stop_copy ?_ | refine stop_make ?_ | refine stop_lookup ?_ | refine stop_update ?_ | refine stop_slice ?_ | refine stop_range ?_ | refine stop_next ?_ | refine stop_convert ⟨_, rfl⟩ ?_ | refine stop_convertB ⟨_, _, _, rfl⟩ ?_ | refine stop_eqSlice ⟨_, _, rfl⟩ ?_)
    refine marks_ret (results_tmp rfl _ _ _) ?_
    exact Hstay.out _ _ (hc0.trans hc1) hres.out
  | true =>
    rw [hb] at hright
    have Hb := Lib.hid hb
    clear hb
    refine pl_start (fun W => W.cell? ⟨q2, 0, none⟩ = some (.pointer (some ⟨p, 0, none⟩)) ∧ W.cell? ⟨q3, 0, none⟩ = some (.int .i64 n) ∧ W.cell? ⟨q3, 1, none⟩ = some (.int .i64 k) ∧ W.cell? ⟨q3, 2, none⟩ = some (.slice A cut.length c) ∧ W.cell? ⟨q3, 3, none⟩ = some (.int .i64 tag) ∧ W.cell? ⟨q3, 4, none⟩ = some (.int .i64 t) ∧ W.cell? ⟨q3, 5, none⟩ = some (.int .i64 u) ∧ Chg No w0 W) (by kernel_rfl) (by kernel_rfl) s0 ?_
    ((refine pl_nx [] (v := ?_) rfl (by kernel_rfl) rfl ?_ ?_; rotate_left; focus (intro W hW; (try dsimp only at hW); go_split_ands; go_simp; (try (simp (disch := omega) only [IntWalk.i64_in]; (try go_simp))); (try (split; (next => omega); (try go_simp))); try rfl; done)); try simp only [Act.put, List.setIfInBounds_toArray, List.set_cons_zero, List.set_cons_succ, Nat.reduceAdd])
    refine pl_callx 1 (.bool true) rfl (by kernel_rfl) rfl (by exact (fun W hW => (hright.out W (hc0.trans hW.2.2.2.2.2.2.2)).mono fun x w' h => ⟨h.1, HS.out _ (hW.2.2.2.2.2.2.2.trans h.2)⟩)) (fun W => by kernel_rfl) ?_
    try simp only [Act.put, List.setIfInBounds_toArray, List.set_cons_zero, List.set_cons_succ, Nat.reduceAdd]
    iterate 2 ((refine pl_nx [] (v := ?_) rfl (by kernel_rfl) rfl ?_ ?_; rotate_left; focus (intro W hW; (try dsimp only at hW); go_split_ands; go_simp; (try (simp (disch := omega) only [IntWalk.i64_in]; (try go_simp))); (try (split; (next => omega); (try go_simp))); try rfl; done)); try simp only [Act.put, List.setIfInBounds_toArray, List.set_cons_zero, List.set_cons_succ, Nat.reduceAdd])
    iterate 3 ((first | (refine pl_nn [] rfl (by kernel_rfl) rfl ?_) | (refine pl_nx [] (v := ?_) rfl (by kernel_rfl) rfl ?_ ?_; rotate_left; focus (intro W hW; (try dsimp only at hW); go_split_ands; go_simp; (try (simp (disch := omega) only [IntWalk.i64_in]; (try go_simp))); (try (split; (next => omega); (try go_simp))); try rfl; done))); try simp only [Act.put, List.setIfInBounds_toArray, List.set_cons_zero, List.set_cons_succ, Nat.reduceAdd])
    refine pl_callx 7 (.int .i64 (st.after.length - 1)) rfl (by kernel_rfl) rfl (by exact (fun W hW => (hent.out W (hc0.trans hW.2.2.2.2.2.2.2)).mono fun x w' h => ⟨h.1, by rw [← h.2]; exact hW⟩)) (fun W => by kernel_rfl) ?_
    try simp only [Act.put, List.setIfInBounds_toArray, List.set_cons_zero, List.set_cons_succ, Nat.reduceAdd]
    iterate 2 ((first | (refine pl_nn [] rfl (by kernel_rfl) rfl ?_) | (refine pl_nx [] (v := ?_) rfl (by kernel_rfl) rfl ?_ ?_; rotate_left; focus (intro W hW; (try dsimp only at hW); go_split_ands; go_simp; (try (simp (disch := omega) only [IntWalk.i64_in]; (try go_simp))); (try (split; (next => omega); (try go_simp))); try rfl; done))); try simp only [Act.put, List.setIfInBounds_toArray, List.set_cons_zero, List.set_cons_succ, Nat.reduceAdd])
    ((refine pl_nx [] (v := ?_) rfl (by kernel_rfl) rfl ?_ ?_; rotate_left; focus (intro W hW; (try dsimp only at hW); go_split_ands; go_simp; (try (simp (disch := omega) only [IntWalk.i64_in]; (try go_simp))); (try (split; (next => omega); (try go_simp))); try rfl; done)); try simp only [Act.put, List.setIfInBounds_toArray, List.set_cons_zero, List.set_cons_succ, Nat.reduceAdd])
    refine pl_done (by kernel_rfl)  ?_
    rintro w1 ⟨_, _, _, _, _, _, _, hc1⟩
    have hcw1 := hc0.trans hc1
    have s1 := HS.out w1 hc1
    by_cases hn : n = st.after.length
    · have hn2 : (n != (st.after.length : Int) - 1 + 1) = false := by simp; omega
      have hn3 : (n == (st.after.length : Int)) = true := by simpa using hn
      have Hn := Lib.hid hn
      clear hn
      by_cases hk : k = 1
      · subst hk
        obtain ⟨s12, _, s11, s13, _, _, _, _⟩ := s1
        obtain ⟨lv, rv, av, hv⟩ := H.out.keepNo hcw1
        obtain ⟨A0, c0, rfl⟩ := hv.sl.slice
        have cp : w1.cell? ⟨p, 0, none⟩ = some (.slice A0 st.last.length c0) := cell_obj (i := 0) hv.obj rfl
        have h8 := (vright_iff.1 HI.out.right).2.1
        have hcov := Lib.hid (fun W hW => vcovers_any _ _ _ _ cut st.last W (Hs.out.keepNo (w' := W) (hcw1.trans hW)) (hv.sl.keepNo hW) hl (by omega))
        have htot := Lib.hid (fun W hW => vtotal_any _ _ cut W (Hs.out.keepNo (w' := W) (hcw1.trans hW)) hl)
        cases hcv : coversB cut st.last with
        | false =>
          have hres := Lib.hid (show addF st (n, 1, cut, tag, t, u) = (st, 150) by unfold addF; rw [if_pos ⟨Hb.out, Hn.out⟩]; simp only [if_true]; rw [if_neg (by rw [hcv]; simp)])
          rw [hcv] at hcov
          clear hcv
          go_wp2_with (with_reducible first | refine stop_append ?_ | refine stop_copy ?_ | refine stop_make ?_ | refine stop_lookup ?_ | refine stop_update ?_ | refine stop_slice ?_ | refine stop_range ?_ | refine stop_next ?_ | refine stop_convert ⟨_, rfl⟩ ?_ | refine stop_convertB ⟨_, _, _, rfl⟩ ?_ | refine stop_eqSlice ⟨_, _, rfl⟩ ?_)
          refine pl_start (fun W => W.cell? ⟨q2, 0, none⟩ = some (.pointer (some ⟨p, 0, none⟩)) ∧ W.cell? ⟨q3, 2, none⟩ = some (.slice A cut.length c) ∧ W.cell? ⟨p, 0, none⟩ = some (.slice A0 st.last.length c0) ∧ Chg No w1 W) (by kernel_rfl) (by kernel_rfl) ⟨s12, s13, cp, (Chg.refl No w1).drew⟩ ?_
          iterate 6 ((refine pl_nx [] (v := ?_) rfl (by kernel_rfl) rfl ?_ ?_; rotate_left; focus (intro W hW; (try dsimp only at hW); go_split_ands; go_simp; (try (simp (disch := omega) only [IntWalk.i64_in]; (try go_simp))); (try (split; (next => omega); (try go_simp))); try rfl; done)); try simp only [Act.put, List.setIfInBounds_toArray, List.set_cons_zero, List.set_cons_succ, Nat.reduceAdd])
          refine pl_callx 6 (.bool false) rfl (by kernel_rfl) rfl (by exact (fun W hW => (hcov.out W hW.2.2.2).mono fun x w' h => ⟨h.1, h.2.cell hW.1 (not_no _), h.2.cell hW.2.1 (not_no _), h.2.cell hW.2.2.1 (not_no _), hW.2.2.2.trans h.2⟩)) (fun W => by kernel_rfl) ?_
          try simp only [Act.put, List.setIfInBounds_toArray, List.set_cons_zero, List.set_cons_succ, Nat.reduceAdd]
          iterate 2 ((refine pl_nx [] (v := ?_) rfl (by kernel_rfl) rfl ?_ ?_; rotate_left; focus (intro W hW; (try dsimp only at hW); go_split_ands; go_simp; (try (simp (disch := omega) only [IntWalk.i64_in]; (try go_simp))); (try (split; (next => omega); (try go_simp))); try rfl; done)); try simp only [Act.put, List.setIfInBounds_toArray, List.set_cons_zero, List.set_cons_succ, Nat.reduceAdd])
          refine pl_done (by kernel_rfl)  ?_
          rintro w2 ⟨_, _, _, hc2⟩
          go_wp2_with (with_reducible first | refine stop_append ?_ | refine stop_copy ?_ | refine stop_make ?_ | refine stop_lookup ?_ | refine stop_update ?_ | refine stop_slice ?_ | refine stop_range ?_ | refine stop_next ?_ | refine stop_convert ⟨_, rfl⟩ ?_ | refine stop_convertB ⟨_, _, _, rfl⟩ ?_ | refine stop_eqSlice ⟨_, _, rfl⟩ ?_)
          refine marks_ret (results_tmp rfl _ _ _) ?_
          exact Hstay.out _ _ (hcw1.trans hc2) hres.out
        | true =>
          rw [hcv] at hcov
          have Hcv := Lib.hid hcv
          clear hcv
          go_wp2_with (with_reducible first | refine stop_append ?_ | refine stop_copy ?_ | refine stop_make ?_ | refine stop_lookup ?_ | refine stop_update ?_ | refine stop_slice ?_ | refine stop_range ?_ | refine stop_next ?_ | refine stop_convert ⟨_, rfl⟩ ?_ | refine stop_convertB ⟨_, _, _, rfl⟩ ?_ | refine stop_eqSlice ⟨_, _, rfl⟩ ?_)
          refine pl_start (fun W => W.cell? ⟨q2, 0, none⟩ = some (.pointer (some ⟨p, 0, none⟩)) ∧ W.cell? ⟨q3, 2, none⟩ = some (.slice A cut.length c) ∧ W.cell? ⟨p, 0, none⟩ = some (.slice A0 st.last.length c0) ∧ Chg No w1 W) (by kernel_rfl) (by kernel_rfl) ⟨s12, s13, cp, (Chg.refl No w1).drew⟩ ?_
          iterate 6 ((refine pl_nx [] (v := ?_) rfl (by kernel_rfl) rfl ?_ ?_; rotate_left; focus (intro W hW; (try dsimp only at hW); go_split_ands; go_simp; (try (simp (disch := omega) only [IntWalk.i64_in]; (try go_simp))); (try (split; (next => omega); (try go_simp))); try rfl; done)); try simp only [Act.put, List.setIfInBounds_toArray, List.set_cons_zero, List.set_cons_succ, Nat.reduceAdd])
          refine pl_callx 6 (.bool true) rfl (by kernel_rfl) rfl (by exact (fun W hW => (hcov.out W hW.2.2.2).mono fun x w' h => ⟨h.1, h.2.cell hW.1 (not_no _), h.2.cell hW.2.1 (not_no _), h.2.cell hW.2.2.1 (not_no _), hW.2.2.2.trans h.2⟩)) (fun W => by kernel_rfl) ?_
          try simp only [Act.put, List.setIfInBounds_toArray, List.set_cons_zero, List.set_cons_succ, Nat.reduceAdd]
          iterate 2 ((refine pl_nx [] (v := ?_) rfl (by kernel_rfl) rfl ?_ ?_; rotate_left; focus (intro W hW; (try dsimp only at hW); go_split_ands; go_simp; (try (simp (disch := omega) only [IntWalk.i64_in]; (try go_simp))); (try (split; (next => omega); (try go_simp))); try rfl; done)); try simp only [Act.put, List.setIfInBounds_toArray, List.set_cons_zero, List.set_cons_succ, Nat.reduceAdd])
          refine pl_done (by kernel_rfl)  ?_
          rintro w2 ⟨s12, s13, cp, hc2⟩
          by_cases hbig : 1000000 < total cut
          · have hres := Lib.hid (show addF st (n, 1, cut, tag, t, u) = (st, 1) by unfold addF; rw [if_pos ⟨Hb.out, Hn.out⟩]; simp only [if_true]; rw [if_pos Hcv.out, if_pos hbig])
            go_wp2_with (with_reducible first | refine stop_append ?_ | refine stop_copy ?_ | refine stop_make ?_ | refine stop_lookup ?_ | refine stop_update ?_ | refine stop_slice ?_ | refine stop_range ?_ | refine stop_next ?_ | refine stop_convert ⟨_, rfl⟩ ?_ | refine stop_convertB ⟨_, _, _, rfl⟩ ?_ | refine stop_eqSlice ⟨_, _, rfl⟩ ?_)
            refine (htot.out _ hc2).mono ?_
            rintro x w3 ⟨rfl, hc3⟩
            go_wp2_with (with_reducible first | refine stop_append ?_ | refine stop_copy ?_ | refine stop_make ?_ | refine stop_lookup ?_ | refine stop_update ?_ | refine stop_slice ?_ | refine stop_range ?_ | refine stop_next ?_ | refine stop_convert ⟨_, rfl⟩ ?_ | refine stop_convertB ⟨_, _, _, rfl⟩ ?_ | refine stop_eqSlice ⟨_, _, rfl⟩ ?_)
            refine marks_ret (results_tmp rfl _ _ _) ?_
            exact Hstay.out _ _ ((hcw1.trans hc2).trans hc3) hres.out
          · have hres := Lib.hid (show addF st (n, 1, cut, tag, t, u) = (⟨cut, st.runs ++ bringsF st.len 0 st.last cut, st.after ++ [total cut]⟩, 0) by unfold addF; rw [if_pos ⟨Hb.out, Hn.out⟩]; simp only [if_true]; rw [if_pos Hcv.out, if_neg hbig])
            go_wp2_with (with_reducible first | refine stop_append ?_ | refine stop_copy ?_ | refine stop_make ?_ | refine stop_lookup ?_ | refine stop_update ?_ | refine stop_slice ?_ | refine stop_range ?_ | refine stop_next ?_ | refine stop_convert ⟨_, rfl⟩ ?_ | refine stop_convertB ⟨_, _, _, rfl⟩ ?_ | refine stop_eqSlice ⟨_, _, rfl⟩ ?_)
            refine (htot.out _ hc2).mono ?_
            rintro x w3 ⟨rfl, hc3⟩
            have s12 := hc3.cell s12 (not_no _)
            have s13 := hc3.cell s13 (not_no _)
            have cp := hc3.cell cp (not_no _)
            have hv3 := hv.keep (hc2.trans hc3) (fun _ f => f.elim)
            have hcw3 := (hcw1.trans hc2).trans hc3
            have o2 := ((hc1.trans hc2).trans hc3).obj o2 (not_no _)
            have o3 := ((hc1.trans hc2).trans hc3).obj o3 (not_no _)
            have hq3s : q3 < w3.heap.size := lt_of_heap o3
            clear hc2 hc3 hv hcov HS s0 hent hright
            go_wp2_with (with_reducible first | refine stop_append ?_ | refine stop_copy ?_ | refine stop_make ?_ | refine stop_lookup ?_ | refine stop_update ?_ | refine stop_slice ?_ | refine stop_range ?_ | refine stop_next ?_ | refine stop_convert ⟨_, rfl⟩ ?_ | refine stop_convertB ⟨_, _, _, rfl⟩ ?_ | refine stop_eqSlice ⟨_, _, rfl⟩ ?_)
            refine (brings_any p A cut.length c _).mono ?_
            rintro x w4 ⟨rfl, rfl⟩
            go_wp2_with (with_reducible first | refine stop_append ?_ | refine stop_copy ?_ | refine stop_make ?_ | refine stop_lookup ?_ | refine stop_update ?_ | refine stop_slice ?_ | refine stop_range ?_ | refine stop_next ?_ | refine stop_convert ⟨_, rfl⟩ ?_ | refine stop_convertB ⟨_, _, _, rfl⟩ ?_ | refine stop_eqSlice ⟨_, _, rfl⟩ ?_)
            obtain ⟨ws, hws⟩ : ∃ W, W = (w3.alloc (.cells #[.pointer (some ⟨p, 0, none⟩)] 25)).alloc (.cells #[.slice A cut.length c] 46) := ⟨_, rfl⟩
            have hcs : Chg No w3 ws := by rw [hws]; exact ((Chg.refl No w3).alloc _).alloc _
            have oa : ws.heap[w3.heap.size]? = some (.cells #[.pointer (some ⟨p, 0, none⟩)] 25 (0, 0)) := by rw [hws]; exact ((Chg.refl No _).alloc _).obj (alloc_obj w3 _) (not_no _)
            have ob : ws.heap[w3.heap.size + 1]? = some (.cells #[.slice A cut.length c] 46 (0, 0)) := by
              have := alloc_obj (w3.alloc (.cells #[.pointer (some ⟨p, 0, none⟩)] 25)) (.cells #[.slice A cut.length c] 46)
              rw [World.size_alloc] at this
              rw [hws]; exact this
            have hB : ws.heap.size = w3.heap.size + 1 + 1 := by rw [hws]; simp
            rw [← hws]
            clear hws s12 s13 cp s11
            have o2 := hcs.obj o2 (not_no _)
            have o3 := hcs.obj o3 (not_no _)
            have hvs := hv3.keep hcs (fun _ f => f.elim)
            have hws3 : w.heap.size ≤ w3.heap.size := hcw3.size
            obtain ⟨hgr, hgv, hge⟩ := covers_iff.1 Hcv.out
            have hhi : hi ≤ w.heap.size := by obtain ⟨_, _, _, h⟩ := H.out; exact h.hhi
            have hI0 : AddI w lo hi ws.heap.size p q2 q3 w3.heap.size (w3.heap.size + 1) (.slice A0 st.last.length c0) av (.slice A cut.length c) cut #[.int .i64 n, .int .i64 1, .slice A cut.length c, .int .i64 tag, .int .i64 t, .int .i64 u] st [] ws :=
              ⟨rv, by rw [List.append_nil]; exact hvs.loop (by omega) (Nat.le_refl _), o2, o3, oa, ob, Hs.out.keepNo (hcw3.trans hcs), (hcw3.trans hcs).of_no⟩
            have hpB : p < ws.heap.size := by omega
            have hwB : w.heap.size ≤ ws.heap.size := by omega
            refine wp_rangeFunc_box (α := Rn) (encs := encR) (gf := 95) (lb := #[.pointer (some ⟨w3.heap.size, 0, none⟩), .pointer (some ⟨w3.heap.size + 1, 0, none⟩)]) rfl (fun args W => by kernel_rfl) (BrQ ws.heap.size p w3.heap.size (w3.heap.size + 1) (.slice A0 st.last.length c0) (.slice A cut.length c) st.last cut) (xs := bringsF st.len 0 st.last cut)
              (brings_stops (H.out.keepNo (hcw3.trans hcs)) HI.out hge (by have := hge.len; omega) (fun x hx => ((vright_iff.1 hgr).2.2 x hx).2) hI0.brq) (fun _ => rfl) (AddI w lo hi ws.heap.size p q2 q3 w3.heap.size (w3.heap.size + 1) (.slice A0 st.last.length c0) av (.slice A cut.length c) cut #[.int .i64 n, .int .i64 1, .slice A cut.length c, .int .i64 tag, .int .i64 t, .int .i64 u] st) (fun _ _ h => h.brq) (fun s W W' row h hg hr => h.turn hwB hg hr) (fun W W' row h hg hr => h.turn hg hr (by omega) (by omega) hpB) hI0 5 124 (fun x => #[.int .i64 x.1, .int .i64 x.2.1.1, .int .i64 x.2.1.2, .int .i64 x.2.2]) (fun b W => p < W.heap.size ∧ ∀ u, W.cell? ⟨p, 1, none⟩ = some u → ¬ OB u b)
              (fun pre W W' h hc => by
                obtain ⟨rv', h1, _⟩ := h
                refine ⟨Nat.lt_of_lt_of_le (lt_of_heap h1.obj) hc.size, fun u hu => ?_⟩
                have := hc.cell (cell_obj (i := 1) h1.obj rfl) (not_no _)
                rw [this] at hu
                cases hu
                exact fun e => by have := (h1.rb _ e).2; omega)
              (fun b W W' row h hg hr => ⟨Nat.lt_of_lt_of_le h.1 hg.size, fun u hu => h.2 u (by
                rw [← World.cell?_of_block (w := W) (a := ⟨p, 1, none⟩) (hg.block p h.1 (fun e => by have := (hr p e.symm).1; omega))]; exact hu)⟩) ?assign (fun _ _ _ h hc => h.no hc) (fun _ _ h => by obtain ⟨_, h, _⟩ := h; exact h.hB.2) ?body ?done
            case assign =>
              intro l pre x W K hi0 hK
              rw [show wideAt (some l) = Fence.wide.inRound l from rfl]
              dsimp only [encR] at hK ⊢
              have HK := Lib.hid hK
              clear hK
              gi_wp2
              have hk := HK.out _ ((Chg.refl No W).alloc _) (alloc_obj W _)
              simp only [List.zip_toArray, List.zip_cons_cons, List.zip_nil_right, List.foldl_toArray, List.foldl_cons, List.foldl_nil, List.setIfInBounds_toArray, List.set_cons_zero, List.set_cons_succ] at hk
              exact hk
            case body =>
              intro l pre x b W hi0 hbB hbo hz hlen
              dsimp only [encR]
              obtain ⟨rv', h1, h2, h3, h4, h5, h6, h7⟩ := hi0
              obtain ⟨rs, hrs⟩ : ∃ rs, rs = st.runs ++ pre := ⟨_, rfl⟩
              rw [← hrs] at h1
              have Hrsl := Lib.hid (show rs.length = st.runs.length + pre.length by rw [hrs]; simp)
              have Hrs := Lib.hid hrs
              clear hrs
              obtain ⟨A6, c6, rfl⟩ := h1.row.slice
              have b2 := cell_obj (i := 0) h2 rfl
              have bp := cell_obj (i := 1) h1.obj rfl
              simp only [List.zip_toArray, List.zip_cons_cons, List.zip_nil_right, List.foldl_toArray, List.foldl_cons, List.foldl_nil, List.setIfInBounds_toArray, List.set_cons_zero, List.set_cons_succ]
              refine wpIn_block ?_
              obtain ⟨x0, ⟨x1, x2⟩, x3⟩ := x
              simp only at hbo ⊢
              have e0 : W.cell? ⟨b, 0, none⟩ = some (.int .i64 x0) := cell_obj (i := 0) hbo rfl
              have e1 : W.cell? ⟨b, 1, none⟩ = some (.int .i64 x1) := cell_obj (i := 1) hbo rfl
              have e2 : W.cell? ⟨b, 2, none⟩ = some (.int .i64 x2) := cell_obj (i := 2) hbo rfl
              have e3 : W.cell? ⟨b, 3, none⟩ = some (.int .i64 x3) := cell_obj (i := 3) hbo rfl
              have b2 : W.cell? ⟨q2, 0, none⟩ = some (.pointer (some ⟨p, 0, none⟩)) := cell_obj (i := 0) h2 rfl
              have bp : W.cell? ⟨p, 1, none⟩ = some (.slice A6 rs.length c6) := cell_obj (i := 1) h1.obj rfl
              have hlen2 := brings_len st.last cut st.len 0
              have hruns := HI.out.runsLen
              refine rti_start (fun W => W.cell? ⟨q2, 0, none⟩ = some (.pointer (some ⟨p, 0, none⟩)) ∧ W.cell? ⟨p, 1, none⟩ = some (.slice A6 rs.length c6) ∧ W.cell? ⟨b, 0, none⟩ = some (.int .i64 x0) ∧ W.cell? ⟨b, 1, none⟩ = some (.int .i64 x1) ∧ W.cell? ⟨b, 2, none⟩ = some (.int .i64 x2) ∧ W.cell? ⟨b, 3, none⟩ = some (.int .i64 x3)) (r := some l) (by kernel_rfl) (by kernel_rfl) ?_
              iterate 6 ((refine rt_nx [] (v := ?_) rfl (by kernel_rfl) (fun _ _ _ h => h) rfl ?_ ?_; rotate_left; focus (intro W hW; (try dsimp only at hW); go_split_ands; go_simp; (try (simp (disch := omega) only [IntWalk.i64_in]; (try go_simp))); (try (split; (next => omega); (try go_simp))); try rfl; done)); try simp only [Act.put, List.setIfInBounds_toArray, List.set_cons_zero, List.set_cons_succ, Nat.reduceAdd])
              have t0 : (fun W => W.cell? ⟨q2, 0, none⟩ = some (.pointer (some ⟨p, 0, none⟩)) ∧ W.cell? ⟨p, 1, none⟩ = some (.slice A6 rs.length c6) ∧ W.cell? ⟨b, 0, none⟩ = some (.int .i64 x0) ∧ W.cell? ⟨b, 1, none⟩ = some (.int .i64 x1) ∧ W.cell? ⟨b, 2, none⟩ = some (.int .i64 x2) ∧ W.cell? ⟨b, 3, none⟩ = some (.int .i64 x3)) W.drew := ⟨b2, bp, e0, e1, e2, e3⟩
              refine rt_kx (fun W => W.cell? ⟨q2, 0, none⟩ = some (.pointer (some ⟨p, 0, none⟩)) ∧ W.cell? ⟨p, 1, none⟩ = some (.slice A6 rs.length c6) ∧ W.cell? ⟨b, 0, none⟩ = some (.int .i64 x0) ∧ W.cell? ⟨b, 1, none⟩ = some (.int .i64 x1) ∧ W.cell? ⟨b, 2, none⟩ = some (.int .i64 x2) ∧ W.cell? ⟨b, 3, none⟩ = some (.int .i64 x3)) 6 (by kernel_rfl) t0 (fun _ h => h) rfl (by rfl) (fun K hK => ?_)
              go_simp
              refine hK _ _ ?_
              clear hK K
              try simp only [Act.put, List.setIfInBounds_toArray, List.set_cons_zero, List.set_cons_succ]
              have hc3 : Chg No W (W.drew.alloc (.cells #[.int .i64 x0, .int .i64 x1, .int .i64 x2, .int .i64 x3] 124)) := (Chg.refl No W).drew.alloc _
              have t3 : (fun W => W.cell? ⟨q2, 0, none⟩ = some (.pointer (some ⟨p, 0, none⟩)) ∧ W.cell? ⟨p, 1, none⟩ = some (.slice A6 rs.length c6) ∧ W.cell? ⟨b, 0, none⟩ = some (.int .i64 x0) ∧ W.cell? ⟨b, 1, none⟩ = some (.int .i64 x1) ∧ W.cell? ⟨b, 2, none⟩ = some (.int .i64 x2) ∧ W.cell? ⟨b, 3, none⟩ = some (.int .i64 x3)) (W.drew.alloc (.cells #[.int .i64 x0, .int .i64 x1, .int .i64 x2, .int .i64 x3] 124)) := ⟨hc3.cell b2 (not_no _), hc3.cell bp (not_no _), hc3.cell e0 (not_no _), hc3.cell e1 (not_no _), hc3.cell e2 (not_no _), hc3.cell e3 (not_no _)⟩
              have hzb := hz.2 _ bp
              have hp1 := h1.hp
              have hB1 := h1.hB
              have h14 := h1.keepNo hc3
              refine rt_append_row (α := Int × (Int × Int) × Int) (fun W => W.cell? ⟨q2, 0, none⟩ = some (.pointer (some ⟨p, 0, none⟩)) ∧ W.cell? ⟨p, 1, none⟩ = some (.slice A6 rs.length c6) ∧ W.cell? ⟨b, 0, none⟩ = some (.int .i64 x0) ∧ W.cell? ⟨b, 1, none⟩ = some (.int .i64 x1) ∧ W.cell? ⟨b, 2, none⟩ = some (.int .i64 x2) ∧ W.cell? ⟨b, 3, none⟩ = some (.int .i64 x3)) (i := 7) (by kernel_rfl) t3 (fun _ h => h) rfl rfl Try.underlying120 info_run rfl h14.row rfl rfl (Sl.lit1 (F := No) (y := (x0, (x1, x2), x3)) rfl ⟨[_], [_, _, _], rfl, rfl, [_, _], [_], rfl, ⟨[_], [_], rfl, rfl, rfl⟩, rfl⟩ (not_no _)) (by simp) (by have := Hrsl.out; simp; omega) (by have := Hrsl.out; simp [show Rep.n (Int × (Int × Int) × Int) = 4 from rfl]; omega) (by simp; omega) ?_
              intro v5 w5 hown5 hc5 hb5
              have hnq : ∀ q, hi ≤ q → q < ws.heap.size → ¬ OB (.slice A6 rs.length c6) q := fun q a1 a2 e => by have := (h1.rb q e).1; omega
              have t5 : (fun W => W.cell? ⟨q2, 0, none⟩ = some (.pointer (some ⟨p, 0, none⟩)) ∧ W.cell? ⟨p, 1, none⟩ = some (.slice A6 rs.length c6) ∧ W.cell? ⟨b, 0, none⟩ = some (.int .i64 x0) ∧ W.cell? ⟨b, 1, none⟩ = some (.int .i64 x1) ∧ W.cell? ⟨b, 2, none⟩ = some (.int .i64 x2) ∧ W.cell? ⟨b, 3, none⟩ = some (.int .i64 x3)) w5 := ⟨hc5.cell t3.1 (fun g => hnq q2 (by omega) (by omega) g.1), hc5.cell t3.2.1 (fun g => g.2.1 (.inr (.inr (.inl rfl)))), hc5.cell t3.2.2.1 (fun g => hzb g.1), hc5.cell t3.2.2.2.1 (fun g => hzb g.1), hc5.cell t3.2.2.2.2.1 (fun g => hzb g.1), hc5.cell t3.2.2.2.2.2 (fun g => hzb g.1)⟩
              have o5 := hc5.obj h14.obj (fun g => g.2.1 (.inr (.inr (.inl rfl))))
              have f5 := free_obj (i := 1) o5
              have c5 := t5.2.1
              have hfin := AddI.app (w := w) (cut := cut) Hrs.out h14 (hc3.obj h2 (not_no _)) (hc3.obj h3 (not_no _)) (hc3.obj h4 (not_no _)) (hc3.obj h5 (not_no _)) (h6.keepNo hc3) (h7.trans hc3.of_no) ⟨⟨by omega, by omega⟩, ⟨by omega, by omega⟩, ⟨by omega, by omega⟩, ⟨by omega, by omega⟩⟩ hwB hown5 hc5 hb5
              obtain ⟨A7, c7, rfl⟩ := hown5.slice
              rw [show (rs ++ [(x0, (x1, x2), x3)]).length = rs.length + 1 by simp] at hfin
              have Hfin := Lib.hid hfin
              have Hc3 := Lib.hid hc3
              clear hown5 hb5 hfin o5 hc5
              try simp only [Act.put, List.setIfInBounds_toArray, List.set_cons_zero, List.set_cons_succ, Nat.reduceAdd]
              iterate 2 ((refine rt_nx [] (v := ?_) rfl (by kernel_rfl) (fun _ _ _ h => h) rfl ?_ ?_; rotate_left; focus (intro W hW; (try dsimp only at hW); go_split_ands; go_simp; (try (simp (disch := omega) only [IntWalk.i64_in]; (try go_simp))); (try (split; (next => omega); (try go_simp))); try rfl; done)); try simp only [Act.put, List.setIfInBounds_toArray, List.set_cons_zero, List.set_cons_succ, Nat.reduceAdd])
              refine rt_kx (fun W => W.cell? ⟨q2, 0, none⟩ = some (.pointer (some ⟨p, 0, none⟩)) ∧ W.cell? ⟨p, 1, none⟩ = some (.slice A6 rs.length c6) ∧ W.cell? ⟨b, 0, none⟩ = some (.int .i64 x0) ∧ W.cell? ⟨b, 1, none⟩ = some (.int .i64 x1) ∧ W.cell? ⟨b, 2, none⟩ = some (.int .i64 x2) ∧ W.cell? ⟨b, 3, none⟩ = some (.int .i64 x3)) 10 (by kernel_rfl) t5 (fun _ h => h) rfl (by rfl) (fun K hK => ?_)
              go_simp
              refine hK _ _ ?_
              clear hK K
              try simp only [Act.put, List.setIfInBounds_toArray, List.set_cons_zero, List.set_cons_succ]
              refine rt_done (by kernel_rfl)  ?_
              exact ⟨(keeps_of_chg (G := No) Hc3.out (fun _ _ f _ => f.elim)).trans Hfin.out.1, fun _ => Hfin.out.2.brq, Hfin.out.2⟩
            case done =>
              intro D W hD hi0 hK
              obtain ⟨rv', h1, h2, h3, h4, h5, h6, h7⟩ := hi0
              have hpD : p < D := by omega
              have hp1 := h1.hp
              have hWB := h1.hB
              have hord := h1.ord
              obtain ⟨A7, c7, rfl⟩ := h1.ra.slice
              have s1 : W.cell? ⟨q2, 0, none⟩ = some (.pointer (some ⟨p, 0, none⟩)) := cell_obj (i := 0) h2 rfl
              have s2 : W.cell? ⟨q3, 2, none⟩ = some (.slice A cut.length c) := cell_obj (i := 2) h3 rfl
              have p0 : W.cell? ⟨p, 0, none⟩ = some (.slice A0 st.last.length c0) := cell_obj (i := 0) h1.obj rfl
              have hpf := free_obj (i := 0) h1.obj
              go_wp2_with (with_reducible first | refine stop_append ?_ | refine stop_copy ?_ | refine stop_make ?_ | refine stop_lookup ?_ | refine stop_update ?_ | refine stop_slice ?_ | refine stop_range ?_ | refine stop_next ?_ | refine stop_convert ⟨_, rfl⟩ ?_ | refine stop_convertB ⟨_, _, _, rfl⟩ ?_ | refine stop_eqSlice ⟨_, _, rfl⟩ ?_)
              refine rt_start (fun W => W.cell? ⟨q2, 0, none⟩ = some (.pointer (some ⟨p, 0, none⟩)) ∧ W.cell? ⟨q3, 2, none⟩ = some (.slice A cut.length c)) (by kernel_rfl) ?_
              iterate 3 ((refine rt_nx [] (v := ?_) rfl (by kernel_rfl) (fun _ _ _ h => h) rfl ?_ ?_; rotate_left; focus (intro W hW; (try dsimp only at hW); go_split_ands; go_simp; (try (simp (disch := omega) only [IntWalk.i64_in]; (try go_simp))); (try (split; (next => omega); (try go_simp))); try rfl; done)); try simp only [Act.put, List.setIfInBounds_toArray, List.set_cons_zero, List.set_cons_succ, Nat.reduceAdd])
              have t0 : (fun W => W.cell? ⟨q2, 0, none⟩ = some (.pointer (some ⟨p, 0, none⟩)) ∧ W.cell? ⟨q3, 2, none⟩ = some (.slice A cut.length c)) W.drew := ⟨s1, s2⟩
              refine rt_kx (fun W => W.cell? ⟨q2, 0, none⟩ = some (.pointer (some ⟨p, 0, none⟩)) ∧ W.cell? ⟨q3, 2, none⟩ = some (.slice A cut.length c)) 3 (by kernel_rfl) t0 (fun _ h => h) rfl (by rfl) (fun K hK => ?_)
              go_simp
              refine (vclone_any _ _ cut _ ((h6.keepNo (Chg.refl No W).drew)) (by have := hge.len; omega)).mono ?_
              rintro x w5 ⟨v5, rfl, hc5, hs5⟩
              have hc5 : Chg No W w5 := (Chg.refl No W).drew.trans hc5
              have t5 : (fun W => W.cell? ⟨q2, 0, none⟩ = some (.pointer (some ⟨p, 0, none⟩)) ∧ W.cell? ⟨q3, 2, none⟩ = some (.slice A cut.length c)) w5 := ⟨hc5.cell s1 (not_no _), hc5.cell s2 (not_no _)⟩
              refine hK _ _ ?_
              clear hK K
              try simp only [Act.put, List.setIfInBounds_toArray, List.set_cons_zero, List.set_cons_succ]
              iterate 2 ((refine rt_nx [] (v := ?_) rfl (by kernel_rfl) (fun _ _ _ h => h) rfl ?_ ?_; rotate_left; focus (intro W hW; (try dsimp only at hW); go_split_ands; go_simp; (try (simp (disch := omega) only [IntWalk.i64_in]; (try go_simp))); (try (split; (next => omega); (try go_simp))); try rfl; done)); try simp only [Act.put, List.setIfInBounds_toArray, List.set_cons_zero, List.set_cons_succ, Nat.reduceAdd])
              have o5 := hc5.obj h1.obj (not_no _)
              have f5 := free_obj (i := 0) o5
              have c5 := cell_obj (i := 0) o5 rfl
              have hv6 := hord.setlast rfl hc5 hs5
              obtain ⟨A5, c5', rfl⟩ := hs5.slice
              refine rt_kx (fun W => W.cell? ⟨q2, 0, none⟩ = some (.pointer (some ⟨p, 0, none⟩)) ∧ W.cell? ⟨q3, 2, none⟩ = some (.slice A cut.length c)) 6 (by kernel_rfl) t5 (fun _ h => h) rfl (by rfl) (fun K hK => ?_)
              go_simp
              refine hK _ _ ?_
              clear hK K
              try simp only [Act.put, List.setIfInBounds_toArray, List.set_cons_zero, List.set_cons_succ]
              refine rt_done (by kernel_rfl)  ?_
              have hset := chg_set (w := w5) (b := p) (i := 0) (.slice A5 cut.length c5')
              have hq2p : ¬ At p q2 := by simp only [At]; omega
              have hDp : ¬ At p D := by simp only [At]; omega
              have s1 := hset.cell t5.1 hq2p
              have hK6 := hset.obj (hc5.obj hK (not_no _)) hDp
              have hsz6 : (w5.setCell ⟨p, 0, none⟩ (.slice A5 cut.length c5')).heap.size = w5.heap.size := by simp
              have hcw6 : Chg (In lo hi) w (w5.setCell ⟨p, 0, none⟩ (.slice A5 cut.length c5')) := (h7.trans hc5.of_no).trans (hset.weak (fun k _ g => by simp only [At] at g; exact ⟨by omega, by omega⟩))
              have htot6 : Sl (Ge lo) w (.slice A cut.length c) cut := Hs.out
              have hcl8 : cut.length ≤ 8 := by have := hge.len; omega
              have hD5 : D < w5.heap.size := lt_of_heap (hc5.obj hK (not_no _))
              have hsz5 := hc5.size
              clear o5 f5 c5 s2 p0 hpf t5 t0 hset hK
              generalize w5.setCell ⟨p, 0, none⟩ (.slice A5 cut.length c5') = w6 at hv6 s1 hK6 hsz6 hcw6 ⊢
              have p0 : w6.cell? ⟨p, 0, none⟩ = some (.slice A5 cut.length c5') := cell_obj (i := 0) hv6.obj rfl
              have p2 : w6.cell? ⟨p, 2, none⟩ = some (.slice A7 st.after.length c7) := cell_obj (i := 2) hv6.obj rfl
              go_wp2_with (with_reducible first | refine stop_append ?_ | refine stop_copy ?_ | refine stop_make ?_ | refine stop_lookup ?_ | refine stop_update ?_ | refine stop_slice ?_ | refine stop_range ?_ | refine stop_next ?_ | refine stop_convert ⟨_, rfl⟩ ?_ | refine stop_convertB ⟨_, _, _, rfl⟩ ?_ | refine stop_eqSlice ⟨_, _, rfl⟩ ?_)
              refine rt_start (fun W => W.cell? ⟨q2, 0, none⟩ = some (.pointer (some ⟨p, 0, none⟩)) ∧ W.cell? ⟨p, 0, none⟩ = some (.slice A5 cut.length c5') ∧ W.cell? ⟨p, 2, none⟩ = some (.slice A7 st.after.length c7)) (by kernel_rfl) ?_
              iterate 9 ((refine rt_nx [] (v := ?_) rfl (by kernel_rfl) (fun _ _ _ h => h) rfl ?_ ?_; rotate_left; focus (intro W hW; (try dsimp only at hW); go_split_ands; go_simp; (try (simp (disch := omega) only [IntWalk.i64_in]; (try go_simp))); (try (split; (next => omega); (try go_simp))); try rfl; done)); try simp only [Act.put, List.setIfInBounds_toArray, List.set_cons_zero, List.set_cons_succ, Nat.reduceAdd])
              have t0 : (fun W => W.cell? ⟨q2, 0, none⟩ = some (.pointer (some ⟨p, 0, none⟩)) ∧ W.cell? ⟨p, 0, none⟩ = some (.slice A5 cut.length c5') ∧ W.cell? ⟨p, 2, none⟩ = some (.slice A7 st.after.length c7)) w6.drew := ⟨s1, p0, p2⟩
              refine rt_kx (fun W => W.cell? ⟨q2, 0, none⟩ = some (.pointer (some ⟨p, 0, none⟩)) ∧ W.cell? ⟨p, 0, none⟩ = some (.slice A5 cut.length c5') ∧ W.cell? ⟨p, 2, none⟩ = some (.slice A7 st.after.length c7)) 9 (by kernel_rfl) t0 (fun _ h => h) rfl (by rfl) (fun K hK => ?_)
              go_simp
              refine (vtotal_any _ _ cut _ (hv6.sl.keepNo (Chg.refl No w6).drew) (by omega)).mono ?_
              rintro x w7 ⟨rfl, hc7⟩
              have hc7 : Chg No w6 w7 := (Chg.refl No w6).drew.trans hc7
              have t7 : (fun W => W.cell? ⟨q2, 0, none⟩ = some (.pointer (some ⟨p, 0, none⟩)) ∧ W.cell? ⟨p, 0, none⟩ = some (.slice A5 cut.length c5') ∧ W.cell? ⟨p, 2, none⟩ = some (.slice A7 st.after.length c7)) w7 := ⟨hc7.cell s1 (not_no _), hc7.cell p0 (not_no _), hc7.cell p2 (not_no _)⟩
              refine hK _ _ ?_
              clear hK K
              try simp only [Act.put, List.setIfInBounds_toArray, List.set_cons_zero, List.set_cons_succ]
              refine rt_kx (fun W => W.cell? ⟨q2, 0, none⟩ = some (.pointer (some ⟨p, 0, none⟩)) ∧ W.cell? ⟨p, 0, none⟩ = some (.slice A5 cut.length c5') ∧ W.cell? ⟨p, 2, none⟩ = some (.slice A7 st.after.length c7)) 10 (by kernel_rfl) t7 (fun _ h => h) rfl (by rfl) (fun K hK => ?_)
              go_simp
              refine hK _ _ ?_
              clear hK K
              try simp only [Act.put, List.setIfInBounds_toArray, List.set_cons_zero, List.set_cons_succ]
              have hc8 : Chg No w6 (w7.alloc (.cells #[.int .i64 (total cut)] 3)) := hc7.alloc _
              have t8 : (fun W => W.cell? ⟨q2, 0, none⟩ = some (.pointer (some ⟨p, 0, none⟩)) ∧ W.cell? ⟨p, 0, none⟩ = some (.slice A5 cut.length c5') ∧ W.cell? ⟨p, 2, none⟩ = some (.slice A7 st.after.length c7)) (w7.alloc (.cells #[.int .i64 (total cut)] 3)) := ⟨hc8.cell s1 (not_no _), hc8.cell p0 (not_no _), hc8.cell p2 (not_no _)⟩
              have hv8 := hv6.keepNo' hc8
              refine rt_append_row (α := Int) (fun W => W.cell? ⟨q2, 0, none⟩ = some (.pointer (some ⟨p, 0, none⟩)) ∧ W.cell? ⟨p, 0, none⟩ = some (.slice A5 cut.length c5') ∧ W.cell? ⟨p, 2, none⟩ = some (.slice A7 st.after.length c7)) (i := 11) (by kernel_rfl) t8 (fun _ h => h) rfl rfl Try.underlying46 vinfo_int rfl hv8.ra rfl rfl (Sl.lit1 (F := No) (y := total cut) rfl rfl (not_no _)) (by simp) (by simp; omega) (by simp; omega) (by have := hc7.size; simp; omega) ?_
              intro v9 w9 hown9 hc9 hb9
              have hq2r : ∀ q, hi ≤ q → q < ws.heap.size → ¬ OB (.slice A7 st.after.length c7) q := fun q a1 a2 e => by have := h1.ab q e; omega
              have t9 : (fun W => W.cell? ⟨q2, 0, none⟩ = some (.pointer (some ⟨p, 0, none⟩)) ∧ W.cell? ⟨p, 0, none⟩ = some (.slice A5 cut.length c5') ∧ W.cell? ⟨p, 2, none⟩ = some (.slice A7 st.after.length c7)) w9 := ⟨hc9.cell t8.1 (fun g => hq2r q2 (by omega) (by omega) g.1), hc9.cell t8.2.1 (fun g => g.2.1 (.inr (.inr (.inl rfl)))), hc9.cell t8.2.2 (fun g => g.2.1 (.inr (.inr (.inl rfl))))⟩
              have hK9 := hc9.obj (hc8.obj hK6 (not_no _)) (fun g => by have := h1.ab D g.1; omega)
              have o9 := hc9.obj hv8.obj (fun g => g.2.1 (.inr (.inr (.inl rfl))))
              have f9 := free_obj (i := 2) o9
              have c9 := t9.2.2
              have hfin := hv8.app hown9 hc9 hb9
              obtain ⟨A9, c9', rfl⟩ := hown9.slice
              rw [show (st.after ++ [total cut]).length = st.after.length + 1 by simp] at hfin
              have hKf := (chg_set (w := w9) (b := p) (i := 2) (.slice A9 (st.after.length + 1) c9')).obj hK9 hDp
              have Hfin := Lib.hid hfin
              have Hchg := Lib.hid ((hcw6.trans hc8.of_no).trans' (H := In lo hi) hfin.2.2 (fun _ _ g => g) (fun k hk g => by
                rcases g with g | g
                · have h3 := h1.ab k g.1
                  have h4 := g.2.1
                  simp only [not_or] at h4
                  exact ⟨by omega, h3⟩
                · subst g; exact ⟨by omega, by omega⟩))
              clear hown9 hb9 hfin o9 hc9
              try simp only [Act.put, List.setIfInBounds_toArray, List.set_cons_zero, List.set_cons_succ, Nat.reduceAdd]
              iterate 2 ((refine rt_nx [] (v := ?_) rfl (by kernel_rfl) (fun _ _ _ h => h) rfl ?_ ?_; rotate_left; focus (intro W hW; (try dsimp only at hW); go_split_ands; go_simp; (try (simp (disch := omega) only [IntWalk.i64_in]; (try go_simp))); (try (split; (next => omega); (try go_simp))); try rfl; done)); try simp only [Act.put, List.setIfInBounds_toArray, List.set_cons_zero, List.set_cons_succ, Nat.reduceAdd])
              refine rt_kx (fun W => W.cell? ⟨q2, 0, none⟩ = some (.pointer (some ⟨p, 0, none⟩)) ∧ W.cell? ⟨p, 0, none⟩ = some (.slice A5 cut.length c5') ∧ W.cell? ⟨p, 2, none⟩ = some (.slice A7 st.after.length c7)) 14 (by kernel_rfl) t9 (fun _ h => h) rfl (by rfl) (fun K hK => ?_)
              go_simp
              refine hK _ _ ?_
              clear hK K
              try simp only [Act.put, List.setIfInBounds_toArray, List.set_cons_zero, List.set_cons_succ]
              refine rt_done (by kernel_rfl)  ?_
              go_wp2_with (with_reducible first | refine stop_append ?_ | refine stop_copy ?_ | refine stop_make ?_ | refine stop_lookup ?_ | refine stop_update ?_ | refine stop_slice ?_ | refine stop_range ?_ | refine stop_next ?_ | refine stop_convert ⟨_, rfl⟩ ?_ | refine stop_convertB ⟨_, _, _, rfl⟩ ?_ | refine stop_eqSlice ⟨_, _, rfl⟩ ?_)
              refine marks_ret1 hKf (results_tmp rfl _ _ _) ?_
              rw [hres.out]
              refine ⟨rfl, Hchg.out.trans' (chg_put (G := At D) rfl) (fun _ _ g => g) (fun k hk g => by simp only [At] at g; omega), ?_⟩
              obtain ⟨lv', rv', av', hv'⟩ := Hfin.out.1
              have hgp := grownBy_putObj' (w9.setCell ⟨p, 2, none⟩ (.slice A9 (st.after.length + 1) c9')) D (.deferred none)
              have := hv'.turn hgp (fun r e => by cases e; exact ⟨_, hKf, rfl⟩)
              exact Ord.top ⟨lv', rv', av', this⟩
      · have hk2 : (k == 1) = false := by simpa using hk
        have hres := Lib.hid (show addF st (n, k, cut, tag, t, u) = (⟨st.last, st.runs, st.after ++ [st.len]⟩, 0) by unfold addF; rw [if_pos ⟨Hb.out, Hn.out⟩, if_neg hk])
        clear hk
        obtain ⟨s12, _, s11, _, _, _, _, _⟩ := s1
        obtain ⟨lv, rv, av, hv⟩ := H.out.keepNo hcw1
        obtain ⟨A2, c2, rfl⟩ := hv.ra.slice
        have cp : w1.cell? ⟨p, 2, none⟩ = some (.slice A2 st.after.length c2) := cell_obj (i := 2) hv.obj rfl
        have ha1 := hv.hhi
        have hq2h : hi ≤ q2 := by obtain ⟨_, _, _, h⟩ := H.out; have := h.hhi; omega
        have hqp : q2 ≠ p := by omega
        go_wp2_with (with_reducible first | refine stop_append ?_ | refine stop_copy ?_ | refine stop_make ?_ | refine stop_lookup ?_ | refine stop_update ?_ | refine stop_slice ?_ | refine stop_range ?_ | refine stop_next ?_ | refine stop_convert ⟨_, rfl⟩ ?_ | refine stop_convertB ⟨_, _, _, rfl⟩ ?_ | refine stop_eqSlice ⟨_, _, rfl⟩ ?_)
        refine rt_start (fun W => W.cell? ⟨q2, 0, none⟩ = some (.pointer (some ⟨p, 0, none⟩)) ∧ W.cell? ⟨p, 2, none⟩ = some (.slice A2 st.after.length c2)) (by kernel_rfl) ?_
        iterate 6 ((refine rt_nx [] (v := ?_) rfl (by kernel_rfl) (fun _ _ _ h => h) rfl ?_ ?_; rotate_left; focus (intro W hW; (try dsimp only at hW); go_split_ands; go_simp; (try (simp (disch := omega) only [IntWalk.i64_in]; (try go_simp))); (try (split; (next => omega); (try go_simp))); try rfl; done)); try simp only [Act.put, List.setIfInBounds_toArray, List.set_cons_zero, List.set_cons_succ, Nat.reduceAdd])
        have t0 : (fun W => W.cell? ⟨q2, 0, none⟩ = some (.pointer (some ⟨p, 0, none⟩)) ∧ W.cell? ⟨p, 2, none⟩ = some (.slice A2 st.after.length c2)) w1.drew := ⟨s12, cp⟩
        refine rt_kx (fun W => W.cell? ⟨q2, 0, none⟩ = some (.pointer (some ⟨p, 0, none⟩)) ∧ W.cell? ⟨p, 2, none⟩ = some (.slice A2 st.after.length c2)) 6 (by kernel_rfl) t0 (fun _ h => h) rfl (by rfl) (fun K hK => ?_)
        go_simp
        refine (olen_any (H.out.keepNo hcw1.drew) HI.out).mono ?_
        rintro x w2 ⟨rfl, hc2⟩
        have hc2 : Chg No w1 w2 := (Chg.refl No w1).drew.trans hc2
        have t2 : (fun W => W.cell? ⟨q2, 0, none⟩ = some (.pointer (some ⟨p, 0, none⟩)) ∧ W.cell? ⟨p, 2, none⟩ = some (.slice A2 st.after.length c2)) w2 := ⟨hc2.cell s12 (not_no _), hc2.cell cp (not_no _)⟩
        refine hK _ _ ?_
        clear hK K
        try simp only [Act.put, List.setIfInBounds_toArray, List.set_cons_zero, List.set_cons_succ]
        refine rt_kx (fun W => W.cell? ⟨q2, 0, none⟩ = some (.pointer (some ⟨p, 0, none⟩)) ∧ W.cell? ⟨p, 2, none⟩ = some (.slice A2 st.after.length c2)) 7 (by kernel_rfl) t2 (fun _ h => h) rfl (by rfl) (fun K hK => ?_)
        go_simp
        refine hK _ _ ?_
        clear hK K
        try simp only [Act.put, List.setIfInBounds_toArray, List.set_cons_zero, List.set_cons_succ]
        have hc3 : Chg No w1 (w2.alloc (.cells #[.int .i64 st.len] 3)) := hc2.alloc _
        have t3 : (fun W => W.cell? ⟨q2, 0, none⟩ = some (.pointer (some ⟨p, 0, none⟩)) ∧ W.cell? ⟨p, 2, none⟩ = some (.slice A2 st.after.length c2)) (w2.alloc (.cells #[.int .i64 st.len] 3)) := ⟨hc3.cell s12 (not_no _), hc3.cell cp (not_no _)⟩
        have hv3 := hv.keep hc3 (fun _ f => f.elim)
        refine rt_append_row (α := Int) (fun W => W.cell? ⟨q2, 0, none⟩ = some (.pointer (some ⟨p, 0, none⟩)) ∧ W.cell? ⟨p, 2, none⟩ = some (.slice A2 st.after.length c2)) (i := 8) (by kernel_rfl) t3 (fun _ h => h) rfl rfl Try.underlying46 vinfo_int rfl hv3.ra rfl rfl (Sl.lit1 (F := No) (y := st.len) rfl rfl (not_no _)) (by simp) (by simp; omega) (by simp; omega) (by have := hv3.hp; have := hv3.hhi; omega) ?_
        intro v5 w5 hown5 hc5 hb5
        have t5 : (fun W => W.cell? ⟨q2, 0, none⟩ = some (.pointer (some ⟨p, 0, none⟩)) ∧ W.cell? ⟨p, 2, none⟩ = some (.slice A2 st.after.length c2)) w5 := ⟨hc5.cell t3.1 (fun g => g.2.1 (.inr (.inl hq2h))), hc5.cell t3.2 (fun g => g.2.1 (.inr (.inr (.inl rfl))))⟩
        have o5 := hc5.obj hv3.obj (fun g => g.2.1 (.inr (.inr (.inl rfl))))
        have f5 := free_obj (i := 2) o5
        have c5 := t5.2
        have hfin := hv3.app hown5 hc5 hb5
        obtain ⟨A5, c5', rfl⟩ := hown5.slice
        rw [show (st.after ++ [st.len]).length = st.after.length + 1 by simp] at hfin
        have Hfin := Lib.hid hfin
        clear hown5 hb5 hfin o5
        try simp only [Act.put, List.setIfInBounds_toArray, List.set_cons_zero, List.set_cons_succ, Nat.reduceAdd]
        iterate 2 ((refine rt_nx [] (v := ?_) rfl (by kernel_rfl) (fun _ _ _ h => h) rfl ?_ ?_; rotate_left; focus (intro W hW; (try dsimp only at hW); go_split_ands; go_simp; (try (simp (disch := omega) only [IntWalk.i64_in]; (try go_simp))); (try (split; (next => omega); (try go_simp))); try rfl; done)); try simp only [Act.put, List.setIfInBounds_toArray, List.set_cons_zero, List.set_cons_succ, Nat.reduceAdd])
        refine rt_kx (fun W => W.cell? ⟨q2, 0, none⟩ = some (.pointer (some ⟨p, 0, none⟩)) ∧ W.cell? ⟨p, 2, none⟩ = some (.slice A2 st.after.length c2)) 11 (by kernel_rfl) t5 (fun _ h => h) rfl (by rfl) (fun K hK => ?_)
        go_simp
        refine hK _ _ ?_
        clear hK K
        try simp only [Act.put, List.setIfInBounds_toArray, List.set_cons_zero, List.set_cons_succ]
        refine rt_done (by kernel_rfl)  ?_
        go_wp2_with (with_reducible first | refine stop_append ?_ | refine stop_copy ?_ | refine stop_make ?_ | refine stop_lookup ?_ | refine stop_update ?_ | refine stop_slice ?_ | refine stop_range ?_ | refine stop_next ?_ | refine stop_convert ⟨_, rfl⟩ ?_ | refine stop_convertB ⟨_, _, _, rfl⟩ ?_ | refine stop_eqSlice ⟨_, _, rfl⟩ ?_)
        refine marks_ret (results_tmp rfl _ _ _) ?_
        rw [hres.out]
        exact ⟨rfl, (hcw1.trans hc3).of_no.trans Hfin.out.2.1, Hfin.out.1⟩
    · have hn2 : (n != (st.after.length : Int) - 1 + 1) = true := by simp; omega
      have hn3 : (n == (st.after.length : Int)) = false := by simpa using hn
      have hres := Lib.hid (show addF st (n, k, cut, tag, t, u) = (st, 150) by unfold addF; rw [if_neg (fun h => hn h.2)])
      clear hn
      go_wp2_with (with_reducible first | refine stop_append ?_ | refine stop_copy ?_ | refine stop_make ?_ | refine stop_lookup ?_ | refine stop_update ?_ | refine stop_slice ?_ | refine stop_range ?_ | refine stop_next ?_ | refine stop_convert ⟨_, rfl⟩ ?_ | refine stop_convertB ⟨_, _, _, rfl⟩ ?_ | refine stop_eqSlice ⟨_, _, rfl⟩ ?_)
      refine marks_ret (results_tmp rfl _ _ _) ?_
      exact Hstay.out _ _ hcw1 hres.out
end Go.Proofs.Ytbjpoamnglfjeaa


/- Walks of package order and of its laws: entries in memory, mine, few, Of. -/
set_option linter.unusedVariables false
set_option linter.unusedSimpArgs false
namespace Go.Proofs.Ytbjpoamnglfjeaa
open Go.RowKit Cb

/-- An entry's cells. -/
def entC (e : Ent) (v : Value) : List Value := [.int .i64 e.1, .int .i64 e.2.1, v, .int .i64 e.2.2.2.1, .int .i64 e.2.2.2.2.1, .int .i64 e.2.2.2.2.2]
theorem ent_cs {F : Nat → Prop} {w : World} {e : Ent} {d : List Value} (h : Rep.cs F w e d) : ∃ v, d = entC e v ∧ Sl F w v e.2.2.1 := by
  obtain ⟨d1, d2, rfl, rfl, ⟨d3, d4, rfl, rfl, ⟨d5, d6, rfl, ⟨v, rfl, hv⟩, ⟨d7, d8, rfl, rfl, ⟨d9, d10, rfl, rfl, rfl⟩⟩⟩⟩⟩ := h
  exact ⟨v, rfl, hv⟩
theorem ent_mk {F : Nat → Prop} {w : World} (e : Ent) {v : Value} (h : Sl F w v e.2.2.1) : Rep.cs F w e (entC e v) :=
  ⟨[_], _, rfl, rfl, [_], _, rfl, rfl, [_], _, rfl, ⟨v, rfl, h⟩, [_], _, rfl, rfl, [_], [_], rfl, rfl, rfl⟩
theorem ent_n : Rep.n Ent = 6 := rfl
theorem info_ent : Info Try.prog 58 (.agg #[.int .i64 0, .int .i64 0, .slice none 0 0, .int .i64 0, .int .i64 0, .int .i64 0]) 6 64 := by unfold Info; kernel_rfl
/-- One entry of a row. -/
theorem ent_get {F : Nat → Prop} {w : World} {A : Option Addr} {n c : Nat} {l : List Ent} (h : Sl F w (.slice A n c) l) (k : Nat) (hk : k < l.length) :
    ∃ b o v, A = some ⟨b, o, none⟩ ∧ ¬ F b ∧ b < w.heap.size ∧ Sl F w v l[k].2.2.1 ∧ w.cell? ⟨b, o + k * 6, none⟩ = some (.int .i64 l[k].1) ∧ w.cell? ⟨b, o + k * 6 + 1, none⟩ = some (.int .i64 l[k].2.1) ∧ w.cell? ⟨b, o + k * 6 + 2, none⟩ = some v ∧
      w.cell? ⟨b, o + k * 6 + 3, none⟩ = some (.int .i64 l[k].2.2.2.1) ∧ w.cell? ⟨b, o + k * 6 + 4, none⟩ = some (.int .i64 l[k].2.2.2.2.1) ∧ w.cell? ⟨b, o + k * 6 + 5, none⟩ = some (.int .i64 l[k].2.2.2.2.2) := by
  obtain ⟨b, o, d, rfl, hF, hb, hd, ha⟩ := h.get k hk
  obtain ⟨v, rfl, hv⟩ := ent_cs hd
  exact ⟨b, o, v, rfl, hF, hb, hv, ha 0 _ rfl, ha 1 _ rfl, ha 2 _ rfl, ha 3 _ rfl, ha 4 _ rfl, ha 5 _ rfl⟩
theorem Sl.up {α : Type} [Rep α] {w : World} {v : Value} {xs : List α} (h : Sl No w v xs) {n : Nat} (hn : w.heap.size ≤ n) : Sl (Ge n) w v xs := h.weak (fun b hb g => by simp only [Ge] at g; omega)

def cutsB (l : List Ent) : Prop := ∀ e ∈ l, e.2.2.1.length * 8 ≤ 140737488355328
set_option maxRecDepth 100000 in
set_option maxHeartbeats 1000000 in
theorem oof_yes (n : Nat) (v : Value) (l : List Ent) (w : World) (h1 : 1 ≤ n) (h8 : n ≤ 8) (hs : Sl No w v l) (hl : l.length * 64 ≤ 140737488355328) (hcb : cutsB l) :
    Calls Try.prog 14 #[.int .i64 n, v] w fun e w' => ∃ p, e = .returned (.tuple #[.pointer (some ⟨p, 0, none⟩), .int .i64 (ofF (newF n) l).2]) ∧ Chg No w w' ∧ Ord w' w.heap.size w'.heap.size p (ofF (newF n) l).1 := by
  have H := Lib.hid (onew_yes n w h1 h8)
  have HI := Lib.hid (inv_new n h1 h8)
  have Hs := Lib.hid (Sl.up hs (Nat.le_refl _))
  have Hcb := Lib.hid hcb
  obtain ⟨A, c, rfl⟩ := hs.slice
  have hfin := Lib.hid (show ∀ k, k ≤ l.length → (ofF (newF n) (l.take k)).2 = k → (hlt : k < l.length) → (addF (ofF (newF n) (l.take k)).1 l[k]).2 ≠ 0 → ofF (newF n) l = ((ofF (newF n) (l.take k)).1, k) from fun k hk h2 hlt hne => by
    have e1 : l = l.take (k + 1) ++ l.drop (k + 1) := (List.take_append_drop _ _).symm
    have e2 : l.take (k + 1) = l.take k ++ [l[k]] := List.take_succ_eq_append_getElem hlt
    have e3 := of_snoc (o := newF n) (l := l.take k) (by rw [h2]; simp; omega) l[k]
    rw [if_neg hne] at e3
    have hlen : (l.take k).length = k := by simp; omega
    rw [← e2, hlen] at e3
    conv => lhs; rw [e1]
    rw [of_app_le (by rw [e3]; simp; omega), e3])
  clear hs hcb
  go_enter Try.func14, Try.ntmps14
  go_wp2_with (with_reducible first | refine stop_append ?_ | refine stop_copy ?_ | refine stop_make ?_ | refine stop_lookup ?_ | refine stop_update ?_ | refine stop_slice ?_ | refine stop_range ?_ | refine stop_next ?_ | refine stop_convert ⟨_, rfl⟩ ?_ | refine stop_convertB ⟨_, _, _, rfl⟩ ?_ | refine stop_eqSlice ⟨_, _, rfl⟩ ?_)
  refine H.out.mono ?_
  rintro e w1 ⟨p, rfl, hc, ho⟩
  have Ho := Lib.hid ho
  clear ho
  go_wp2_with (with_reducible first | refine stop_append ?_ | refine stop_copy ?_ | refine stop_make ?_ | refine stop_lookup ?_ | refine stop_update ?_ | refine stop_slice ?_ | refine stop_range ?_ | refine stop_next ?_ | refine stop_convert ⟨_, rfl⟩ ?_ | refine stop_convertB ⟨_, _, _, rfl⟩ ?_ | refine stop_eqSlice ⟨_, _, rfl⟩ ?_)
  go_loopw [8, 9, 19] (fun _ _ v19 wr => ∃ k : Nat, k ≤ l.length ∧ v19 = .int .i64 k ∧ Chg No w wr ∧ Ord wr w.heap.size wr.heap.size p (ofF (newF n) (l.take k)).1 ∧ (ofF (newF n) (l.take k)).2 = k) (fun _ _ v19 _ => l.length - (intOf v19).toNat)
  case atStart => exact ⟨0, by omega, rfl, hc, Ho.out, rfl⟩
  case round =>
    obtain ⟨k, hk, rfl, hc1, ho, h2⟩ := hrel
    have hI := inv_of HI.out (l.take k)
    by_cases hlt : k < l.length
    · have hgs : Sl (Ge w.heap.size) wr (.slice A l.length c) l := Hs.out.keepNo hc1
      obtain ⟨b, o, vc, rfl, hnb, hbl, hsv, a0, a1, a2, a3, a4, a5⟩ := ent_get hgs k hlt
      have hsn := of_snoc (o := newF n) (l := l.take k) (by rw [h2]; simp; omega) l[k]
      rw [← List.take_succ_eq_append_getElem hlt] at hsn
      have hst := hfin.out k hk h2 hlt
      have hcut := Hcb.out _ (List.getElem_mem hlt)
      have hlen : (l.take k).length = k := by simp; omega
      rw [hlen] at hsn
      clear hgs
      generalize l[k] = x at a0 a1 a2 a3 a4 a5 hsv hsn hst hcut
      generalize ofF (newF n) (l.take k) = st at *
      obtain ⟨st, j⟩ := st
      simp only at h2 hsn hst ho hI
      subst h2
      have hca := (Chg.refl No wr).alloc (.cells (entC x vc).toArray 58)
      have hadd := oadd_any (ho.keepNo hca).top hI x vc (hsv.keepNo hca) hcut
      obtain ⟨nn, kd, cut, tag, t, u⟩ := x
      obtain ⟨Av, cv, rfl⟩ := hsv.slice
      simp only [entC, entV] at a0 a1 a2 a3 a4 a5 hadd hca
      generalize haf : addF st (nn, kd, cut, tag, t, u) = r at *
      obtain ⟨st', code⟩ := r
      unfold AddPost at hadd
      have Hno := Lib.hid (show code ≠ 0 → st' = st from fun hne => by have := add_no (o := st) (e := (nn, kd, cut, tag, t, u)) (by rw [haf]; exact hne); rw [haf] at this; exact this)
      have Hadd := Lib.hid hadd
      have Hsn := Lib.hid hsn
      have Hst := Lib.hid hst
      clear hadd hsn hst haf hsv
      simp only at Hadd Hsn Hst
      by_cases hcd : code = 0
      · subst hcd
        go_wp2_with (with_reducible first | refine stop_append ?_ | refine stop_copy ?_ | refine stop_make ?_ | refine stop_lookup ?_ | refine stop_update ?_ | refine stop_slice ?_ | refine stop_range ?_ | refine stop_next ?_ | refine stop_convert ⟨_, rfl⟩ ?_ | refine stop_convertB ⟨_, _, _, rfl⟩ ?_ | refine stop_eqSlice ⟨_, _, rfl⟩ ?_)
        refine Hadd.out.mono ?_
        rintro e w2 ⟨rfl, hc2, ho2⟩
        have hcw : Chg No w w2 := (hc1.trans hca).old hc2 (fun i hi => hi.1)
        have Ho2 := Lib.hid ho2
        clear ho2
        go_wp2_with (with_reducible first | refine stop_append ?_ | refine stop_copy ?_ | refine stop_make ?_ | refine stop_lookup ?_ | refine stop_update ?_ | refine stop_slice ?_ | refine stop_range ?_ | refine stop_next ?_ | refine stop_convert ⟨_, rfl⟩ ?_ | refine stop_convertB ⟨_, _, _, rfl⟩ ?_ | refine stop_eqSlice ⟨_, _, rfl⟩ ?_)
        go_roundw
        case rel => exact ⟨j + 1, by omega, by go_num, hcw, by rw [Hsn.out]; exact Ho2.out, by rw [Hsn.out]; rfl⟩
        case measure => simp [intOf]; omega
      · have hcd2 : (code != 0) = true := by simpa using hcd
        have hcd3 : (code == 0) = false := by simpa using hcd
        have Hcd := Lib.hid hcd
        clear hcd
        go_wp2_with (with_reducible first | refine stop_append ?_ | refine stop_copy ?_ | refine stop_make ?_ | refine stop_lookup ?_ | refine stop_update ?_ | refine stop_slice ?_ | refine stop_range ?_ | refine stop_next ?_ | refine stop_convert ⟨_, rfl⟩ ?_ | refine stop_convertB ⟨_, _, _, rfl⟩ ?_ | refine stop_eqSlice ⟨_, _, rfl⟩ ?_)
        refine Hadd.out.mono ?_
        rintro e w2 ⟨rfl, hc2, ho2⟩
        have hcw : Chg No w w2 := (hc1.trans hca).old hc2 (fun i hi => hi.1)
        have Ho2 := Lib.hid ho2
        clear ho2
        go_wp2_with (with_reducible first | refine stop_append ?_ | refine stop_copy ?_ | refine stop_make ?_ | refine stop_lookup ?_ | refine stop_update ?_ | refine stop_slice ?_ | refine stop_range ?_ | refine stop_next ?_ | refine stop_convert ⟨_, rfl⟩ ?_ | refine stop_convertB ⟨_, _, _, rfl⟩ ?_ | refine stop_eqSlice ⟨_, _, rfl⟩ ?_)
        go_ret2
        exact ⟨p, by rw [Hst.out Hcd.out]; rfl, hcw, by rw [Hst.out Hcd.out, ← Hno.out Hcd.out]; exact Ho2.out⟩
    · obtain rfl : k = l.length := by omega
      rw [List.take_length] at ho h2
      have Ho2 := Lib.hid ho
      have H2 := Lib.hid h2
      clear ho h2
      go_wp2_with (with_reducible first | refine stop_append ?_ | refine stop_copy ?_ | refine stop_make ?_ | refine stop_lookup ?_ | refine stop_update ?_ | refine stop_slice ?_ | refine stop_range ?_ | refine stop_next ?_ | refine stop_convert ⟨_, rfl⟩ ?_ | refine stop_convertB ⟨_, _, _, rfl⟩ ?_ | refine stop_eqSlice ⟨_, _, rfl⟩ ?_)
      go_ret2
      exact ⟨_, by rw [H2.out]; rfl, hc1, Ho2.out⟩
end Go.Proofs.Ytbjpoamnglfjeaa


/- Maps: what a map holds, in the order in which its keys came; lookup, store, delete, len. They speak of no program. -/
set_option linter.unusedVariables false
set_option linter.unusedSimpArgs false
namespace Cb
open Go
variable {κ : Type} {β : Type} {P : Program} {w : World}

/-- Block r is a map that holds these keys and values. -/
def MapAt (w : World) (r : Nat) (kv : κ → Value) (vv : β → Value) (m : List (κ × β)) : Prop :=
  ∃ (es : Array MapEntry) (clk : Nat), w.heap[r]? = some (.map es clk) ∧ es.toList.map (fun e => (e.key, e.val)) = m.map (fun x => (kv x.1, vv x.2)) ∧
    es.toList.Pairwise (fun a b => a.born < b.born) ∧ ∀ e ∈ es.toList, e.born < clk
theorem MapAt.keep {kv : κ → Value} {vv : β → Value} {m : List (κ × β)} {F : Nat → Prop} {w' : World} {r : Nat} (h : MapAt w r kv vv m) (hc : Chg F w w') (hF : ¬ F r) : MapAt w' r kv vv m := by
  obtain ⟨es, clk, hh, h⟩ := h
  exact ⟨es, clk, hc.obj hh hF, h⟩
theorem MapAt.lt {kv : κ → Value} {vv : β → Value} {m : List (κ × β)} {r : Nat} (h : MapAt w r kv vv m) : r < w.heap.size := by
  obtain ⟨es, clk, hh, _⟩ := h; exact lt_of_heap hh
theorem MapAt.made (w : World) (kv : κ → Value) (vv : β → Value) : MapAt (w.alloc (.map #[] 0)) w.heap.size kv vv [] :=
  ⟨#[], 0, alloc_obj _ _, rfl, List.Pairwise.nil, fun _ h => by simp at h⟩

/-- What the model asks of keys of one type, all answered. -/
structure KeyLaw [DecidableEq κ] (P : Program) (K : TypeId) (kv : κ → Value) : Prop where
  check : ∀ b k w, (Instr.checkKey b 10000 K (kv k)).run P w = .ok () w
  same : ∀ k, Instr.sameBits 10000 (kv k) (kv k) = true
  find : ∀ k (ks : List κ) (es : List MapEntry) w, es.map (·.key) = ks.map kv → (Instr.findKey K (kv k) es).run P w = .ok ((ks.findIdx? (fun x => decide (x = k))).map (fun i => (i, (es.getD i default).val))) w

def mget [DecidableEq κ] (m : List (κ × β)) (k : κ) : Option β := (m.find? (fun x => decide (x.1 = k))).map (·.2)
def mset [DecidableEq κ] : List (κ × β) → κ → β → List (κ × β)
  | [], k, b => [(k, b)]
  | x :: m, k, b => if x.1 = k then (k, b) :: m else x :: mset m k b
theorem mget_mset [DecidableEq κ] (m : List (κ × β)) (k k' : κ) (b : β) : mget (mset m k b) k' = if k' = k then some b else mget m k' := by
  induction m with
  | nil => simp only [mset, mget, List.find?_cons, List.find?_nil]; by_cases h : k = k'; subst h; simp; rw [if_neg (fun e => h e.symm)]; simp [h]
  | cons x m ih =>
    obtain ⟨a, c⟩ := x
    simp only [mset]
    by_cases h : a = k
    · subst h
      rw [if_pos rfl]
      simp only [mget, List.find?_cons]
      by_cases h' : a = k'
      · subst h'; simp
      · rw [if_neg (fun e => h' e.symm)]; simp [h']
    · rw [if_neg h]
      simp only [mget, List.find?_cons] at ih ⊢
      by_cases h' : a = k'
      · subst h'; simp [h]
      · simpa [h'] using ih

theorem findIdx_mget [DecidableEq κ] (m : List (κ × β)) (k : κ) : ((m.map (·.1)).findIdx? (fun x => decide (x = k))) = none ∧ mget m k = none ∨
    ∃ i b, (m.map (·.1)).findIdx? (fun x => decide (x = k)) = some i ∧ m[i]? = some (k, b) ∧ mget m k = some b ∧ mset m k = fun c => m.set i (k, c) := by
  induction m with
  | nil => left; simp [mget]
  | cons x m ih =>
    obtain ⟨a, c⟩ := x
    by_cases h : a = k
    · right
      subst h
      exact ⟨0, c, by simp [List.findIdx?_cons], rfl, by simp [mget], by funext d; simp [mset]⟩
    · rcases ih with ⟨h1, h2⟩ | ⟨i, b, h1, h2, h3, h4⟩
      · left
        simp only [List.map_cons, List.findIdx?_cons, h, decide_false, Bool.false_eq_true, if_false, h1, mget, List.find?_cons] at h2 ⊢
        exact ⟨rfl, h2⟩
      · right
        refine ⟨i + 1, b, ?_, by simpa using h2, ?_, ?_⟩
        · simp only [List.map_cons, List.findIdx?_cons, h, decide_false, Bool.false_eq_true, if_false, h1]; rfl
        · simp only [mget, List.find?_cons, h, decide_false] at h3 ⊢; exact h3
        · funext d; simp only [mset, h, if_false, List.set_cons_succ, h4]
theorem mset_new [DecidableEq κ] (m : List (κ × β)) (k : κ) (b : β) (h : mget m k = none) : mset m k b = m ++ [(k, b)] := by
  induction m with
  | nil => rfl
  | cons x m ih =>
    obtain ⟨a, c⟩ := x
    by_cases h' : a = k
    · subst h'; simp [mget] at h
    · simp only [mget, List.find?_cons, h', decide_false] at h
      simp only [mset, h', if_false, List.cons_append]; rw [ih h]

theorem keyLaw_int {K : TypeId} {q : IntKind} (hK : P.underlying K = some (.int q)) : KeyLaw P K (Value.int q) where
  check b k w := by rw [show (10000 : Nat) = 9999 + 1 from rfl, Instr.checkKey]; simp only [Sem.run_bind, run_underlying hK, Result.andThen_ok, Sem.run_pure]
  same k := by rw [show (10000 : Nat) = 9999 + 1 from rfl]; simp only [Instr.sameBits, beq_self_eq_true, Bool.and_self]
  find k ks es w he := by
    have key : ∀ (es : List MapEntry) (ks : List Int) (i : Nat), es.map (·.key) = ks.map (Value.int q) →
        Instr.findNow (.int q) (.int q k) es i = some ((ks.findIdx? (fun x => decide (x = k))).map (fun j => (i + j, (es.getD j default).val))) := by
      intro es
      induction es with
      | nil => intro ks i h; obtain rfl : ks = [] := by simpa using h.symm
               simp [Instr.findNow]
      | cons e es ih =>
        intro ks i h
        cases ks with
        | nil => simp at h
        | cons x ks =>
          simp only [List.map_cons, List.cons.injEq] at h
          simp only [Instr.findNow, h.1, Instr.sameNow, if_true]
          by_cases hx : x = k
          · subst hx; simp [List.findIdx?_cons]
          · have : (k == x) = false := by simp; exact fun h => hx h.symm
            rw [this]; simp only
            rw [ih ks (i + 1) h.2]
            simp only [List.findIdx?_cons, hx, decide_false, Bool.false_eq_true, if_false, Option.map_map]
            congr 1
            cases ks.findIdx? (fun x => decide (x = k)) with
            | none => rfl
            | some j => simp; omega
    simp only [Instr.findKey, Sem.run_bind, run_underlying hK, Result.andThen_ok, key es ks 0 he]
    simp

theorem run_getObj {r : Nat} {es : Array MapEntry} {clk : Nat} (h : w.heap[r]? = some (.map es clk)) : (getObj r).run P w = .ok (.map es clk) w := by
  unfold getObj; simp only [Sem.run, h]
theorem run_setObj {r : Nat} {es : Array MapEntry} {clk : Nat} (h : w.heap[r]? = some (.map es clk)) (o : Obj) : (setObj r o).run P w = .ok () { w with heap := w.heap.setIfInBounds r o } := by
  unfold setObj; simp only [Sem.run, h]
/-- v, ok := m[k] and v := m[k]. -/
theorem run_lookup [DecidableEq κ] {T K E : TypeId} {kv : κ → Value} {vv : β → Value} {m : List (κ × β)} {r : Nat} {z : Value} (KL : KeyLaw P K kv) (hT : P.underlying T = some (.map K E)) (hz : (P.info? E).bind (·.zero) = some z)
    (h : MapAt w r kv vv m) (k : κ) (ok : Bool) :
    (Instr.lookup T (.map (some r)) (kv k) ok).run P w = .ok (if ok then .tuple #[((mget m k).map vv).getD z, .bool (mget m k).isSome] else ((mget m k).map vv).getD z) w := by
  obtain ⟨es, clk, hh, hm, _⟩ := h
  have hk : es.toList.map (·.key) = (m.map (·.1)).map kv := by
    have := congrArg (List.map (·.1)) hm; simpa [List.map_map, Function.comp_def] using this
  have hf := KL.find k (m.map (·.1)) es.toList w hk
  have hzero : (zeroValue E).run P w = .ok z w := by
    cases hi : P.info? E with
    | none => simp [hi] at hz
    | some i => simp [hi] at hz; simp [zeroValue, typeInfo, hi, hz]
  rcases findIdx_mget m k with ⟨h1, h2⟩ | ⟨i, b, h1, h2, h3, _⟩
  · rw [h1] at hf
    cases ok <;> simp only [Instr.lookup, Sem.run_bind, run_underlying hT, Result.andThen_ok, run_getObj hh, Sem.run_pure, KL.check, hf, hzero, h2, Option.map_none, Option.getD_none, Option.isSome_none, if_true, Bool.false_eq_true, if_false]
  · rw [h1] at hf
    have hv : (es.toList.getD i default).val = vv b := by
      have := congrArg (fun l => l[i]?) hm
      simp only [List.getElem?_map, h2, Option.map_some] at this
      cases he : es.toList[i]? with
      | none => rw [he] at this; simp at this
      | some e =>
        rw [he] at this
        simp only [Option.map_some, Option.some.injEq, Prod.mk.injEq] at this
        rw [List.getD_eq_getElem?_getD, he]; exact this.2
    rw [Option.map_some, hv] at hf
    cases ok <;> simp only [Instr.lookup, Sem.run_bind, run_underlying hT, Result.andThen_ok, run_getObj hh, Sem.run_pure, KL.check, hf, h3, Option.map_some, Option.getD_some, Option.isSome_some, if_true, Bool.false_eq_true, if_false]

/-- m[k] = v. -/
theorem run_update [DecidableEq κ] {T K E : TypeId} {kv : κ → Value} {vv : β → Value} {m : List (κ × β)} {r : Nat} (KL : KeyLaw P K kv) (hT : P.underlying T = some (.map K E))
    (h : MapAt w r kv vv m) (k : κ) (b : β) :
    ∃ w', (Instr.mapUpdate T (.map (some r)) (kv k) (vv b)).run P w = .ok () w' ∧ MapAt w' r kv vv (mset m k b) ∧ Chg (At r) w w' := by
  obtain ⟨es, clk, hh, hm, hb, hc⟩ := h
  have hk : es.toList.map (·.key) = (m.map (·.1)).map kv := by
    have := congrArg (List.map (·.1)) hm; simpa [List.map_map, Function.comp_def] using this
  have hf := KL.find k (m.map (·.1)) es.toList w hk
  have hlt := lt_of_heap hh
  have hchg : ∀ o, Chg (At r) w { w with heap := w.heap.setIfInBounds r o } := fun o =>
    ⟨rfl, rfl, rfl, by simp, fun i _ hn => by simp only [Array.getElem?_setIfInBounds]; rw [if_neg (fun e => hn e.symm)]⟩
  have hat : ∀ o, ({ w with heap := w.heap.setIfInBounds r o } : World).heap[r]? = some o := fun o => by
    simp [hlt]
  rcases findIdx_mget m k with ⟨h1, h2⟩ | ⟨i, c, h1, h2, h3, h4⟩
  · rw [h1] at hf
    refine ⟨_, by simp only [Instr.mapUpdate, Sem.run_bind, run_underlying hT, Result.andThen_ok, run_getObj hh, KL.check, hf, Option.map_none, run_setObj hh]; rfl, ⟨_, _, hat _, ?_, ?_, ?_⟩, hchg _⟩
    · rw [mset_new m k b h2]; simp [hm]
    · simp only [Array.toList_push, List.pairwise_append, List.pairwise_cons, List.mem_singleton]
      exact ⟨hb, ⟨by simp, List.Pairwise.nil⟩, fun a ha x hx => by subst hx; exact hc a ha⟩
    · intro e he
      simp only [Array.toList_push, List.mem_append, List.mem_singleton] at he
      rcases he with he | rfl
      · have := hc e he; omega
      · simp
  · rw [h1] at hf
    have hei : ∃ e, es.toList[i]? = some e ∧ e.key = kv k := by
      have := congrArg (fun l => l[i]?) hm
      simp only [List.getElem?_map, h2, Option.map_some] at this
      cases he : es.toList[i]? with
      | none => rw [he] at this; simp at this
      | some e =>
        rw [he] at this
        simp only [Option.map_some, Option.some.injEq, Prod.mk.injEq] at this
        exact ⟨e, rfl, this.1⟩
    obtain ⟨e, he, hek⟩ := hei
    have hea : es[i]? = some e := by simpa using he
    refine ⟨_, by simp only [Instr.mapUpdate, Sem.run_bind, run_underlying hT, Result.andThen_ok, run_getObj hh, KL.check, hf, Option.map_some, Instr.keyThatStays, hea, hek, Option.getD_some, KL.same, if_true, Sem.run_pure, run_setObj hh]; rfl, ⟨_, _, hat _, ?_, ?_, ?_⟩, hchg _⟩
    · rw [h4]
      have hset : (es.modify i fun e => { e with key := kv k, val := vv b }).toList = es.toList.set i { e with key := kv k, val := vv b } := by
        apply List.ext_getElem?
        intro j
        simp only [Array.getElem?_toList, Array.getElem?_modify, List.getElem?_set]
        by_cases hij : i = j
        · subst hij
          have : i < es.toList.length := (List.getElem?_eq_some_iff.1 he).1
          simp [hea, this]
          simpa using this
        · simp [hij]
      rw [hset, List.map_set, hm, List.map_set]
    · have hset : (es.modify i fun e => { e with key := kv k, val := vv b }).toList.map (·.born) = es.toList.map (·.born) := by
        apply List.ext_getElem?
        intro j
        simp only [List.getElem?_map, Array.getElem?_toList, Array.getElem?_modify]
        split <;> simp
        cases es[j]? <;> rfl
      have h' : ∀ (l : List MapEntry), l.Pairwise (fun a b => a.born < b.born) ↔ (l.map (·.born)).Pairwise (· < ·) := fun l => by rw [List.pairwise_map]
      rw [h', hset, ← h']; exact hb
    · intro x hx
      have hmem : x.born ∈ (es.modify i fun e => { e with key := kv k, val := vv b }).toList.map (·.born) := List.mem_map.2 ⟨x, hx, rfl⟩
      have hset : (es.modify i fun e => { e with key := kv k, val := vv b }).toList.map (·.born) = es.toList.map (·.born) := by
        apply List.ext_getElem?
        intro j
        simp only [List.getElem?_map, Array.getElem?_toList, Array.getElem?_modify]
        split <;> simp
        cases es[j]? <;> rfl
      rw [hset] at hmem
      obtain ⟨y, hy, e⟩ := List.mem_map.1 hmem
      rw [← e]; exact hc y hy

section
variable {Q : Exit → Act → World → Prop} {a : Act} {OPS : Array Oper} {rest : List Oper}
theorem step_unit {o : Oper} {w' : World} (hg : o.guard = none) (hr : (execOp a.eval o).run P w = .ok .skip w')
    (h : wpList P OPS Q rest (a.put o.dst undef) w') : wpList P OPS Q (o :: rest) a w :=
  wpList_plain hg fun K hK => by unfold Oper.wp; rw [hr]; exact hK _ _ h
theorem run_update_op [DecidableEq κ] {o : Oper} {x y v : Operand} {T K E : TypeId} {kv : κ → Value} {vv : β → Value} {m : List (κ × β)} {r : Nat} (ho : o.op = .mapUpdate T x y v)
    (KL : KeyLaw P K kv) (hT : P.underlying T = some (.map K E)) (h : MapAt w r kv vv m) (k : κ) (b : β) (hx : a.eval x = .map (some r)) (hy : a.eval y = kv k) (hv : a.eval v = vv b) :
    ∃ w', (execOp a.eval o).run P w = .ok .skip w' ∧ MapAt w' r kv vv (mset m k b) ∧ Chg (At r) w w' := by
  obtain ⟨w', hr, h1, h2⟩ := run_update KL hT h k b
  exact ⟨w', by simp only [execOp, ho, hx, hy, hv, Sem.run_bind, hr, Result.andThen_ok, Sem.run_pure], h1, h2⟩
theorem step_update [DecidableEq κ] {d : Option Tmp} {x y v : Operand} {ty T K E : TypeId} {p : String} {af : Array Edge} {kv : κ → Value} {vv : β → Value} {m : List (κ × β)} {r : Nat}
    (KL : KeyLaw P K kv) (hT : P.underlying T = some (.map K E)) (h : MapAt w r kv vv m) (k : κ) (b : β) (hx : a.eval x = .map (some r)) (hy : a.eval y = kv k) (hv : a.eval v = vv b)
    (hk : ∀ w', MapAt w' r kv vv (mset m k b) → Chg (At r) w w' → wpList P OPS Q rest (a.put d undef) w') :
    Stop (wpList P OPS Q (⟨d, .mapUpdate T x y v, ty, p, af, none⟩ :: rest) a w) := by
  obtain ⟨w', hr, h1, h2⟩ := run_update_op (a := a) (o := ⟨d, .mapUpdate T x y v, ty, p, af, none⟩) rfl KL hT h k b hx hy hv
  exact step_unit rfl hr (hk w' h1 h2)
end
section
variable {ops : Array Oper} {Q : Exit → Act → World → Prop} {S : World → Prop} {fuel : Nat} {listed : Array Bool} {a : Act}
theorem rt_unit (S' : World → Prop) {i : Nat} {oi : Oper} {w' : World} (hr : Region.ready .any ops listed = [i]) (hS : S w) (hSS : ∀ w, S' w → S w) (hi : ops[i]? = some oi) (hw : Region.wanted oi (yielded ops a.tmps) = true)
    (hrun : (execOp a.eval oi).run P w = .ok .skip w') (h : RT P ops Q S' fuel (listed.setIfInBounds i true) (a.put oi.dst undef) w') : RT P ops Q S (fuel + 1) listed a w :=
  rt_e S' hr hS hSS hi hw (by unfold Oper.wp; rw [hrun]; exact h)
theorem rt_update [DecidableEq κ] (S' : World → Prop) {i : Nat} {d : Option Tmp} {x y v : Operand} {ty T K E : TypeId} {p : String} {af : Array Edge} {gd : Option (Nat × Bool)} {kv : κ → Value} {vv : β → Value} {m : List (κ × β)} {r : Nat}
    (hr : Region.ready .any ops listed = [i]) (hS : S w) (hSS : ∀ w, S' w → S w) (hi : ops[i]? = some ⟨d, .mapUpdate T x y v, ty, p, af, gd⟩) (hw : Region.wanted ⟨d, .mapUpdate T x y v, ty, p, af, gd⟩ (yielded ops a.tmps) = true)
    (KL : KeyLaw P K kv) (hT : P.underlying T = some (.map K E)) (h : MapAt w r kv vv m) (k : κ) (b : β) (hx : a.eval x = .map (some r)) (hy : a.eval y = kv k) (hv : a.eval v = vv b)
    (hk : ∀ w', MapAt w' r kv vv (mset m k b) → Chg (At r) w w' → RT P ops Q S' fuel (listed.setIfInBounds i true) (a.put d undef) w') : RT P ops Q S (fuel + 1) listed a w := by
  obtain ⟨w', hrun, h1, h2⟩ := run_update_op (a := a) (o := ⟨d, .mapUpdate T x y v, ty, p, af, gd⟩) rfl KL hT h k b hx hy hv
  exact rt_unit S' hr hS hSS hi hw hrun (hk w' h1 h2)
end
end Cb


/- Walks of package term: which nodes are unlike, which configurations may be. -/
set_option linter.unusedVariables false
set_option linter.unusedSimpArgs false
namespace Go.Proofs.Ytbjpoamnglfjeaa
open Go.RowKit Cb

def NodesP (xs : List Int) : Prop := (∀ x ∈ xs, 0 ≤ x ∧ x < 16) ∧ xs.Nodup
instance (xs : List Int) : Decidable (NodesP xs) := by unfold NodesP; exact inferInstance
def nodesB (xs : List Int) : Bool := decide (NodesP xs)
theorem nodes_nil : nodesB [] = true := by simp [nodesB, NodesP]
theorem nodes_out {xs : List Int} {x : Int} (h : x ∈ xs) (hx : ¬ (0 ≤ x ∧ x < 16)) : nodesB xs = false := decide_eq_false (fun hp => hx (hp.1 x h))
theorem nodes_dup {xs : List Int} {k : Nat} (hk : k < xs.length) (h : xs[k] ∈ xs.take k) : nodesB xs = false := decide_eq_false (fun hp => by
  obtain ⟨i, hi, e⟩ := List.mem_iff_getElem.1 h
  rw [List.length_take] at hi
  rw [List.getElem_take] at e
  exact (List.pairwise_iff_getElem.1 (List.nodup_iff_pairwise_ne.1 hp.2)) i k (by omega) hk (by omega) e)
theorem nodes_step {xs : List Int} {k : Nat} (hk : k < xs.length) (h : nodesB (xs.take k) = true) (hx : 0 ≤ xs[k] ∧ xs[k] < 16) (hn : xs[k] ∉ xs.take k) : nodesB (xs.take (k + 1)) = true := by
  obtain ⟨h1, h2⟩ := of_decide_eq_true h
  refine decide_eq_true ⟨?_, ?_⟩
  · rw [List.take_succ_eq_append_getElem hk]
    intro x hx'
    rcases List.mem_append.1 hx' with h' | h'
    · exact h1 x h'
    · rw [List.mem_singleton.1 h']; exact hx
  · rw [List.take_succ_eq_append_getElem hk, List.nodup_append]
    refine ⟨h2, by simp, ?_⟩
    intro a ha b hb
    rw [List.mem_singleton.1 hb]
    intro e
    rw [e] at ha
    exact hn ha
theorem intT_get {F : Nat → Prop} {w : World} {A : Option Addr} {n c : Nat} {l : List Int} (h : Sl F w (.slice A n c) l) (k : Nat) (hk : k < l.length) :
    ∃ b o, A = some ⟨b, o, none⟩ ∧ ¬ F b ∧ b < w.heap.size ∧ w.cell? ⟨b, o + k, none⟩ = some (.int .i64 l[k]) := by
  obtain ⟨b, o, d, rfl, hF, hb, rfl, ha⟩ := h.get k hk
  refine ⟨b, o, rfl, hF, hb, ?_⟩
  have := ha 0 _ rfl
  simpa [show Rep.n Int = 1 from rfl] using this
theorem rowT_get {F : Nat → Prop} {w : World} {A : Option Addr} {n c : Nat} {l : List (List Int)} (h : Sl F w (.slice A n c) l) (k : Nat) (hk : k < l.length) :
    ∃ b o v, A = some ⟨b, o, none⟩ ∧ ¬ F b ∧ b < w.heap.size ∧ w.cell? ⟨b, o + k, none⟩ = some v ∧ Sl F w v l[k] := by
  obtain ⟨b, o, d, rfl, hF, hb, ⟨v, rfl, hv⟩, ha⟩ := h.get k hk
  refine ⟨b, o, v, rfl, hF, hb, ?_, hv⟩
  have := ha 0 _ rfl
  simpa [show Rep.n (List Int) = 1 from rfl] using this
theorem klN : KeyLaw Try.prog 3 (Value.int .i64) := keyLaw_int Try.underlying3
theorem zBoolN : (Try.prog.info? 4).bind (·.zero) = some (.bool false) := by kernel_rfl
def MetP (m : List (Int × Bool)) (xs : List Int) : Prop := ∀ x, (mget m x).getD false = decide (x ∈ xs)
theorem met_nil : MetP [] [] := fun x => by simp [mget]
theorem met_set {m : List (Int × Bool)} {xs : List Int} (h : MetP m xs) (y : Int) : MetP (mset m y true) (xs ++ [y]) := fun x => by
  rw [mget_mset]
  split
  · rename_i e; subst e; simp
  · rename_i e; rw [h x]; simp [e]
theorem run_met {w : World} {r : Nat} {m : List (Int × Bool)} {xs : List Int} (h : MapAt w r (.int .i64) .bool m) (hm : MetP m xs) (x : Int) :
    (Instr.lookup 173 (.map (some r)) (.int .i64 x) false).run Try.prog w = .ok (.bool (decide (x ∈ xs))) w := by
  have := run_lookup klN Try.underlying173 zBoolN h x false
  rw [this, ← hm x]
  cases mget m x <;> rfl
set_option maxRecDepth 100000 in
set_option maxHeartbeats 1000000 in
theorem tunlike_any (F : Nat → Prop) (v : Value) (xs : List Int) (w : World) (hs : Sl F w v xs) (hl : xs.length * 8 ≤ 140737488355328) :
    Calls Try.prog 84 #[v] w fun e w' => e = .returned (.bool (nodesB xs)) ∧ Chg No w w' := by
  have Hs := Lib.hid (fun W (hW : Chg No w W) => hs.keepNo hW)
  obtain ⟨A, c, rfl⟩ := hs.slice
  clear hs
  have hmm := @run_makeMap Try.prog
  go_enter Try.func84, Try.ntmps84
  go_wp2_with (with_reducible first | refine stop_append ?_ | refine stop_copy ?_ | refine stop_make ?_ | refine stop_lookup ?_ | refine stop_update ?_ | refine stop_slice ?_ | refine stop_range ?_ | refine stop_next ?_ | refine stop_convert ⟨_, rfl⟩ ?_ | refine stop_convertB ⟨_, _, _, rfl⟩ ?_ | refine stop_eqSlice ⟨_, _, rfl⟩ ?_)
  have hm0 := MapAt.made w (.int .i64) Value.bool (κ := Int) (β := Bool)
  have hc0 := (Chg.refl No w).alloc (.map #[] 0)
  generalize w.alloc (.map #[] 0) = w0 at *
  obtain ⟨r, hr⟩ : ∃ r, r = w.heap.size := ⟨_, rfl⟩
  rw [← hr] at hm0 ⊢
  have Hr := Lib.hid hr
  clear hr hmm
  go_loopw [9] (fun v9 wr => ∃ (k : Nat) (m : List (Int × Bool)), k ≤ xs.length ∧ v9 = .int .i64 k ∧ Chg No w wr ∧ MapAt wr r (.int .i64) .bool m ∧ MetP m (xs.take k) ∧ nodesB (xs.take k) = true) (fun v9 _ => xs.length - (intOf v9).toNat)
  case atStart => exact ⟨0, [], by omega, rfl, hc0, hm0, by simpa using met_nil, by simpa using nodes_nil⟩
  case round =>
    obtain ⟨k, m, hk, rfl, hc, hmap, hmet, hnod⟩ := hrel
    have Hnod := Lib.hid hnod
    clear hnod hm0
    by_cases hlt : k < xs.length
    · obtain ⟨b, o, rfl, _, hbl, hx0⟩ := intT_get (Hs.out wr hc) k hlt
      have hlook := run_met hmap hmet xs[k]
      have Hmap := Lib.hid hmap
      have Hmet := Lib.hid (met_set hmet xs[k])
      rw [← List.take_succ_eq_append_getElem hlt] at Hmet
      have Hbad := Lib.hid (fun h => nodes_out (List.getElem_mem hlt) h)
      have Hdup := Lib.hid (nodes_dup hlt)
      have Hgo := Lib.hid (nodes_step hlt Hnod.out)
      clear hmap hmet
      by_cases hin : xs[k] ∈ xs.take k
      · rw [decide_eq_true hin] at hlook
        have hd := Hdup.out hin
        clear Hbad Hdup Hgo Hnod
        generalize xs[k] = x at *
        have Hd := Lib.hid hd
        clear hd hin
        rcases (show x < 0 ∨ (¬ x < 0 ∧ 16 ≤ x) ∨ (¬ x < 0 ∧ ¬ 16 ≤ x) by omega) with h | ⟨h, h2⟩ | ⟨h, h2⟩
        · go_wp2_with (with_reducible first | refine stop_append ?_ | refine stop_copy ?_ | refine stop_make ?_ | refine stop_update ?_ | refine stop_slice ?_ | refine stop_range ?_ | refine stop_next ?_ | refine stop_convert ⟨_, rfl⟩ ?_ | refine stop_convertB ⟨_, _, _, rfl⟩ ?_ | refine stop_eqSlice ⟨_, _, rfl⟩ ?_)
          go_ret
          exact ⟨by rw [Hd.out]; rfl, hc⟩
        · go_wp2_with (with_reducible first | refine stop_append ?_ | refine stop_copy ?_ | refine stop_make ?_ | refine stop_update ?_ | refine stop_slice ?_ | refine stop_range ?_ | refine stop_next ?_ | refine stop_convert ⟨_, rfl⟩ ?_ | refine stop_convertB ⟨_, _, _, rfl⟩ ?_ | refine stop_eqSlice ⟨_, _, rfl⟩ ?_)
          go_ret
          exact ⟨by rw [Hd.out]; rfl, hc⟩
        · go_wp2_with (with_reducible first | refine stop_append ?_ | refine stop_copy ?_ | refine stop_make ?_ | refine stop_update ?_ | refine stop_slice ?_ | refine stop_range ?_ | refine stop_next ?_ | refine stop_convert ⟨_, rfl⟩ ?_ | refine stop_convertB ⟨_, _, _, rfl⟩ ?_ | refine stop_eqSlice ⟨_, _, rfl⟩ ?_)
          go_ret
          exact ⟨by rw [Hd.out]; rfl, hc⟩
      · rw [decide_eq_false hin] at hlook
        have hgo := fun h => Hgo.out h hin
        have hbad := Hbad.out
        clear Hbad Hdup Hgo Hnod hin
        generalize xs[k] = x at *
        have Hgo := Lib.hid hgo
        have Hbad := Lib.hid hbad
        clear hgo hbad
        rcases (show x < 0 ∨ (¬ x < 0 ∧ 16 ≤ x) ∨ (¬ x < 0 ∧ ¬ 16 ≤ x) by omega) with h | ⟨h, h2⟩ | ⟨h, h2⟩
        · go_wp2_with (with_reducible first | refine stop_append ?_ | refine stop_copy ?_ | refine stop_make ?_ | refine stop_update ?_ | refine stop_slice ?_ | refine stop_range ?_ | refine stop_next ?_ | refine stop_convert ⟨_, rfl⟩ ?_ | refine stop_convertB ⟨_, _, _, rfl⟩ ?_ | refine stop_eqSlice ⟨_, _, rfl⟩ ?_)
          go_ret
          exact ⟨by rw [Hbad.out (by omega)]; rfl, hc⟩
        · go_wp2_with (with_reducible first | refine stop_append ?_ | refine stop_copy ?_ | refine stop_make ?_ | refine stop_update ?_ | refine stop_slice ?_ | refine stop_range ?_ | refine stop_next ?_ | refine stop_convert ⟨_, rfl⟩ ?_ | refine stop_convertB ⟨_, _, _, rfl⟩ ?_ | refine stop_eqSlice ⟨_, _, rfl⟩ ?_)
          go_ret
          exact ⟨by rw [Hbad.out (by omega)]; rfl, hc⟩
        · have Hg := Lib.hid (Hgo.out (by omega))
          go_wp2_with (with_reducible first | refine stop_append ?_ | refine stop_copy ?_ | refine stop_make ?_ | refine stop_update ?_ | refine stop_slice ?_ | refine stop_range ?_ | refine stop_next ?_ | refine stop_convert ⟨_, rfl⟩ ?_ | refine stop_convertB ⟨_, _, _, rfl⟩ ?_ | refine stop_eqSlice ⟨_, _, rfl⟩ ?_)
          refine step_update klN Try.underlying173 Hmap.out x true rfl rfl rfl ?_
          intro w6 hm6 hc6
          have Hm6 := Lib.hid hm6
          have hcw6 : Chg No w w6 := hc.old hc6 (fun i h => by have := Hr.out; simp only [At] at h; omega)
          clear hm6 hlook
          go_wp2_with (with_reducible first | refine stop_append ?_ | refine stop_copy ?_ | refine stop_make ?_ | refine stop_lookup ?_ | refine stop_update ?_ | refine stop_slice ?_ | refine stop_range ?_ | refine stop_next ?_ | refine stop_convert ⟨_, rfl⟩ ?_ | refine stop_convertB ⟨_, _, _, rfl⟩ ?_ | refine stop_eqSlice ⟨_, _, rfl⟩ ?_)
          go_roundw
          case rel => exact ⟨k + 1, _, by omega, by go_num, hcw6, Hm6.out, Hmet.out, Hg.out⟩
          case measure => simp [intOf]; omega
    · obtain rfl : k = xs.length := by omega
      rw [List.take_length] at Hnod
      go_wp2_with (with_reducible first | refine stop_append ?_ | refine stop_copy ?_ | refine stop_make ?_ | refine stop_lookup ?_ | refine stop_update ?_ | refine stop_slice ?_ | refine stop_range ?_ | refine stop_next ?_ | refine stop_convert ⟨_, rfl⟩ ?_ | refine stop_convertB ⟨_, _, _, rfl⟩ ?_ | refine stop_eqSlice ⟨_, _, rfl⟩ ?_)
      go_ret
      exact ⟨by rw [Hnod.out]; rfl, hc⟩
end Go.Proofs.Ytbjpoamnglfjeaa


/- Walks of package term: which configurations may be. -/
set_option linter.unusedVariables false
set_option linter.unusedSimpArgs false
namespace Go.Proofs.Ytbjpoamnglfjeaa
open Go.RowKit Cb

def shardB (l : List Int) : Bool := decide (1 ≤ l.length ∧ l.length ≤ 3) && nodesB l
def rightC (t : Int) (q : List Int) (s : List (List Int)) : Bool :=
  decide (1 ≤ t ∧ t ≤ 64) && decide (q.length % 2 = 1 ∧ q.length ≤ 7) && decide (1 ≤ s.length ∧ s.length ≤ 8) && nodesB q && !s.any (fun l => !shardB l)
theorem rightC_iff {t : Int} {q : List Int} {s : List (List Int)} : rightC t q s = true ↔ (1 ≤ t ∧ t ≤ 64) ∧ (q.length % 2 = 1 ∧ q.length ≤ 7) ∧ (1 ≤ s.length ∧ s.length ≤ 8) ∧ nodesB q = true ∧ ∀ l ∈ s, shardB l = true := by
  simp only [rightC, Bool.and_eq_true, decide_eq_true_eq, Bool.not_eq_true', List.any_eq_false, and_assoc]
  simp
theorem tright1_any (F : Nat → Prop) (v : Value) (xs : List Int) (w : World) (hs : Sl F w v xs) (hl : xs.length * 8 ≤ 140737488355328) :
    Calls Try.prog 85 #[v] w fun e w' => e = .returned (.bool (!shardB xs)) ∧ Chg No w w' := by
  have Hu := Lib.hid (tunlike_any F v xs w hs hl)
  obtain ⟨A, c, rfl⟩ := hs.slice
  clear hs
  have hcase : (xs.length = 0 ∧ shardB xs = false) ∨ (1 ≤ xs.length ∧ 3 < xs.length ∧ shardB xs = false) ∨ (1 ≤ xs.length ∧ xs.length ≤ 3 ∧ shardB xs = nodesB xs) := by
    by_cases h1 : 1 ≤ xs.length
    · by_cases h3 : xs.length ≤ 3
      · exact .inr (.inr ⟨h1, h3, by simp [shardB, h1, h3]⟩)
      · exact .inr (.inl ⟨h1, by omega, by simp [shardB, h3]⟩)
    · exact .inl ⟨by omega, by simp [shardB, h1]⟩
  rcases hcase with ⟨h1, h2⟩ | ⟨h1, h3, h2⟩ | ⟨h1, h3, h2⟩
  · rw [h2, h1]
    go_enter Try.func85, Try.ntmps85
    go_wp2_with (with_reducible first | refine stop_append ?_ | refine stop_copy ?_ | refine stop_make ?_ | refine stop_lookup ?_ | refine stop_update ?_ | refine stop_slice ?_ | refine stop_range ?_ | refine stop_next ?_ | refine stop_convert ⟨_, rfl⟩ ?_ | refine stop_convertB ⟨_, _, _, rfl⟩ ?_ | refine stop_eqSlice ⟨_, _, rfl⟩ ?_)
    go_ret
    exact ⟨rfl, Chg.refl _ _⟩
  · rw [h2]
    have h1' : ¬ xs.length = 0 := by omega
    go_enter Try.func85, Try.ntmps85
    go_wp2_with (with_reducible first | refine stop_append ?_ | refine stop_copy ?_ | refine stop_make ?_ | refine stop_lookup ?_ | refine stop_update ?_ | refine stop_slice ?_ | refine stop_range ?_ | refine stop_next ?_ | refine stop_convert ⟨_, rfl⟩ ?_ | refine stop_convertB ⟨_, _, _, rfl⟩ ?_ | refine stop_eqSlice ⟨_, _, rfl⟩ ?_)
    go_ret
    exact ⟨rfl, Chg.refl _ _⟩
  · rw [h2]
    have h1' : ¬ xs.length = 0 := by omega
    have h3' : ¬ 3 < xs.length := by omega
    clear h2
    generalize nodesB xs = b at *
    go_enter Try.func85, Try.ntmps85
    go_wp2_with (with_reducible first | refine stop_append ?_ | refine stop_copy ?_ | refine stop_make ?_ | refine stop_lookup ?_ | refine stop_update ?_ | refine stop_slice ?_ | refine stop_range ?_ | refine stop_next ?_ | refine stop_convert ⟨_, rfl⟩ ?_ | refine stop_convertB ⟨_, _, _, rfl⟩ ?_ | refine stop_eqSlice ⟨_, _, rfl⟩ ?_)
    refine Hu.out.mono ?_
    rintro e w1 ⟨rfl, hc⟩
    go_wp2_with (with_reducible first | refine stop_append ?_ | refine stop_copy ?_ | refine stop_make ?_ | refine stop_lookup ?_ | refine stop_update ?_ | refine stop_slice ?_ | refine stop_range ?_ | refine stop_next ?_ | refine stop_convert ⟨_, rfl⟩ ?_ | refine stop_convertB ⟨_, _, _, rfl⟩ ?_ | refine stop_eqSlice ⟨_, _, rfl⟩ ?_)
    go_ret
    refine ⟨?_, hc⟩
    show Ending.returned (.bool (decide ((xs.length : Int) < 1) || decide (3 < (xs.length : Int)) || !b)) = _
    rw [decide_eq_false (by omega), decide_eq_false (by omega)]
    rfl
def idxT (p : List Int → Bool) (l : List (List Int)) : Int := match l.findIdx? p with | some i => i | none => -1
set_option maxRecDepth 100000 in
set_option maxHeartbeats 1000000 in
theorem indexT_any (F : Nat → Prop) (v : Value) (l : List (List Int)) (p : List Int → Bool) (g : FuncId) (hg : ∀ args W, (callFunc g args).run Try.prog W = .ok (.enter g args) W) (w : World) (hs : Sl F w v l) (hl : l.length ≤ 17592186044416)
    (hp : ∀ i (h : i < l.length) u W, Chg No w W → Sl F W u l[i] → Calls Try.prog g #[u] W fun e w' => e = .returned (.bool (p l[i])) ∧ Chg No W w') :
    Calls Try.prog 105 #[v, .func (.func g) #[] #[]] w fun e w' => e = .returned (.int .i64 (idxT p l)) ∧ Chg No w w' := by
  obtain ⟨A, c, rfl⟩ := hs.slice
  have Hp := Lib.hid hp; have Hs := Lib.hid hs
  clear hp hs
  go_enter Try.func105, Try.ntmps105
  go_wp2_with (with_reducible first | refine stop_append ?_ | refine stop_copy ?_ | refine stop_make ?_ | refine stop_lookup ?_ | refine stop_update ?_ | refine stop_slice ?_ | refine stop_range ?_ | refine stop_next ?_ | refine stop_convert ⟨_, rfl⟩ ?_ | refine stop_convertB ⟨_, _, _, rfl⟩ ?_ | refine stop_eqSlice ⟨_, _, rfl⟩ ?_)
  go_loopw [8] (fun v8 wr => ∃ k : Nat, k ≤ l.length ∧ v8 = .int .i64 k ∧ Chg No w wr ∧ ∀ i (h : i < l.length), i < k → p l[i] = false) (fun v8 _ => l.length - (intOf v8).toNat)
  case atStart => exact ⟨0, by omega, rfl, Chg.refl _ _, fun _ _ h => absurd h (by omega)⟩
  case round =>
    obtain ⟨k, hk, rfl, hc1, hall⟩ := hrel
    have Hall := Lib.hid hall; clear hall
    by_cases hlt : k < l.length
    · obtain ⟨b, o, u, rfl, _, hbl, ha0, hu⟩ := rowT_get (Hs.out.keepNo hc1) k hlt
      have Hcall := Lib.hid (Hp.out k hlt u wr hc1 hu)
      obtain ⟨Au, cu, rfl⟩ := hu.slice
      clear hu
      cases hpx : p l[k] with
      | true =>
        have Hi := Lib.hid (show idxT p l = k by
          simp only [idxT]
          rw [show l.findIdx? p = some k from List.findIdx?_eq_some_iff_getElem.2 ⟨hlt, hpx, fun j hj => by rw [Hall.out j (by omega) hj]; simp⟩])
        rw [hpx] at Hcall
        clear hpx
        generalize l[k] = x at *
        go_wp2_with (with_reducible first | refine stop_append ?_ | refine stop_copy ?_ | refine stop_make ?_ | refine stop_lookup ?_ | refine stop_update ?_ | refine stop_slice ?_ | refine stop_range ?_ | refine stop_next ?_ | refine stop_convert ⟨_, rfl⟩ ?_ | refine stop_convertB ⟨_, _, _, rfl⟩ ?_ | refine stop_eqSlice ⟨_, _, rfl⟩ ?_)
        refine Hcall.out.mono ?_
        rintro e w1 ⟨rfl, hc2⟩
        go_wp2_with (with_reducible first | refine stop_append ?_ | refine stop_copy ?_ | refine stop_make ?_ | refine stop_lookup ?_ | refine stop_update ?_ | refine stop_slice ?_ | refine stop_range ?_ | refine stop_next ?_ | refine stop_convert ⟨_, rfl⟩ ?_ | refine stop_convertB ⟨_, _, _, rfl⟩ ?_ | refine stop_eqSlice ⟨_, _, rfl⟩ ?_)
        go_ret
        rw [Hi.out]
        exact ⟨rfl, hc1.trans hc2⟩
      | false =>
        rw [hpx] at Hcall
        have Hpx := Lib.hid (show ∀ i (h : i < l.length), i < k + 1 → p l[i] = false from fun i h hi => by
          rcases Nat.lt_or_ge i k with h' | h'
          · exact Hall.out i h h'
          · obtain rfl : i = k := by omega
            exact hpx)
        clear hpx
        generalize l[k] = x at *
        go_wp2_with (with_reducible first | refine stop_append ?_ | refine stop_copy ?_ | refine stop_make ?_ | refine stop_lookup ?_ | refine stop_update ?_ | refine stop_slice ?_ | refine stop_range ?_ | refine stop_next ?_ | refine stop_convert ⟨_, rfl⟩ ?_ | refine stop_convertB ⟨_, _, _, rfl⟩ ?_ | refine stop_eqSlice ⟨_, _, rfl⟩ ?_)
        refine Hcall.out.mono ?_
        rintro e w1 ⟨rfl, hc2⟩
        go_wp2_with (with_reducible first | refine stop_append ?_ | refine stop_copy ?_ | refine stop_make ?_ | refine stop_lookup ?_ | refine stop_update ?_ | refine stop_slice ?_ | refine stop_range ?_ | refine stop_next ?_ | refine stop_convert ⟨_, rfl⟩ ?_ | refine stop_convertB ⟨_, _, _, rfl⟩ ?_ | refine stop_eqSlice ⟨_, _, rfl⟩ ?_)
        go_roundw
        case rel => exact ⟨k + 1, by omega, by go_num, hc1.trans hc2, Hpx.out⟩
        case measure => simp [intOf]; omega
    · have Hi := Lib.hid (show idxT p l = -1 by
        simp only [idxT]
        rw [List.findIdx?_eq_none_iff.2 (fun x hx => by
          obtain ⟨i, hi, rfl⟩ := List.mem_iff_getElem.1 hx
          exact Hall.out i hi (by omega))])
      go_wp2_with (with_reducible first | refine stop_append ?_ | refine stop_copy ?_ | refine stop_make ?_ | refine stop_lookup ?_ | refine stop_update ?_ | refine stop_slice ?_ | refine stop_range ?_ | refine stop_next ?_ | refine stop_convert ⟨_, rfl⟩ ?_ | refine stop_convertB ⟨_, _, _, rfl⟩ ?_ | refine stop_eqSlice ⟨_, _, rfl⟩ ?_)
      go_ret
      rw [Hi.out]
      exact ⟨rfl, hc1⟩
theorem containsT_any (F : Nat → Prop) (v : Value) (l : List (List Int)) (p : List Int → Bool) (g : FuncId) (hg : ∀ args W, (callFunc g args).run Try.prog W = .ok (.enter g args) W) (w : World) (hs : Sl F w v l) (hl : l.length ≤ 17592186044416)
    (hp : ∀ i (h : i < l.length) u W, Chg No w W → Sl F W u l[i] → Calls Try.prog g #[u] W fun e w' => e = .returned (.bool (p l[i])) ∧ Chg No W w') :
    Calls Try.prog 86 #[v, .func (.func g) #[] #[]] w fun e w' => e = .returned (.bool (l.any p)) ∧ Chg No w w' := by
  have Hcall := Lib.hid (indexT_any F v l p g hg w hs hl hp)
  clear hp hs
  have hr : (0 ≤ idxT p l ∧ l.any p = true) ∨ (idxT p l < 0 ∧ l.any p = false) := by
    simp only [idxT]
    cases h : l.findIdx? p with
    | some i =>
      left
      obtain ⟨hi, hpi, _⟩ := List.findIdx?_eq_some_iff_getElem.1 h
      exact ⟨by simp, List.any_eq_true.2 ⟨_, List.getElem_mem hi, hpi⟩⟩
    | none =>
      right
      exact ⟨by simp, by rw [List.any_eq_false]; intro x hx; rw [List.findIdx?_eq_none_iff.1 h x hx]; simp⟩
  generalize idxT p l = i at Hcall hr
  generalize l.any p = r at hr ⊢
  rcases hr with ⟨hi, hr⟩ | ⟨hi, hr⟩
  all_goals
    have Hr := Lib.hid hr; clear hr
    have hib := hi
    go_enter Try.func86, Try.ntmps86
    go_wp2_with (with_reducible first | refine stop_append ?_ | refine stop_copy ?_ | refine stop_make ?_ | refine stop_lookup ?_ | refine stop_update ?_ | refine stop_slice ?_ | refine stop_range ?_ | refine stop_next ?_ | refine stop_convert ⟨_, rfl⟩ ?_ | refine stop_convertB ⟨_, _, _, rfl⟩ ?_ | refine stop_eqSlice ⟨_, _, rfl⟩ ?_)
    refine Hcall.out.mono ?_
    rintro e w1 ⟨rfl, hc2⟩
    go_wp2_with (with_reducible first | refine stop_append ?_ | refine stop_copy ?_ | refine stop_make ?_ | refine stop_lookup ?_ | refine stop_update ?_ | refine stop_slice ?_ | refine stop_range ?_ | refine stop_next ?_ | refine stop_convert ⟨_, rfl⟩ ?_ | refine stop_convertB ⟨_, _, _, rfl⟩ ?_ | refine stop_eqSlice ⟨_, _, rfl⟩ ?_)
    go_ret
    rw [Hr.out]
    exact ⟨by simp [hi], hc2⟩
/-- A configuration's three values. -/
def cfgV (t : Int) (vq vs : Value) : Value := .agg #[.int .i64 t, vq, vs]
set_option maxRecDepth 100000 in
set_option maxHeartbeats 1000000 in
theorem tright_any (F G : Nat → Prop) (t : Int) (vq vs : Value) (q : List Int) (s : List (List Int)) (w : World) (hq : Sl F w vq q) (hs : Sl G w vs s) (hlq : q.length * 8 ≤ 140737488351232) (hls : s.length ≤ 17592186044416) (hb : ∀ x ∈ s, x.length * 8 ≤ 140737488351232) :
    Calls Try.prog 45 #[cfgV t vq vs] w fun e w' => e = .returned (.bool (rightC t q s)) ∧ Chg No w w' := by
  have Hq := Lib.hid (fun W (hW : Chg No w W) => tunlike_any F vq q W (hq.keepNo hW) (by omega))
  have Hc := Lib.hid (fun W (hW : Chg No w W) => containsT_any G vs s (fun l => !shardB l) 85 (fun args W => by kernel_rfl) W (hs.keepNo hW) hls (fun i h u W' hW' hu => tright1_any G u s[i] W' hu (by have := hb _ (List.getElem_mem h); omega)))
  obtain ⟨Aq, cq, rfl⟩ := hq.slice
  obtain ⟨As, cs, rfl⟩ := hs.slice
  clear hq hs
  have hrt : rightC t q s = (decide (1 ≤ t ∧ t ≤ 64) && decide (q.length % 2 = 1 ∧ q.length ≤ 7) && decide (1 ≤ s.length ∧ s.length ≤ 8) && nodesB q && !s.any (fun l => !shardB l)) := rfl
  generalize s.any (fun l => !shardB l) = sa at *
  generalize nodesB q = qn at *
  generalize rightC t q s = R at *
  have Hrt := Lib.hid hrt
  clear hrt hb
  unfold cfgV
  go_enter Try.func45, Try.ntmps45
  have ho := alloc_obj w (.cells #[.int .i64 t, .slice Aq q.length cq, .slice As s.length cs] 68)
  have hca := (Chg.refl No w).alloc (.cells #[.int .i64 t, .slice Aq q.length cq, .slice As s.length cs] 68)
  have a0 := cell_obj (i := 0) ho rfl
  have a1 := cell_obj (i := 1) ho rfl
  have a2 := cell_obj (i := 2) ho rfl
  go_wp2_with (with_reducible first | refine stop_append ?_ | refine stop_copy ?_ | refine stop_make ?_ | refine stop_lookup ?_ | refine stop_update ?_ | refine stop_slice ?_ | refine stop_range ?_ | refine stop_next ?_ | refine stop_convert ⟨_, rfl⟩ ?_ | refine stop_convertB ⟨_, _, _, rfl⟩ ?_ | refine stop_eqSlice ⟨_, _, rfl⟩ ?_)
  clear ho
  generalize w.alloc (.cells #[.int .i64 t, .slice Aq q.length cq, .slice As s.length cs] 68) = w1 at *
  generalize w.heap.size = p at *
  refine pl_start (fun W => W.cell? ⟨p, 1, none⟩ = some (.slice Aq q.length cq) ∧ W.cell? ⟨p, 2, none⟩ = some (.slice As s.length cs) ∧ Chg No w1 W) (by kernel_rfl) (by kernel_rfl) ⟨a1, a2, (Chg.refl _ _).drew⟩ ?_
  iterate 8 ((refine pl_nx [] (v := ?_) rfl (by kernel_rfl) rfl ?_ ?_; rotate_left; focus (intro W hW; (try dsimp only at hW); go_split_ands; go_simp; (try (simp (disch := omega) only [IntWalk.i64_in]; (try go_simp))); (try (split; (next => omega); (try go_simp))); try rfl; done)); try simp only [Act.put, List.setIfInBounds_toArray, List.set_cons_zero, List.set_cons_succ, Nat.reduceAdd])
  refine pl_done (by kernel_rfl)  ?_
  rintro w2 ⟨_, _, hc2⟩
  replace a0 := hc2.cell a0 (not_no _)
  replace a1 := hc2.cell a1 (not_no _)
  replace a2 := hc2.cell a2 (not_no _)
  replace hca := hca.trans hc2
  clear hc2
  have hcase : (t < 1 ∧ R = false) ∨ (¬ t < 1 ∧ 64 < t ∧ R = false) ∨ (¬ t < 1 ∧ ¬ 64 < t ∧ q.length % 2 = 0 ∧ R = false) ∨
      (¬ t < 1 ∧ ¬ 64 < t ∧ q.length % 2 = 1 ∧ 7 < q.length ∧ R = false) ∨
      (¬ t < 1 ∧ ¬ 64 < t ∧ q.length % 2 = 1 ∧ ¬ 7 < q.length ∧ s.length = 0 ∧ R = false) ∨
      (¬ t < 1 ∧ ¬ 64 < t ∧ q.length % 2 = 1 ∧ ¬ 7 < q.length ∧ ¬ s.length = 0 ∧ 8 < s.length ∧ R = false) ∨
      (¬ t < 1 ∧ ¬ 64 < t ∧ q.length % 2 = 1 ∧ ¬ 7 < q.length ∧ ¬ s.length = 0 ∧ ¬ 8 < s.length ∧ R = (qn && !sa)) := by
    rw [Hrt.out]
    by_cases h1 : t < 1
    · exact .inl ⟨h1, by simp [show ¬ 1 ≤ t by omega]⟩
    by_cases h2 : 64 < t
    · exact .inr (.inl ⟨h1, h2, by simp [show ¬ t ≤ 64 by omega]⟩)
    by_cases h3 : q.length % 2 = 0
    · exact .inr (.inr (.inl ⟨h1, h2, h3, by simp [h3]⟩))
    have h3 : q.length % 2 = 1 := by omega
    by_cases h4 : 7 < q.length
    · exact .inr (.inr (.inr (.inl ⟨h1, h2, h3, h4, by simp [show ¬ q.length ≤ 7 by omega]⟩)))
    by_cases h5 : s.length = 0
    · exact .inr (.inr (.inr (.inr (.inl ⟨h1, h2, h3, h4, h5, by simp [h5]⟩))))
    by_cases h6 : 8 < s.length
    · exact .inr (.inr (.inr (.inr (.inr (.inl ⟨h1, h2, h3, h4, h5, h6, by simp [show ¬ s.length ≤ 8 by omega]⟩)))))
    · exact .inr (.inr (.inr (.inr (.inr (.inr ⟨h1, h2, h3, h4, h5, h6, by simp [h3, show 1 ≤ t by omega, show t ≤ 64 by omega, show q.length ≤ 7 by omega, show s.length ≤ 8 by omega, show 1 ≤ s.length by omega]⟩)))))
  clear Hrt
  rcases hcase with ⟨h1, hr⟩ | ⟨h1, h2, hr⟩ | ⟨h1, h2, h3, hr⟩ | ⟨h1, h2, h3, h4, hr⟩ | ⟨h1, h2, h3, h4, h5, hr⟩ | ⟨h1, h2, h3, h4, h5, h6, hr⟩ | ⟨h1, h2, h3, h4, h5, h6, hr⟩
  · have Hr := Lib.hid hr
    clear hr
    go_wp2_with (with_reducible first | refine stop_append ?_ | refine stop_copy ?_ | refine stop_make ?_ | refine stop_lookup ?_ | refine stop_update ?_ | refine stop_slice ?_ | refine stop_range ?_ | refine stop_next ?_ | refine stop_convert ⟨_, rfl⟩ ?_ | refine stop_convertB ⟨_, _, _, rfl⟩ ?_ | refine stop_eqSlice ⟨_, _, rfl⟩ ?_)
    go_ret
    exact ⟨by rw [Hr.out]; rfl, hca⟩
  · have Hr := Lib.hid hr
    clear hr
    go_wp2_with (with_reducible first | refine stop_append ?_ | refine stop_copy ?_ | refine stop_make ?_ | refine stop_lookup ?_ | refine stop_update ?_ | refine stop_slice ?_ | refine stop_range ?_ | refine stop_next ?_ | refine stop_convert ⟨_, rfl⟩ ?_ | refine stop_convertB ⟨_, _, _, rfl⟩ ?_ | refine stop_eqSlice ⟨_, _, rfl⟩ ?_)
    go_ret
    exact ⟨by rw [Hr.out]; rfl, hca⟩
  · have Hr := Lib.hid hr
    clear hr
    go_wp2_with (with_reducible first | refine stop_append ?_ | refine stop_copy ?_ | refine stop_make ?_ | refine stop_lookup ?_ | refine stop_update ?_ | refine stop_slice ?_ | refine stop_range ?_ | refine stop_next ?_ | refine stop_convert ⟨_, rfl⟩ ?_ | refine stop_convertB ⟨_, _, _, rfl⟩ ?_ | refine stop_eqSlice ⟨_, _, rfl⟩ ?_)
    go_ret
    exact ⟨by rw [Hr.out]; rfl, hca⟩
  · have Hr := Lib.hid hr
    clear hr
    go_wp2_with (with_reducible first | refine stop_append ?_ | refine stop_copy ?_ | refine stop_make ?_ | refine stop_lookup ?_ | refine stop_update ?_ | refine stop_slice ?_ | refine stop_range ?_ | refine stop_next ?_ | refine stop_convert ⟨_, rfl⟩ ?_ | refine stop_convertB ⟨_, _, _, rfl⟩ ?_ | refine stop_eqSlice ⟨_, _, rfl⟩ ?_)
    go_ret
    exact ⟨by rw [Hr.out]; rfl, hca⟩
  · have Hr := Lib.hid hr
    clear hr
    go_wp2_with (with_reducible first | refine stop_append ?_ | refine stop_copy ?_ | refine stop_make ?_ | refine stop_lookup ?_ | refine stop_update ?_ | refine stop_slice ?_ | refine stop_range ?_ | refine stop_next ?_ | refine stop_convert ⟨_, rfl⟩ ?_ | refine stop_convertB ⟨_, _, _, rfl⟩ ?_ | refine stop_eqSlice ⟨_, _, rfl⟩ ?_)
    go_ret
    exact ⟨by rw [Hr.out]; rfl, hca⟩
  · have Hr := Lib.hid hr
    clear hr
    go_wp2_with (with_reducible first | refine stop_append ?_ | refine stop_copy ?_ | refine stop_make ?_ | refine stop_lookup ?_ | refine stop_update ?_ | refine stop_slice ?_ | refine stop_range ?_ | refine stop_next ?_ | refine stop_convert ⟨_, rfl⟩ ?_ | refine stop_convertB ⟨_, _, _, rfl⟩ ?_ | refine stop_eqSlice ⟨_, _, rfl⟩ ?_)
    go_ret
    exact ⟨by rw [Hr.out]; rfl, hca⟩
  · have Hr := Lib.hid hr
    clear hr
    have k1 : ((q.length : Int) % 2 == 0) = false := by simp; omega
    have k2 : ¬ (7 < (q.length : Int)) := by omega
    have k3 : ¬ ((s.length : Int) < 1) := by omega
    have k4 : ¬ (8 < (s.length : Int)) := by omega
    clear h3 h4 h5 h6
    go_wp2_with (with_reducible first | refine stop_append ?_ | refine stop_copy ?_ | refine stop_make ?_ | refine stop_lookup ?_ | refine stop_update ?_ | refine stop_slice ?_ | refine stop_range ?_ | refine stop_next ?_ | refine stop_convert ⟨_, rfl⟩ ?_ | refine stop_convertB ⟨_, _, _, rfl⟩ ?_ | refine stop_eqSlice ⟨_, _, rfl⟩ ?_)
    refine (Hq.out _ hca).mono ?_
    rintro e w3 ⟨rfl, hc3⟩
    replace a2 := hc3.cell a2 (not_no _)
    have hca3 := hca.trans hc3
    cases qn
    · go_wp2_with (with_reducible first | refine stop_append ?_ | refine stop_copy ?_ | refine stop_make ?_ | refine stop_lookup ?_ | refine stop_update ?_ | refine stop_slice ?_ | refine stop_range ?_ | refine stop_next ?_ | refine stop_convert ⟨_, rfl⟩ ?_ | refine stop_convertB ⟨_, _, _, rfl⟩ ?_ | refine stop_eqSlice ⟨_, _, rfl⟩ ?_)
      go_ret
      exact ⟨by rw [Hr.out]; rfl, hca3⟩
    · go_wp2_with (with_reducible first | refine stop_append ?_ | refine stop_copy ?_ | refine stop_make ?_ | refine stop_lookup ?_ | refine stop_update ?_ | refine stop_slice ?_ | refine stop_range ?_ | refine stop_next ?_ | refine stop_convert ⟨_, rfl⟩ ?_ | refine stop_convertB ⟨_, _, _, rfl⟩ ?_ | refine stop_eqSlice ⟨_, _, rfl⟩ ?_)
      refine (Hc.out _ hca3).mono ?_
      rintro e w4 ⟨rfl, hc4⟩
      go_wp2_with (with_reducible first | refine stop_append ?_ | refine stop_copy ?_ | refine stop_make ?_ | refine stop_lookup ?_ | refine stop_update ?_ | refine stop_slice ?_ | refine stop_range ?_ | refine stop_next ?_ | refine stop_convert ⟨_, rfl⟩ ?_ | refine stop_convertB ⟨_, _, _, rfl⟩ ?_ | refine stop_eqSlice ⟨_, _, rfl⟩ ?_)
      go_ret
      exact ⟨by rw [Hr.out]; rfl, hca3.trans hc4⟩
end Go.Proofs.Ytbjpoamnglfjeaa


/- Walks of package register: entries of the caller's own. -/
set_option linter.unusedVariables false
set_option linter.unusedSimpArgs false
namespace Go.Proofs.Ytbjpoamnglfjeaa
open Go.RowKit Cb

set_option maxRecDepth 100000 in
set_option maxHeartbeats 1000000 in
theorem regents_any (v : Value) (l : List Ent) (w : World) (h : Sl No w v l) (hl : l.length ≤ 2199023255488) (hcb : ∀ e ∈ l, e.2.2.1.length ≤ 1000000) :
    Calls Try.prog 72 #[v] w fun e w' => ∃ v', e = .returned v' ∧ Chg No w w' ∧ Sl (Lt w.heap.size) w' v' l := by
  obtain ⟨A, c, rfl⟩ := h.slice
  have H := Lib.hid h
  have Hcb := Lib.hid hcb
  clear h hcb
  go_enter Try.func72, Try.ntmps72
  go_wp2_with (with_reducible first | refine stop_append ?_ | refine stop_copy ?_ | refine stop_make ?_ | refine stop_lookup ?_ | refine stop_update ?_ | refine stop_slice ?_ | refine stop_range ?_ | refine stop_next ?_ | refine stop_convert ⟨_, rfl⟩ ?_ | refine stop_convertB ⟨_, _, _, rfl⟩ ?_ | refine stop_eqSlice ⟨_, _, rfl⟩ ?_)
  go_loopw [3, 8] (fun v3 v8 wr => ∃ k : Nat, k ≤ l.length ∧ v8 = .int .i64 k ∧ Chg No w wr ∧ Cb.Own (Lt w.heap.size) wr w.heap.size 58 v3 (l.take k)) (fun _ v8 _ => l.length - (intOf v8).toNat)
  case atStart => exact ⟨0, by omega, rfl, Chg.refl _ _, Cb.Own.nil _ _ _ _⟩
  case round =>
    obtain ⟨k, hk, rfl, hc1, hown⟩ := hrel
    by_cases hlt : k < l.length
    · have hgs : Sl (Ge w.heap.size) wr (.slice A l.length c) l := (Sl.up H.out (Nat.le_refl _)).keepNo hc1
      obtain ⟨b, o, vc, rfl, hnb, hbl, hsv, a0, a1, a2, a3, a4, a5⟩ := ent_get hgs k hlt
      have htk := List.take_succ_eq_append_getElem hlt
      have hcl := Hcb.out _ (List.getElem_mem hlt)
      clear hgs
      generalize l[k] = x at a0 a1 a2 a3 a4 a5 hsv htk hcl
      have Hsv := Lib.hid hsv
      obtain ⟨n, kd, cut, tag, t, u⟩ := x
      simp only [entC] at a0 a1 a2 a3 a4 a5 hcl Hsv
      obtain ⟨Av, cv, rfl⟩ := hsv.slice
      have hlen : (l.take k).length = k := by simp; omega
      generalize l.take k = acc at hlen htk hown
      have Htk := Lib.hid htk
      have Hlen := Lib.hid hlen
      obtain ⟨A3, c3, rfl⟩ := hown.slice
      have Hown := Lib.hid hown
      clear hsv hown htk hlen
      have hca := (Chg.refl No wr).alloc (.cells #[.int .i64 n, .int .i64 kd, .slice Av cut.length cv, .int .i64 tag, .int .i64 t, .int .i64 u] 58)
      have ho := alloc_obj wr (.cells #[.int .i64 n, .int .i64 kd, .slice Av cut.length cv, .int .i64 tag, .int .i64 t, .int .i64 u] 58)
      have b2 := cell_obj (i := 2) ho rfl
      have Hclone := Lib.hid (vclone_any _ _ cut _ (Hsv.out.keepNo hca) hcl)
      go_wp2_with (with_reducible first | refine stop_append ?_ | refine stop_copy ?_ | refine stop_make ?_ | refine stop_lookup ?_ | refine stop_update ?_ | refine stop_slice ?_ | refine stop_range ?_ | refine stop_next ?_ | refine stop_convert ⟨_, rfl⟩ ?_ | refine stop_convertB ⟨_, _, _, rfl⟩ ?_ | refine stop_eqSlice ⟨_, _, rfl⟩ ?_)
      generalize wr.alloc (.cells #[.int .i64 n, .int .i64 kd, .slice Av cut.length cv, .int .i64 tag, .int .i64 t, .int .i64 u] 58) = w4 at *
      have hql := lt_of_heap ho
      refine Hclone.out.mono ?_
      rintro e w5 ⟨vn, rfl, hc5, hsn⟩
      obtain ⟨An, cn, rfl⟩ := hsn.slice
      have Hsn := Lib.hid hsn
      clear hsn b2 a0 a1 a2 a3 a4 a5
      have ho5 := hc5.obj ho (not_no _)
      obtain ⟨p, hp⟩ : ∃ p, p = wr.heap.size := ⟨_, rfl⟩
      rw [← hp] at ho5 hql ⊢
      have Hp := Lib.hid hp
      clear hp ho
      have c0 := cell_obj (i := 0) ho5 rfl
      have c1 := cell_obj (i := 1) ho5 rfl
      have c2 := cell_obj (i := 2) ho5 rfl
      have c3' := cell_obj (i := 3) ho5 rfl
      have c4 := cell_obj (i := 4) ho5 rfl
      have c5 := cell_obj (i := 5) ho5 rfl
      have f2 := free_obj (i := 2) ho5
      go_wp2_with (with_reducible first | refine stop_append ?_ | refine stop_copy ?_ | refine stop_make ?_ | refine stop_lookup ?_ | refine stop_update ?_ | refine stop_slice ?_ | refine stop_range ?_ | refine stop_next ?_ | refine stop_convert ⟨_, rfl⟩ ?_ | refine stop_convertB ⟨_, _, _, rfl⟩ ?_ | refine stop_eqSlice ⟨_, _, rfl⟩ ?_)
      have e6 : (w5.setCell ⟨p, 2, none⟩ (.slice An cut.length cn)).heap.size = w5.heap.size := by simp
      have hc6 : Chg (At p) w5 (w5.setCell ⟨p, 2, none⟩ (.slice An cut.length cn)) := chg_set _
      clear c0 c1 c2 c3' c4 c5 f2 ho5
      generalize w5.setCell ⟨p, 2, none⟩ (.slice An cut.length cn) = w6 at *
      rw [← e6]
      have hc16 : Chg No wr w6 := (hca.trans hc5).old hc6 (fun i h => by have := Hp.out; simp only [At] at h; omega)
      have hc67 := (Chg.refl No w6).alloc (.cells #[.int .i64 n, .int .i64 kd, .slice An cut.length cn, .int .i64 tag, .int .i64 t, .int .i64 u] 58)
      have hobl : ∀ i, OB (.slice A3 acc.length c3) i → w.heap.size ≤ i ∧ i < wr.heap.size := fun i hi => Hown.out.lt i hi
      have hw4 := hca.size
      have hw1 := hc1.size
      have hsn6 : Sl (Or (Lt w.heap.size) (OB (.slice A3 acc.length c3))) w6 (.slice An cut.length cn) cut :=
        ((Hsn.out.weak (G := Or (Or (Lt w.heap.size) (OB (.slice A3 acc.length c3))) (At p)) (fun i _ hi => by
          simp only [Lt]
          rcases hi with (hi | hi) | hi
          · simp only [Lt] at hi; omega
          · have := hobl i hi; omega
          · simp only [At] at hi; omega)).keep (hc6.weak (fun i _ hi => .inr hi))).weak (fun i _ hi => .inl hi)
      have hlit : Sl (Or (Lt w.heap.size) (OB (.slice A3 acc.length c3))) (w6.alloc (.cells #[.int .i64 n, .int .i64 kd, .slice An cut.length cn, .int .i64 tag, .int .i64 t, .int .i64 u] 58)) (.slice (some ⟨w6.heap.size, 0, none⟩) 1 1) [(n, kd, cut, tag, t, u)] :=
        Sl.lit1 rfl (ent_mk (n, kd, cut, tag, t, u) hsn6) (fun hi => by
          have := hc16.size
          rcases hi with hi | hi
          · simp only [Lt] at hi; omega
          · have := hobl _ hi; omega)
      refine step_append_sl (α := Ent) (F := Lt w.heap.size) (G := Or (Lt w.heap.size) (OB (.slice A3 acc.length c3))) Try.underlying28 info_ent rfl (Hown.out.keep (hc16.trans hc67) (fun _ _ f => f.elim) (fun _ _ f => f)) rfl rfl hlit (fun i _ hi => hi) (by have := Hlen.out; simp; omega) (by have := Hlen.out; simp [ent_n]; omega) (by have := hc16.size; have := hc67.size; omega) ?_
      intro v6 w8 hown6 hg6
      rw [← Htk.out] at hown6
      have hcw : Chg No w w8 := ((hc1.trans hc16).trans hc67).grew hg6 (fun i hi => .inr (hobl i hi).1)
      have Hown6 := Lib.hid hown6
      clear hown6 hg6 hlit hsn6
      go_wp2_with (with_reducible first | refine stop_append ?_ | refine stop_copy ?_ | refine stop_make ?_ | refine stop_lookup ?_ | refine stop_update ?_ | refine stop_slice ?_ | refine stop_range ?_ | refine stop_next ?_ | refine stop_convert ⟨_, rfl⟩ ?_ | refine stop_convertB ⟨_, _, _, rfl⟩ ?_ | refine stop_eqSlice ⟨_, _, rfl⟩ ?_)
      go_roundw
      case rel => exact ⟨k + 1, by omega, by go_num, hcw, Hown6.out⟩
      case measure => simp [intOf]; omega
    · obtain rfl : k = l.length := by omega
      rw [List.take_length] at hown
      have Hown := Lib.hid hown
      obtain ⟨A3, c3, rfl⟩ := hown.slice
      clear hown
      go_wp2_with (with_reducible first | refine stop_append ?_ | refine stop_copy ?_ | refine stop_make ?_ | refine stop_lookup ?_ | refine stop_update ?_ | refine stop_slice ?_ | refine stop_range ?_ | refine stop_next ?_ | refine stop_convert ⟨_, rfl⟩ ?_ | refine stop_convertB ⟨_, _, _, rfl⟩ ?_ | refine stop_eqSlice ⟨_, _, rfl⟩ ?_)
      go_ret
      exact ⟨_, rfl, hc1, Hown.out.sl (fun i hi f => by have := (Hown.out.lt i hi).1; simp only [Lt] at f; omega)⟩
set_option maxRecDepth 100000 in
set_option maxHeartbeats 1000000 in
theorem repents_any (v : Value) (l : List Ent) (w : World) (h : Sl No w v l) (hl : l.length ≤ 2199023255488) (hcb : ∀ e ∈ l, e.2.2.1.length ≤ 1000000) :
    Calls Try.prog 87 #[v] w fun e w' => ∃ v', e = .returned v' ∧ Chg No w w' ∧ Sl (Lt w.heap.size) w' v' l := by
  obtain ⟨A, c, rfl⟩ := h.slice
  have H := Lib.hid h
  have Hcb := Lib.hid hcb
  clear h hcb
  go_enter Try.func87, Try.ntmps87
  go_wp2_with (with_reducible first | refine stop_append ?_ | refine stop_copy ?_ | refine stop_make ?_ | refine stop_lookup ?_ | refine stop_update ?_ | refine stop_slice ?_ | refine stop_range ?_ | refine stop_next ?_ | refine stop_convert ⟨_, rfl⟩ ?_ | refine stop_convertB ⟨_, _, _, rfl⟩ ?_ | refine stop_eqSlice ⟨_, _, rfl⟩ ?_)
  go_loopw [3, 8] (fun v3 v8 wr => ∃ k : Nat, k ≤ l.length ∧ v8 = .int .i64 k ∧ Chg No w wr ∧ Cb.Own (Lt w.heap.size) wr w.heap.size 58 v3 (l.take k)) (fun _ v8 _ => l.length - (intOf v8).toNat)
  case atStart => exact ⟨0, by omega, rfl, Chg.refl _ _, Cb.Own.nil _ _ _ _⟩
  case round =>
    obtain ⟨k, hk, rfl, hc1, hown⟩ := hrel
    by_cases hlt : k < l.length
    · have hgs : Sl (Ge w.heap.size) wr (.slice A l.length c) l := (Sl.up H.out (Nat.le_refl _)).keepNo hc1
      obtain ⟨b, o, vc, rfl, hnb, hbl, hsv, a0, a1, a2, a3, a4, a5⟩ := ent_get hgs k hlt
      have htk := List.take_succ_eq_append_getElem hlt
      have hcl := Hcb.out _ (List.getElem_mem hlt)
      clear hgs
      generalize l[k] = x at a0 a1 a2 a3 a4 a5 hsv htk hcl
      have Hsv := Lib.hid hsv
      obtain ⟨n, kd, cut, tag, t, u⟩ := x
      simp only [entC] at a0 a1 a2 a3 a4 a5 hcl Hsv
      obtain ⟨Av, cv, rfl⟩ := hsv.slice
      have hlen : (l.take k).length = k := by simp; omega
      generalize l.take k = acc at hlen htk hown
      have Htk := Lib.hid htk
      have Hlen := Lib.hid hlen
      obtain ⟨A3, c3, rfl⟩ := hown.slice
      have Hown := Lib.hid hown
      clear hsv hown htk hlen
      have hca := (Chg.refl No wr).alloc (.cells #[.int .i64 n, .int .i64 kd, .slice Av cut.length cv, .int .i64 tag, .int .i64 t, .int .i64 u] 58)
      have ho := alloc_obj wr (.cells #[.int .i64 n, .int .i64 kd, .slice Av cut.length cv, .int .i64 tag, .int .i64 t, .int .i64 u] 58)
      have b2 := cell_obj (i := 2) ho rfl
      have Hclone := Lib.hid (vclone_any _ _ cut _ (Hsv.out.keepNo hca) hcl)
      go_wp2_with (with_reducible first | refine stop_append ?_ | refine stop_copy ?_ | refine stop_make ?_ | refine stop_lookup ?_ | refine stop_update ?_ | refine stop_slice ?_ | refine stop_range ?_ | refine stop_next ?_ | refine stop_convert ⟨_, rfl⟩ ?_ | refine stop_convertB ⟨_, _, _, rfl⟩ ?_ | refine stop_eqSlice ⟨_, _, rfl⟩ ?_)
      generalize wr.alloc (.cells #[.int .i64 n, .int .i64 kd, .slice Av cut.length cv, .int .i64 tag, .int .i64 t, .int .i64 u] 58) = w4 at *
      have hql := lt_of_heap ho
      refine Hclone.out.mono ?_
      rintro e w5 ⟨vn, rfl, hc5, hsn⟩
      obtain ⟨An, cn, rfl⟩ := hsn.slice
      have Hsn := Lib.hid hsn
      clear hsn b2 a0 a1 a2 a3 a4 a5
      have ho5 := hc5.obj ho (not_no _)
      obtain ⟨p, hp⟩ : ∃ p, p = wr.heap.size := ⟨_, rfl⟩
      rw [← hp] at ho5 hql ⊢
      have Hp := Lib.hid hp
      clear hp ho
      have c0 := cell_obj (i := 0) ho5 rfl
      have c1 := cell_obj (i := 1) ho5 rfl
      have c2 := cell_obj (i := 2) ho5 rfl
      have c3' := cell_obj (i := 3) ho5 rfl
      have c4 := cell_obj (i := 4) ho5 rfl
      have c5 := cell_obj (i := 5) ho5 rfl
      have f2 := free_obj (i := 2) ho5
      go_wp2_with (with_reducible first | refine stop_append ?_ | refine stop_copy ?_ | refine stop_make ?_ | refine stop_lookup ?_ | refine stop_update ?_ | refine stop_slice ?_ | refine stop_range ?_ | refine stop_next ?_ | refine stop_convert ⟨_, rfl⟩ ?_ | refine stop_convertB ⟨_, _, _, rfl⟩ ?_ | refine stop_eqSlice ⟨_, _, rfl⟩ ?_)
      have e6 : (w5.setCell ⟨p, 2, none⟩ (.slice An cut.length cn)).heap.size = w5.heap.size := by simp
      have hc6 : Chg (At p) w5 (w5.setCell ⟨p, 2, none⟩ (.slice An cut.length cn)) := chg_set _
      clear c0 c1 c2 c3' c4 c5 f2 ho5
      generalize w5.setCell ⟨p, 2, none⟩ (.slice An cut.length cn) = w6 at *
      rw [← e6]
      have hc16 : Chg No wr w6 := (hca.trans hc5).old hc6 (fun i h => by have := Hp.out; simp only [At] at h; omega)
      have hc67 := (Chg.refl No w6).alloc (.cells #[.int .i64 n, .int .i64 kd, .slice An cut.length cn, .int .i64 tag, .int .i64 t, .int .i64 u] 58)
      have hobl : ∀ i, OB (.slice A3 acc.length c3) i → w.heap.size ≤ i ∧ i < wr.heap.size := fun i hi => Hown.out.lt i hi
      have hw4 := hca.size
      have hw1 := hc1.size
      have hsn6 : Sl (Or (Lt w.heap.size) (OB (.slice A3 acc.length c3))) w6 (.slice An cut.length cn) cut :=
        ((Hsn.out.weak (G := Or (Or (Lt w.heap.size) (OB (.slice A3 acc.length c3))) (At p)) (fun i _ hi => by
          simp only [Lt]
          rcases hi with (hi | hi) | hi
          · simp only [Lt] at hi; omega
          · have := hobl i hi; omega
          · simp only [At] at hi; omega)).keep (hc6.weak (fun i _ hi => .inr hi))).weak (fun i _ hi => .inl hi)
      have hlit : Sl (Or (Lt w.heap.size) (OB (.slice A3 acc.length c3))) (w6.alloc (.cells #[.int .i64 n, .int .i64 kd, .slice An cut.length cn, .int .i64 tag, .int .i64 t, .int .i64 u] 58)) (.slice (some ⟨w6.heap.size, 0, none⟩) 1 1) [(n, kd, cut, tag, t, u)] :=
        Sl.lit1 rfl (ent_mk (n, kd, cut, tag, t, u) hsn6) (fun hi => by
          have := hc16.size
          rcases hi with hi | hi
          · simp only [Lt] at hi; omega
          · have := hobl _ hi; omega)
      refine step_append_sl (α := Ent) (F := Lt w.heap.size) (G := Or (Lt w.heap.size) (OB (.slice A3 acc.length c3))) Try.underlying28 info_ent rfl (Hown.out.keep (hc16.trans hc67) (fun _ _ f => f.elim) (fun _ _ f => f)) rfl rfl hlit (fun i _ hi => hi) (by have := Hlen.out; simp; omega) (by have := Hlen.out; simp [ent_n]; omega) (by have := hc16.size; have := hc67.size; omega) ?_
      intro v6 w8 hown6 hg6
      rw [← Htk.out] at hown6
      have hcw : Chg No w w8 := ((hc1.trans hc16).trans hc67).grew hg6 (fun i hi => .inr (hobl i hi).1)
      have Hown6 := Lib.hid hown6
      clear hown6 hg6 hlit hsn6
      go_wp2_with (with_reducible first | refine stop_append ?_ | refine stop_copy ?_ | refine stop_make ?_ | refine stop_lookup ?_ | refine stop_update ?_ | refine stop_slice ?_ | refine stop_range ?_ | refine stop_next ?_ | refine stop_convert ⟨_, rfl⟩ ?_ | refine stop_convertB ⟨_, _, _, rfl⟩ ?_ | refine stop_eqSlice ⟨_, _, rfl⟩ ?_)
      go_roundw
      case rel => exact ⟨k + 1, by omega, by go_num, hcw, Hown6.out⟩
      case measure => simp [intOf]; omega
    · obtain rfl : k = l.length := by omega
      rw [List.take_length] at hown
      have Hown := Lib.hid hown
      obtain ⟨A3, c3, rfl⟩ := hown.slice
      clear hown
      go_wp2_with (with_reducible first | refine stop_append ?_ | refine stop_copy ?_ | refine stop_make ?_ | refine stop_lookup ?_ | refine stop_update ?_ | refine stop_slice ?_ | refine stop_range ?_ | refine stop_next ?_ | refine stop_convert ⟨_, rfl⟩ ?_ | refine stop_convertB ⟨_, _, _, rfl⟩ ?_ | refine stop_eqSlice ⟨_, _, rfl⟩ ?_)
      go_ret
      exact ⟨_, rfl, hc1, Hown.out.sl (fun i hi f => by have := (Hown.out.lt i hi).1; simp only [Lt] at f; omega)⟩
end Go.Proofs.Ytbjpoamnglfjeaa


/- Walks of package entry for a register: Same; rows of entries compared. -/
set_option linter.unusedVariables false
set_option linter.unusedSimpArgs false
namespace Go.Proofs.Ytbjpoamnglfjeaa
open Go.RowKit Cb

set_option maxRecDepth 100000 in
set_option maxHeartbeats 1000000 in
theorem esame_any (F G : Nat → Prop) (x y : Ent) (v u : Value) (w : World) (hx : Sl F w v x.2.2.1) (hy : Sl G w u y.2.2.1) (hl : x.2.2.1.length ≤ 1000000) (hl' : y.2.2.1.length ≤ 17592186044416) :
    Calls Try.prog 71 #[entV x v, entV y u] w fun e w' => e = .returned (.bool (decide (x = y))) ∧ Chg No w w' := by
  have Hq := Lib.hid (fun W (hW : Chg No w W) => vequal_any F G v u _ _ W (hx.keepNo hW) (hy.keepNo hW) hl hl')
  obtain ⟨n, k, cut, tag, t, p⟩ := x
  obtain ⟨n', k', cut', tag', t', p'⟩ := y
  simp only at *
  obtain ⟨A, c, rfl⟩ := hx.slice
  obtain ⟨B, d, rfl⟩ := hy.slice
  clear hx hy
  have hr : decide (((n, k, cut, tag, t, p) : Ent) = (n', k', cut', tag', t', p')) = (decide (n = n') && (decide (k = k') && (decide (cut = cut') && (decide (tag = tag') && (decide (t = t') && decide (p = p')))))) := by
    simp only [Prod.mk.injEq, Bool.decide_and]
  rw [hr]
  clear hr
  unfold entV
  simp only
  generalize decide (cut = cut') = cb at *
  have o1 := ((Chg.refl No (w.alloc (.cells #[.int .i64 n, .int .i64 k, .slice A cut.length c, .int .i64 tag, .int .i64 t, .int .i64 p] 58))).alloc (.cells #[.int .i64 n', .int .i64 k', .slice B cut'.length d, .int .i64 tag', .int .i64 t', .int .i64 p'] 58)).obj (alloc_obj w (.cells #[.int .i64 n, .int .i64 k, .slice A cut.length c, .int .i64 tag, .int .i64 t, .int .i64 p] 58)) (not_no _)
  have o2 := alloc_obj (w.alloc (.cells #[.int .i64 n, .int .i64 k, .slice A cut.length c, .int .i64 tag, .int .i64 t, .int .i64 p] 58)) (.cells #[.int .i64 n', .int .i64 k', .slice B cut'.length d, .int .i64 tag', .int .i64 t', .int .i64 p'] 58)
  have hz : (w.alloc (.cells #[.int .i64 n, .int .i64 k, .slice A cut.length c, .int .i64 tag, .int .i64 t, .int .i64 p] 58)).heap.size = w.heap.size + 1 := by simp
  have hc0 := ((Chg.refl No w).alloc (.cells #[.int .i64 n, .int .i64 k, .slice A cut.length c, .int .i64 tag, .int .i64 t, .int .i64 p] 58)).alloc (.cells #[.int .i64 n', .int .i64 k', .slice B cut'.length d, .int .i64 tag', .int .i64 t', .int .i64 p'] 58)
  rw [hz] at o2
  clear hz
  have a0 := cell_obj (i := 0) o1 rfl
  have a1 := cell_obj (i := 1) o1 rfl
  have a2 := cell_obj (i := 2) o1 rfl
  have a3 := cell_obj (i := 3) o1 rfl
  have a4 := cell_obj (i := 4) o1 rfl
  have a5 := cell_obj (i := 5) o1 rfl
  have b0 := cell_obj (i := 0) o2 rfl
  have b1 := cell_obj (i := 1) o2 rfl
  have b2 := cell_obj (i := 2) o2 rfl
  have b3 := cell_obj (i := 3) o2 rfl
  have b4 := cell_obj (i := 4) o2 rfl
  have b5 := cell_obj (i := 5) o2 rfl
  clear o1 o2
  by_cases h1 : n = n'
  · subst h1
    by_cases h2 : k = k'
    · subst h2
      simp only [decide_true, Bool.true_and]
      go_enter Try.func71, Try.ntmps71
      go_wp2_with (with_reducible first | refine stop_append ?_ | refine stop_copy ?_ | refine stop_make ?_ | refine stop_lookup ?_ | refine stop_update ?_ | refine stop_slice ?_ | refine stop_range ?_ | refine stop_next ?_ | refine stop_convert ⟨_, rfl⟩ ?_ | refine stop_convertB ⟨_, _, _, rfl⟩ ?_ | refine stop_eqSlice ⟨_, _, rfl⟩ ?_)
      generalize (w.alloc (.cells #[.int .i64 n, .int .i64 k, .slice A cut.length c, .int .i64 tag, .int .i64 t, .int .i64 p] 58)).alloc (.cells #[.int .i64 n, .int .i64 k, .slice B cut'.length d, .int .i64 tag', .int .i64 t', .int .i64 p'] 58) = w0 at *
      generalize w.heap.size + 1 = q2 at *
      generalize w.heap.size = q1 at *
      refine (Hq.out _ hc0).mono ?_
      rintro e w1 ⟨rfl, hc1⟩
      have hcw1 := hc0.trans hc1
      replace a3 := hc1.cell a3 (not_no _)
      replace a4 := hc1.cell a4 (not_no _)
      replace a5 := hc1.cell a5 (not_no _)
      replace b3 := hc1.cell b3 (not_no _)
      replace b4 := hc1.cell b4 (not_no _)
      replace b5 := hc1.cell b5 (not_no _)
      clear a0 a1 b0 b1 a2 b2 hc1
      cases cb
      · go_wp2_with (with_reducible first | refine stop_append ?_ | refine stop_copy ?_ | refine stop_make ?_ | refine stop_lookup ?_ | refine stop_update ?_ | refine stop_slice ?_ | refine stop_range ?_ | refine stop_next ?_ | refine stop_convert ⟨_, rfl⟩ ?_ | refine stop_convertB ⟨_, _, _, rfl⟩ ?_ | refine stop_eqSlice ⟨_, _, rfl⟩ ?_)
        go_ret
        exact ⟨rfl, hcw1⟩
      · by_cases h3 : tag = tag'
        · subst h3
          by_cases h4 : t = t'
          · subst h4
            by_cases h5 : p = p'
            · subst h5
              go_wp2_with (with_reducible first | refine stop_append ?_ | refine stop_copy ?_ | refine stop_make ?_ | refine stop_lookup ?_ | refine stop_update ?_ | refine stop_slice ?_ | refine stop_range ?_ | refine stop_next ?_ | refine stop_convert ⟨_, rfl⟩ ?_ | refine stop_convertB ⟨_, _, _, rfl⟩ ?_ | refine stop_eqSlice ⟨_, _, rfl⟩ ?_)
              go_ret
              exact ⟨by simp, hcw1⟩
            · have e5 : (p == p') = false := by simpa using h5
              go_wp2_with (with_reducible first | refine stop_append ?_ | refine stop_copy ?_ | refine stop_make ?_ | refine stop_lookup ?_ | refine stop_update ?_ | refine stop_slice ?_ | refine stop_range ?_ | refine stop_next ?_ | refine stop_convert ⟨_, rfl⟩ ?_ | refine stop_convertB ⟨_, _, _, rfl⟩ ?_ | refine stop_eqSlice ⟨_, _, rfl⟩ ?_)
              go_ret
              exact ⟨by simp [h5], hcw1⟩
          · have e4 : (t == t') = false := by simpa using h4
            go_wp2_with (with_reducible first | refine stop_append ?_ | refine stop_copy ?_ | refine stop_make ?_ | refine stop_lookup ?_ | refine stop_update ?_ | refine stop_slice ?_ | refine stop_range ?_ | refine stop_next ?_ | refine stop_convert ⟨_, rfl⟩ ?_ | refine stop_convertB ⟨_, _, _, rfl⟩ ?_ | refine stop_eqSlice ⟨_, _, rfl⟩ ?_)
            go_ret
            exact ⟨by simp [h4], hcw1⟩
        · have e3 : (tag == tag') = false := by simpa using h3
          go_wp2_with (with_reducible first | refine stop_append ?_ | refine stop_copy ?_ | refine stop_make ?_ | refine stop_lookup ?_ | refine stop_update ?_ | refine stop_slice ?_ | refine stop_range ?_ | refine stop_next ?_ | refine stop_convert ⟨_, rfl⟩ ?_ | refine stop_convertB ⟨_, _, _, rfl⟩ ?_ | refine stop_eqSlice ⟨_, _, rfl⟩ ?_)
          go_ret
          exact ⟨by simp [h3], hcw1⟩
    · have h1 : (k == k') = false := by simpa using h2
      rw [decide_eq_false h2]
      clear h2
      go_enter Try.func71, Try.ntmps71
      go_wp2_with (with_reducible first | refine stop_append ?_ | refine stop_copy ?_ | refine stop_make ?_ | refine stop_lookup ?_ | refine stop_update ?_ | refine stop_slice ?_ | refine stop_range ?_ | refine stop_next ?_ | refine stop_convert ⟨_, rfl⟩ ?_ | refine stop_convertB ⟨_, _, _, rfl⟩ ?_ | refine stop_eqSlice ⟨_, _, rfl⟩ ?_)
      go_ret
      exact ⟨by simp, hc0⟩
  · have h2 : (n == n') = false := by simpa using h1
    rw [decide_eq_false h1]
    clear h1
    go_enter Try.func71, Try.ntmps71
    go_wp2_with (with_reducible first | refine stop_append ?_ | refine stop_copy ?_ | refine stop_make ?_ | refine stop_lookup ?_ | refine stop_update ?_ | refine stop_slice ?_ | refine stop_range ?_ | refine stop_next ?_ | refine stop_convert ⟨_, rfl⟩ ?_ | refine stop_convertB ⟨_, _, _, rfl⟩ ?_ | refine stop_eqSlice ⟨_, _, rfl⟩ ?_)
    go_ret
    exact ⟨by simp, hc0⟩
end Go.Proofs.Ytbjpoamnglfjeaa


/- Walks for a register: rows of entries compared by entry.Same. -/
set_option linter.unusedVariables false
set_option linter.unusedSimpArgs false
namespace Go.Proofs.Ytbjpoamnglfjeaa
open Go.RowKit Cb

set_option maxRecDepth 100000 in
set_option maxHeartbeats 2000000 in
theorem eqents_any (F G : Nat → Prop) (v u : Value) (xs ys : List Ent) (w : World) (h : Sl F w v xs) (h' : Sl G w u ys) (hl : xs.length ≤ 2199023255488) (hl' : ys.length ≤ 17592186044416) (hb : ∀ x ∈ xs, x.2.2.1.length ≤ 1000000) (hb' : ∀ x ∈ ys, x.2.2.1.length ≤ 17592186044416) :
    Calls Try.prog 70 #[v, u, .func (.func 71) #[] #[]] w fun e w' => e = .returned (.bool (decide (xs = ys))) ∧ Chg No w w' := by
  obtain ⟨A, c, rfl⟩ := h.slice
  obtain ⟨B, d, rfl⟩ := h'.slice
  have H := Lib.hid h; have H' := Lib.hid h'; have Hb := Lib.hid hb; have Hb' := Lib.hid hb'
  clear h h' hb hb'
  by_cases hlen : xs.length = ys.length
  · go_enter Try.func70, Try.ntmps70
    have Hlen := Lib.hid hlen
    rw [← hlen] at H' hl' ⊢
    clear hlen
    go_wp2_with (with_reducible first | refine stop_append ?_ | refine stop_copy ?_ | refine stop_make ?_ | refine stop_lookup ?_ | refine stop_update ?_ | refine stop_slice ?_ | refine stop_range ?_ | refine stop_next ?_ | refine stop_convert ⟨_, rfl⟩ ?_ | refine stop_convertB ⟨_, _, _, rfl⟩ ?_ | refine stop_eqSlice ⟨_, _, rfl⟩ ?_)
    go_loopw [7, 17] (fun _ v17 wr => ∃ k : Nat, k ≤ xs.length ∧ v17 = .int .i64 k ∧ Chg No w wr ∧ xs.take k = ys.take k) (fun _ v17 _ => xs.length - (intOf v17).toNat)
    case atStart => exact ⟨0, by omega, rfl, Chg.refl _ _, rfl⟩
    case round =>
      obtain ⟨k, hk, rfl, hc, he⟩ := hrel
      have He := Lib.hid he; clear he
      by_cases hlt : k < xs.length
      · have hlt' : k < ys.length := by have := Hlen.out; omega
        obtain ⟨b, o, vx, rfl, _, hbl, hux, a0, a1, a2, a3, a4, a5⟩ := ent_get (H.out.keepNo hc) k hlt
        have hgy : Sl G w (.slice B xs.length d) ys := H'.out
        obtain ⟨b', o', vy, rfl, _, hbl', huy, c0, c1, c2, c3, c4, c5⟩ := ent_get (hgy.keepNo hc) k hlt'
        have hsx : xs.take (k + 1) = xs.take k ++ [xs[k]] := List.take_succ_eq_append_getElem hlt
        have hsy : ys.take (k + 1) = ys.take k ++ [ys[k]] := List.take_succ_eq_append_getElem hlt'
        have hxy : xs[k] ≠ ys[k] → xs ≠ ys := fun h e => h (by subst e; rfl)
        have hbx := Hb.out _ (List.getElem_mem hlt)
        have hby := Hb'.out _ (List.getElem_mem hlt')
        clear hgy
        generalize xs[k] = x at *
        generalize ys[k] = y at *
        have Hcall := Lib.hid (fun W (hW : Chg No wr W) => esame_any F G x y vx vy W (hux.keepNo hW) (huy.keepNo hW) hbx hby)
        obtain ⟨Ax, cx, rfl⟩ := hux.slice
        obtain ⟨Ay, cy, rfl⟩ := huy.slice
        have Hsx := Lib.hid hsx; have Hsy := Lib.hid hsy; have Hxy := Lib.hid hxy
        clear hsx hsy hxy hux huy
        obtain ⟨res, hres⟩ : ∃ r, r = decide (x = y) := ⟨_, rfl⟩
        rw [← hres] at Hcall
        have Hres := Lib.hid hres
        clear hres
        have Hxe := Lib.hid (show res = true → x = y from fun h => of_decide_eq_true (Hres.out ▸ h))
        have Hxn := Lib.hid (show res = false → x ≠ y from fun h => of_decide_eq_false (Hres.out ▸ h))
        have Hgo := Lib.hid (show res = true → xs.take (k + 1) = ys.take (k + 1) from fun h => by rw [Hsx.out, Hsy.out, He.out, Hxe.out h])
        have Hno := Lib.hid (show res = false → decide (xs = ys) = false from fun h => decide_eq_false (Hxy.out (Hxn.out h)))
        clear Hres Hxe Hxn Hxy Hsx Hsy
        obtain ⟨n, kd, cut, tag, t, p⟩ := x
        obtain ⟨n', kd', cut', tag', t', p'⟩ := y
        unfold entV at Hcall
        simp only at *
        have hcA := (Chg.refl No wr).alloc (.cells #[.int .i64 n, .int .i64 kd, .slice Ax cut.length cx, .int .i64 tag, .int .i64 t, .int .i64 p] 58)
        have o1 := ((Chg.refl No (wr.alloc (.cells #[.int .i64 n, .int .i64 kd, .slice Ax cut.length cx, .int .i64 tag, .int .i64 t, .int .i64 p] 58))).alloc (.cells #[.int .i64 n', .int .i64 kd', .slice Ay cut'.length cy, .int .i64 tag', .int .i64 t', .int .i64 p'] 58)).obj (alloc_obj wr (.cells #[.int .i64 n, .int .i64 kd, .slice Ax cut.length cx, .int .i64 tag, .int .i64 t, .int .i64 p] 58)) (not_no _)
        have o2 := alloc_obj (wr.alloc (.cells #[.int .i64 n, .int .i64 kd, .slice Ax cut.length cx, .int .i64 tag, .int .i64 t, .int .i64 p] 58)) (.cells #[.int .i64 n', .int .i64 kd', .slice Ay cut'.length cy, .int .i64 tag', .int .i64 t', .int .i64 p'] 58)
        have hz : (wr.alloc (.cells #[.int .i64 n, .int .i64 kd, .slice Ax cut.length cx, .int .i64 tag, .int .i64 t, .int .i64 p] 58)).heap.size = wr.heap.size + 1 := by simp
        have hc0 := ((Chg.refl No wr).alloc (.cells #[.int .i64 n, .int .i64 kd, .slice Ax cut.length cx, .int .i64 tag, .int .i64 t, .int .i64 p] 58)).alloc (.cells #[.int .i64 n', .int .i64 kd', .slice Ay cut'.length cy, .int .i64 tag', .int .i64 t', .int .i64 p'] 58)
        rw [hz] at o2
        clear hz
        have e0 := hcA.cell c0 (not_no _)
        have e1 := hcA.cell c1 (not_no _)
        have e2 := hcA.cell c2 (not_no _)
        have e3 := hcA.cell c3 (not_no _)
        have e4 := hcA.cell c4 (not_no _)
        have e5 := hcA.cell c5 (not_no _)
        have g0 := cell_obj (i := 0) o1 rfl
        have g1 := cell_obj (i := 1) o1 rfl
        have g2 := cell_obj (i := 2) o1 rfl
        have g3 := cell_obj (i := 3) o1 rfl
        have g4 := cell_obj (i := 4) o1 rfl
        have g5 := cell_obj (i := 5) o1 rfl
        have f0 := cell_obj (i := 0) o2 rfl
        have f1 := cell_obj (i := 1) o2 rfl
        have f2 := cell_obj (i := 2) o2 rfl
        have f3 := cell_obj (i := 3) o2 rfl
        have f4 := cell_obj (i := 4) o2 rfl
        have f5 := cell_obj (i := 5) o2 rfl
        clear o1 o2 hcA
        cases res with
        | true =>
          have Hg := Lib.hid (Hgo.out rfl)
          clear Hgo Hno
          go_wp2_with (with_reducible first | refine stop_append ?_ | refine stop_copy ?_ | refine stop_make ?_ | refine stop_lookup ?_ | refine stop_update ?_ | refine stop_slice ?_ | refine stop_range ?_ | refine stop_next ?_ | refine stop_convert ⟨_, rfl⟩ ?_ | refine stop_convertB ⟨_, _, _, rfl⟩ ?_ | refine stop_eqSlice ⟨_, _, rfl⟩ ?_)
          refine (Hcall.out _ hc0).mono ?_
          rintro e w3 ⟨rfl, hc3⟩
          have hcw := (hc.trans hc0).trans hc3
          clear a0 a1 a2 a3 a4 a5 c0 c1 c2 c3 c4 c5 e0 e1 e2 e3 e4 e5 g0 g1 g2 g3 g4 g5 f0 f1 f2 f3 f4 f5
          go_wp2_with (with_reducible first | refine stop_append ?_ | refine stop_copy ?_ | refine stop_make ?_ | refine stop_lookup ?_ | refine stop_update ?_ | refine stop_slice ?_ | refine stop_range ?_ | refine stop_next ?_ | refine stop_convert ⟨_, rfl⟩ ?_ | refine stop_convertB ⟨_, _, _, rfl⟩ ?_ | refine stop_eqSlice ⟨_, _, rfl⟩ ?_)
          go_roundw
          case rel => exact ⟨k + 1, by omega, by go_num, hcw, Hg.out⟩
          case measure => simp [intOf]; omega
        | false =>
          have Hg := Lib.hid (Hno.out rfl)
          clear Hgo Hno
          go_wp2_with (with_reducible first | refine stop_append ?_ | refine stop_copy ?_ | refine stop_make ?_ | refine stop_lookup ?_ | refine stop_update ?_ | refine stop_slice ?_ | refine stop_range ?_ | refine stop_next ?_ | refine stop_convert ⟨_, rfl⟩ ?_ | refine stop_convertB ⟨_, _, _, rfl⟩ ?_ | refine stop_eqSlice ⟨_, _, rfl⟩ ?_)
          refine (Hcall.out _ hc0).mono ?_
          rintro e w3 ⟨rfl, hc3⟩
          have hcw := (hc.trans hc0).trans hc3
          clear a0 a1 a2 a3 a4 a5 c0 c1 c2 c3 c4 c5 e0 e1 e2 e3 e4 e5 g0 g1 g2 g3 g4 g5 f0 f1 f2 f3 f4 f5
          go_wp2_with (with_reducible first | refine stop_append ?_ | refine stop_copy ?_ | refine stop_make ?_ | refine stop_lookup ?_ | refine stop_update ?_ | refine stop_slice ?_ | refine stop_range ?_ | refine stop_next ?_ | refine stop_convert ⟨_, rfl⟩ ?_ | refine stop_convertB ⟨_, _, _, rfl⟩ ?_ | refine stop_eqSlice ⟨_, _, rfl⟩ ?_)
          go_ret
          exact ⟨by rw [Hg.out]; rfl, hcw⟩
      · obtain rfl : k = xs.length := by omega
        have he := He.out
        rw [List.take_length, Hlen.out, List.take_length] at he
        have Heq := Lib.hid he
        clear he He
        go_wp2_with (with_reducible first | refine stop_append ?_ | refine stop_copy ?_ | refine stop_make ?_ | refine stop_lookup ?_ | refine stop_update ?_ | refine stop_slice ?_ | refine stop_range ?_ | refine stop_next ?_ | refine stop_convert ⟨_, rfl⟩ ?_ | refine stop_convertB ⟨_, _, _, rfl⟩ ?_ | refine stop_eqSlice ⟨_, _, rfl⟩ ?_)
        go_ret
        exact ⟨by simp [Heq.out], hc⟩
  · have hne : ((xs.length : Int) != ys.length) = true := by simp; omega
    have hne2 : ((xs.length : Int) == ys.length) = false := by simp; omega
    have Hn := Lib.hid (show xs ≠ ys from fun e => hlen (by rw [e]))
    clear hlen
    go_enter Try.func70, Try.ntmps70
    go_wp2_with (with_reducible first | refine stop_append ?_ | refine stop_copy ?_ | refine stop_make ?_ | refine stop_lookup ?_ | refine stop_update ?_ | refine stop_slice ?_ | refine stop_range ?_ | refine stop_next ?_ | refine stop_convert ⟨_, rfl⟩ ?_ | refine stop_convertB ⟨_, _, _, rfl⟩ ?_ | refine stop_eqSlice ⟨_, _, rfl⟩ ?_)
    go_ret
    exact ⟨by simp [Hn.out], Chg.refl _ _⟩
end Go.Proofs.Ytbjpoamnglfjeaa

