/- Walks of package vector: the iterator of one shard's numbers; Quorum. -/
import Derived.Test.YtlpnbbjmcmjkpaaVecQ
import Derived.Test.YtlpnbbjmcmjkpaaFenL
import Derived.OwnWalkIn
import Derived.TacticsInMore
import Derived.LoopNIn
import Derived.LoopIn
import Derived.Shelf.Abstract
import Derived.Shelf.RegionOpen
set_option linter.unusedVariables false
set_option linter.unusedSimpArgs false
namespace Go.Proofs.Ytlpnbbjmcmjkpaa
open Go.RowKit Cb
attribute [local go_sem] Oper.semAt_some

theorem num_at {F : Nat → Prop} {w : World} {v : Value} {l : List Int} (h : Sl F w v l) (k : Nat) (hk : k < l.length) :
    ∃ b o c, v = .slice (some ⟨b, o, none⟩) l.length c ∧ ¬ F b ∧ b < w.heap.size ∧ w.cell? ⟨b, o + k, none⟩ = some (.int .i64 (l.getD k 0)) := by
  obtain ⟨A, c, rfl⟩ := h.slice
  obtain ⟨b, o, d, rfl, hF, hb, rfl, ha⟩ := h.get k hk
  refine ⟨b, o, c, rfl, hF, hb, ?_⟩
  have := ha 0 _ rfl
  simp only [show Rep.n Int = 1 from rfl, Nat.mul_one, Nat.add_zero] at this
  rw [this, List.getD_eq_getElem?_getD, List.getElem?_eq_getElem hk]; rfl
def encN (x : Int) : Array Value := #[.int .i64 x]
/-- What the iterator reads between two rounds. -/
structure ShQ (B q2 q3 t8 : Nat) (lv : Value) (k : Nat) (l : List (List Int)) (W : World) : Prop where
  c2 : W.cell? ⟨q2, 0, none⟩ = some lv
  c3 : W.cell? ⟨q3, 0, none⟩ = some (.int .i64 k)
  sl : Sl (fun b => B ≤ b ∨ b = t8) W lv l
  sz : B ≤ W.heap.size
theorem ShQ.keepNo {B q2 q3 t8 : Nat} {lv : Value} {k : Nat} {l : List (List Int)} {W W' : World} (h : ShQ B q2 q3 t8 lv k l W) (hc : Chg No W W') : ShQ B q2 q3 t8 lv k l W' :=
  ⟨hc.cell h.c2 (not_no _), hc.cell h.c3 (not_no _), h.sl.keepNo hc, Nat.le_trans h.sz hc.size⟩
theorem ShQ.keep {B q2 q3 t8 : Nat} {lv : Value} {k : Nat} {l : List (List Int)} {W W' : World} {G : Nat → Prop} (h : ShQ B q2 q3 t8 lv k l W) (hc : Chg G W W') (hG : ∀ i, G i → B ≤ i ∨ i = t8) (hq : q2 < B ∧ q2 ≠ t8 ∧ q3 < B ∧ q3 ≠ t8) : ShQ B q2 q3 t8 lv k l W' :=
  ⟨hc.cell h.c2 (fun g => by have := hG _ g; simp only at this; omega), hc.cell h.c3 (fun g => by have := hG _ g; simp only at this; omega), h.sl.keep (hc.weak (fun i _ g => hG i g)), Nat.le_trans h.sz hc.size⟩
theorem abides_no' {β : Type} {B : Nat} {J : β → World → Prop} (h : AbidesFrom B J) {s : β} {W W' : World} (hc : Chg No W W') (hj : J s W) : J s W' :=
  h s W W' none hj ⟨hc.os, hc.tape, hc.output, hc.size, fun k hk _ => hc.block k hk (not_no k)⟩ (fun r e => by cases e)
set_option maxRecDepth 100000 in
set_option maxHeartbeats 2000000 in
theorem shard1_in (B q2 q3 t8 : Nat) (lv : Value) (k : Nat) (l : List (List Int)) (hk : ∀ v ∈ l, k < v.length) (hll : l.length ≤ 1000000)
    (y : Nat) (J Jx : List Int → World → Prop)
    (hY : ∀ pre x W1, J pre W1 → pre.length < (l.map (·.getD k 0)).length → YieldAt Fence.wide 7 Try.prog y (encN x) W1 fun e W' =>
      (e = .returned (.bool true) ∧ J (pre ++ [x]) W' ∧ (ShQ B q2 q3 t8 lv k l W1 → ShQ B q2 q3 t8 lv k l W')) ∨ (e = .returned (.bool false) ∧ Jx (pre ++ [x]) W'))
    (W : World) (hJ : AbidesFrom W.heap.size J) (hq : ShQ B q2 q3 t8 lv k l W) (h0 : J [] W) :
    CallsIn Fence.wide 8 Try.prog 61 #[.func (.yield y) #[] #[], .pointer (some ⟨q2, 0, none⟩), .pointer (some ⟨q3, 0, none⟩)] W fun e W' => (∃ x, e = .returned x) ∧
      ((∃ ys, ys = l.map (·.getD k 0) ∧ J ys W') ∨ (∃ pre, True ∧ Jx pre W')) := by
  refine callsIn_of_wp Try.func61 rfl trivial ?_ rfl
  simp only [Try.ntmps61, List.size_toArray, List.length_cons, List.length_nil, Nat.reduceAdd, Nat.reduceSub, Array.replicate_succ, Array.replicate_zero, List.push_toArray, List.append_toArray, List.nil_append, List.cons_append]
  obtain ⟨Al, cl, rfl⟩ := hq.sl.slice
  have c2 := hq.c2
  have Hq := Lib.hid hq
  have HY := Lib.hid hY
  have HJ := Lib.hid (fun (pre : List Int) (W1 W2 : World) (h : Chg No W1 W2) (hj : J pre W1) => abides_no' hJ h hj)
  have Hk := Lib.hid hk
  have H0 := Lib.hid h0
  have hxl : (l.map (·.getD k 0)).length = l.length := List.length_map _
  have Hxs := Lib.hid (show ∀ j (h : j < l.length), (l.map (·.getD k 0)).take (j + 1) = (l.map (·.getD k 0)).take j ++ [l[j].getD k 0] from fun j h => by
    rw [List.take_succ_eq_append_getElem (by omega)]; simp)
  clear hq hY hJ hk h0
  gi_wp2
  gi_loopw [5, 8] (fun _ v8 wr => ∃ j : Nat, j ≤ l.length ∧ v8 = .int .i64 j ∧ J ((l.map (·.getD k 0)).take j) wr ∧ ShQ B q2 q3 t8 (.slice Al l.length cl) k l wr) (fun _ v8 _ => l.length - (intOf v8).toNat)
  case atStart => exact ⟨0, by omega, rfl, H0.out, Hq.out⟩
  case round =>
    clear c2 Hq
    obtain ⟨j, hj, rfl, hJj, hq⟩ := hrel
    have Hq := Lib.hid hq
    have Hj := Lib.hid hJj
    clear hJj
    by_cases hlt : j < l.length
    · obtain ⟨b, o, u, rfl, _, hbl, ha0, hu⟩ := rows_get hq.sl j hlt
      have hkl := Hk.out _ (List.getElem_mem hlt)
      obtain ⟨b2, o2, cu, rfl, _, hbl2, hb0⟩ := num_at hu k hkl
      have hxs := Hxs.out j hlt
      have c3 := hq.c3
      clear hu hq
      generalize l[j] = row at *
      generalize row.getD k 0 = x at *
      obtain ⟨fn, tmps, assign, body, hy, hR⟩ := HY.out _ x wr Hj.out (by rw [List.length_take]; omega)
      rw [← hxs] at hR
      have HR := Lib.hid hR
      dsimp only [encN] at hy
      have hkr : (k : Int) < row.length := by omega
      clear hR hxs HY
      gi_wp2
      refine HR.out.mono ?_
      rintro e W3 (⟨rfl, hJ4, hk4⟩ | ⟨rfl, hJx⟩)
      · have HJ4 := Lib.hid hJ4
        have Hq4 := Lib.hid (hk4 Hq.out)
        clear hJ4 hk4
        gi_wp2
        go_roundw
        case rel => exact ⟨j + 1, by omega, by go_num, HJ4.out, Hq4.out⟩
        case measure => simp [intOf]; omega
      · gi_wp2
        refine bodyPost_ret (results_none rfl _ _ _) rfl ?_
        exact ⟨⟨_, rfl⟩, .inr ⟨_, trivial, hJx⟩⟩
    · obtain rfl : j = l.length := by omega
      gi_wp2
      go_end0
      have h := Hj.out
      rw [List.take_of_length_le (by omega)] at h
      exact ⟨⟨_, rfl⟩, .inl ⟨_, rfl, h⟩⟩
end Go.Proofs.Ytlpnbbjmcmjkpaa
