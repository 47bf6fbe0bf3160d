/- Texts VecS, VecT, VecP, QuoK, RefV, RdcA. -/
import Derived.Test.YticimjplegbagaaMg11
import Derived.OwnWalkIn
import Derived.TacticsInMore
import Derived.LoopNIn
import Derived.LoopIn
import Derived.Shelf.Abstract
import Derived.Shelf.RegionOpen
/- Walks of package vector: the iterator of one shard's numbers; Quorum. -/
set_option linter.unusedVariables false
set_option linter.unusedSimpArgs false
namespace Go.Proofs.Yticimjplegbagaa
open Go.RowKit Cb
attribute [local go_sem] Oper.semAt_some

theorem num_at {F : Nat → Prop} {w : World} {v : Value} {l : List Int} (h : Sl F w v l) (k : Nat) (hk : k < l.length) :
    ∃ b o c, v = .slice (some ⟨b, o, none⟩) l.length c ∧ ¬ F b ∧ b < w.heap.size ∧ w.cell? ⟨b, o + k, none⟩ = some (.int .i64 (l.getD k 0)) := by
  obtain ⟨A, c, rfl⟩ := h.slice
  obtain ⟨b, o, d, rfl, hF, hb, rfl, ha⟩ := h.get k hk
  refine ⟨b, o, c, rfl, hF, hb, ?_⟩
  have := ha 0 _ rfl
  simp only [show Rep.n Int = 1 from rfl, Nat.mul_one, Nat.add_zero] at this
  rw [this, List.getD_eq_getElem?_getD, List.getElem?_eq_getElem hk]; rfl
def encN (x : Int) : Array Value := #[.int .i64 x]
/-- What the iterator reads between two rounds. -/
structure ShQ (B q2 q3 t8 : Nat) (lv : Value) (k : Nat) (l : List (List Int)) (W : World) : Prop where
  c2 : W.cell? ⟨q2, 0, none⟩ = some lv
  c3 : W.cell? ⟨q3, 0, none⟩ = some (.int .i64 k)
  sl : Sl (fun b => B ≤ b ∨ b = t8) W lv l
  sz : B ≤ W.heap.size
theorem ShQ.keepNo {B q2 q3 t8 : Nat} {lv : Value} {k : Nat} {l : List (List Int)} {W W' : World} (h : ShQ B q2 q3 t8 lv k l W) (hc : Chg No W W') : ShQ B q2 q3 t8 lv k l W' :=
  ⟨hc.cell h.c2 (not_no _), hc.cell h.c3 (not_no _), h.sl.keepNo hc, Nat.le_trans h.sz hc.size⟩
theorem ShQ.keep {B q2 q3 t8 : Nat} {lv : Value} {k : Nat} {l : List (List Int)} {W W' : World} {G : Nat → Prop} (h : ShQ B q2 q3 t8 lv k l W) (hc : Chg G W W') (hG : ∀ i, G i → B ≤ i ∨ i = t8) (hq : q2 < B ∧ q2 ≠ t8 ∧ q3 < B ∧ q3 ≠ t8) : ShQ B q2 q3 t8 lv k l W' :=
  ⟨hc.cell h.c2 (fun g => by have := hG _ g; simp only at this; omega), hc.cell h.c3 (fun g => by have := hG _ g; simp only at this; omega), h.sl.keep (hc.weak (fun i _ g => hG i g)), Nat.le_trans h.sz hc.size⟩
theorem abides_no' {β : Type} {B : Nat} {J : β → World → Prop} (h : AbidesFrom B J) {s : β} {W W' : World} (hc : Chg No W W') (hj : J s W) : J s W' :=
  h s W W' none hj ⟨hc.os, hc.tape, hc.output, hc.size, fun k hk _ => hc.block k hk (not_no k)⟩ (fun r e => by cases e)
set_option maxRecDepth 100000 in
set_option maxHeartbeats 2000000 in
theorem shard1_in (B q2 q3 t8 : Nat) (lv : Value) (k : Nat) (l : List (List Int)) (hk : ∀ v ∈ l, k < v.length) (hll : l.length ≤ 1000000)
    (y : Nat) (J Jx : List Int → World → Prop)
    (hY : ∀ pre x W1, J pre W1 → pre.length < (l.map (·.getD k 0)).length → YieldAt Fence.wide 7 Try.prog y (encN x) W1 fun e W' =>
      (e = .returned (.bool true) ∧ J (pre ++ [x]) W' ∧ (ShQ B q2 q3 t8 lv k l W1 → ShQ B q2 q3 t8 lv k l W')) ∨ (e = .returned (.bool false) ∧ Jx (pre ++ [x]) W'))
    (W : World) (hJ : AbidesFrom W.heap.size J) (hq : ShQ B q2 q3 t8 lv k l W) (h0 : J [] W) :
    CallsIn Fence.wide 8 Try.prog 80 #[.func (.yield y) #[] #[], .pointer (some ⟨q2, 0, none⟩), .pointer (some ⟨q3, 0, none⟩)] W fun e W' => (∃ x, e = .returned x) ∧
      ((∃ ys, ys = l.map (·.getD k 0) ∧ J ys W') ∨ (∃ pre, True ∧ Jx pre W')) := by
  refine callsIn_of_wp Try.func80 rfl trivial ?_ rfl
  simp only [Try.ntmps80, List.size_toArray, List.length_cons, List.length_nil, Nat.reduceAdd, Nat.reduceSub, Array.replicate_succ, Array.replicate_zero, List.push_toArray, List.append_toArray, List.nil_append, List.cons_append]
  obtain ⟨Al, cl, rfl⟩ := hq.sl.slice
  have c2 := hq.c2
  have Hq := Lib.hid hq
  have HY := Lib.hid hY
  have HJ := Lib.hid (fun (pre : List Int) (W1 W2 : World) (h : Chg No W1 W2) (hj : J pre W1) => abides_no' hJ h hj)
  have Hk := Lib.hid hk
  have H0 := Lib.hid h0
  have hxl : (l.map (·.getD k 0)).length = l.length := List.length_map _
  have Hxs := Lib.hid (show ∀ j (h : j < l.length), (l.map (·.getD k 0)).take (j + 1) = (l.map (·.getD k 0)).take j ++ [l[j].getD k 0] from fun j h => by
    rw [List.take_succ_eq_append_getElem (by omega)]; simp)
  clear hq hY hJ hk h0
  gi_wp2
  gi_loopw [5, 8] (fun _ v8 wr => ∃ j : Nat, j ≤ l.length ∧ v8 = .int .i64 j ∧ J ((l.map (·.getD k 0)).take j) wr ∧ ShQ B q2 q3 t8 (.slice Al l.length cl) k l wr) (fun _ v8 _ => l.length - (intOf v8).toNat)
  case atStart => exact ⟨0, by omega, rfl, H0.out, Hq.out⟩
  case round =>
    clear c2 Hq
    obtain ⟨j, hj, rfl, hJj, hq⟩ := hrel
    have Hq := Lib.hid hq
    have Hj := Lib.hid hJj
    clear hJj
    by_cases hlt : j < l.length
    · obtain ⟨b, o, u, rfl, _, hbl, ha0, hu⟩ := rows_get hq.sl j hlt
      have hkl := Hk.out _ (List.getElem_mem hlt)
      obtain ⟨b2, o2, cu, rfl, _, hbl2, hb0⟩ := num_at hu k hkl
      have hxs := Hxs.out j hlt
      have c3 := hq.c3
      clear hu hq
      generalize l[j] = row at *
      generalize row.getD k 0 = x at *
      obtain ⟨fn, tmps, assign, body, hy, hR⟩ := HY.out _ x wr Hj.out (by rw [List.length_take]; omega)
      rw [← hxs] at hR
      have HR := Lib.hid hR
      dsimp only [encN] at hy
      have hkr : (k : Int) < row.length := by omega
      clear hR hxs HY
      gi_wp2
      refine HR.out.mono ?_
      rintro e W3 (⟨rfl, hJ4, hk4⟩ | ⟨rfl, hJx⟩)
      · have HJ4 := Lib.hid hJ4
        have Hq4 := Lib.hid (hk4 Hq.out)
        clear hJ4 hk4
        gi_wp2
        go_roundw
        case rel => exact ⟨j + 1, by omega, by go_num, HJ4.out, Hq4.out⟩
        case measure => simp [intOf]; omega
      · gi_wp2
        refine bodyPost_ret (results_none rfl _ _ _) rfl ?_
        exact ⟨⟨_, rfl⟩, .inr ⟨_, trivial, hJx⟩⟩
    · obtain rfl : j = l.length := by omega
      gi_wp2
      go_end0
      have h := Hj.out
      rw [List.take_of_length_le (by omega)] at h
      exact ⟨⟨_, rfl⟩, .inl ⟨_, rfl, h⟩⟩
end Go.Proofs.Yticimjplegbagaa


/- Walks of package vector: Quorum. -/
set_option linter.unusedVariables false
set_option linter.unusedSimpArgs false
namespace Go.Proofs.Yticimjplegbagaa
open Go.RowKit Cb
attribute [local go_sem] Oper.semAt_some

def column (l : List (List Int)) (k : Nat) : List Int := l.map (·.getD k 0)
def headL (l : List (List Int)) : List Int := l.headD []
def quorBad (l : List (List Int)) : Bool := l.any fun v => !kindB v (headL l)
def quorumF (l : List (List Int)) (need : Int) : Option (List Int) :=
  if 0 < l.length ∧ (1 ≤ need ∧ need ≤ l.length) ∧ quorBad l = false then some ((List.range (headL l).length).map fun k => (sortI (column l k)).getD (l.length - need.toNat) 0) else none
theorem headL_get {l : List (List Int)} (h : 0 < l.length) : headL l = l[0] := by
  cases l with
  | nil => simp at h
  | cons x r => rfl
theorem vcontains_bad (F : Nat → Prop) (q2 : Nat) (A : Option Addr) (c : Nat) (l : List (List Int)) (w : World) (h0 : 0 < l.length) (hq : w.cell? ⟨q2, 0, none⟩ = some (.slice A l.length c)) (hl : Sl F w (.slice A l.length c) l)
    (hb : ∀ v ∈ l, v.length * 8 ≤ 140737488355328) (hll : l.length ≤ 17592186044416) :
    Calls Try.prog 54 #[.slice A l.length c, .func (.func 63) #[] #[.pointer (some ⟨q2, 0, none⟩)]] w fun e w' => e = .returned (.bool (quorBad l)) ∧ Chg No w w' := by
  refine (containsL_any F _ l (fun v => !kindB v (headL l)) 63 _ (fun args W => by kernel_rfl) w hl hll (fun i hi u W hW hu => ?_))
  rw [headL_get h0]
  exact quorum1_any F q2 A c l u l[i] W h0 (hW.cell hq (not_no _)) (hl.keepNo hW) hu hb (hb _ (List.getElem_mem hi)) hll
set_option maxRecDepth 100000 in
set_option maxHeartbeats 2000000 in
theorem quorum_any (F : Nat → Prop) (v : Value) (l : List (List Int)) (need : Int) (w : World) (hs : Sl F w v l) (hll : l.length ≤ 1000000) (hb : ∀ v ∈ l, v.length * 8 ≤ 140737488355328) :
    Calls Try.prog 45 #[v, .int .i64 need] w (PairPost (quorumF l need) w) := by
  obtain ⟨A, c, rfl⟩ := hs.slice
  have hc0 := (Chg.refl No w).alloc (.cells #[.slice A l.length c] 23)
  have o2 := alloc_obj w (.cells #[.slice A l.length c] 23)
  have Hs := Lib.hid (hs.keepNo hc0)
  have hcase : (l.length = 0 ∧ quorumF l need = none) ∨ (0 < l.length ∧ need < 1 ∧ quorumF l need = none) ∨ (0 < l.length ∧ 1 ≤ need ∧ (l.length : Int) < need ∧ quorumF l need = none) ∨
      (0 < l.length ∧ 1 ≤ need ∧ need ≤ l.length ∧ quorBad l = true ∧ quorumF l need = none) ∨
      (0 < l.length ∧ 1 ≤ need ∧ need ≤ l.length ∧ quorBad l = false ∧ quorumF l need = some ((List.range (headL l).length).map fun k => (sortI (column l k)).getD (l.length - need.toNat) 0)) := by
    unfold quorumF
    by_cases h0 : 0 < l.length
    · by_cases h1 : 1 ≤ need
      · by_cases h2 : need ≤ l.length
        · cases hq : quorBad l
          · exact .inr (.inr (.inr (.inr ⟨h0, h1, h2, rfl, by rw [if_pos ⟨h0, ⟨h1, h2⟩, rfl⟩]⟩)))
          · exact .inr (.inr (.inr (.inl ⟨h0, h1, h2, rfl, by rw [if_neg (by simp)]⟩)))
        · exact .inr (.inr (.inl ⟨h0, h1, by omega, by rw [if_neg (fun h => h2 h.2.1.2)]⟩))
      · exact .inr (.inl ⟨h0, by omega, by rw [if_neg (fun h => h1 h.2.1.1)]⟩)
    · exact .inl ⟨by omega, by rw [if_neg (fun h => h0 h.1)]⟩
  clear hs
  rcases hcase with ⟨h0, hr⟩ | ⟨h0, h1, hr⟩ | ⟨h0, h1, h2, hr⟩ | ⟨h0, h1, h2, hq, hr⟩ | ⟨h0, h1, h2, hq, hr⟩
  · rw [hr]
    rw [h0] at hc0 ⊢
    go_enter Try.func45, Try.ntmps45
    go_wp2_with (with_reducible first | refine stop_append ?_ | refine stop_copy ?_ | refine stop_make ?_ | refine stop_lookup ?_ | refine stop_update ?_ | refine stop_slice ?_ | refine stop_range ?_ | refine stop_next ?_ | refine stop_convert ⟨_, rfl⟩ ?_ | refine stop_convertB ⟨_, _, _, rfl⟩ ?_ | refine stop_eqSlice ⟨_, _, rfl⟩ ?_)
    go_ret2
    exact ⟨hc0, .inr ⟨rfl, rfl⟩⟩
  · rw [hr]
    have h0' : ((l.length : Int) == 0) = false := by
      have : l.length ≠ 0 := by omega
      simpa using this
    clear hr
    go_enter Try.func45, Try.ntmps45
    go_wp2_with (with_reducible first | refine stop_append ?_ | refine stop_copy ?_ | refine stop_make ?_ | refine stop_lookup ?_ | refine stop_update ?_ | refine stop_slice ?_ | refine stop_range ?_ | refine stop_next ?_ | refine stop_convert ⟨_, rfl⟩ ?_ | refine stop_convertB ⟨_, _, _, rfl⟩ ?_ | refine stop_eqSlice ⟨_, _, rfl⟩ ?_)
    go_ret2
    exact ⟨hc0, .inr ⟨rfl, rfl⟩⟩
  · rw [hr]
    have h0' : ((l.length : Int) == 0) = false := by
      have : l.length ≠ 0 := by omega
      simpa using this
    clear hr
    go_enter Try.func45, Try.ntmps45
    go_wp2_with (with_reducible first | refine stop_append ?_ | refine stop_copy ?_ | refine stop_make ?_ | refine stop_lookup ?_ | refine stop_update ?_ | refine stop_slice ?_ | refine stop_range ?_ | refine stop_next ?_ | refine stop_convert ⟨_, rfl⟩ ?_ | refine stop_convertB ⟨_, _, _, rfl⟩ ?_ | refine stop_eqSlice ⟨_, _, rfl⟩ ?_)
    go_ret2
    exact ⟨hc0, .inr ⟨rfl, rfl⟩⟩
  · rw [hr]
    have h0' : ((l.length : Int) == 0) = false := by
      have : l.length ≠ 0 := by omega
      simpa using this
    have Hcon := Lib.hid (vcontains_bad F w.heap.size A c l _ h0 (cell_obj (i := 0) o2 rfl) Hs.out hb (by omega))
    rw [hq] at Hcon
    clear hr hq
    go_enter Try.func45, Try.ntmps45
    go_wp2_with (with_reducible first | refine stop_append ?_ | refine stop_copy ?_ | refine stop_make ?_ | refine stop_lookup ?_ | refine stop_update ?_ | refine stop_slice ?_ | refine stop_range ?_ | refine stop_next ?_ | refine stop_convert ⟨_, rfl⟩ ?_ | refine stop_convertB ⟨_, _, _, rfl⟩ ?_ | refine stop_eqSlice ⟨_, _, rfl⟩ ?_)
    generalize w.alloc (.cells #[.slice A l.length c] 23) = w0 at *
    refine Hcon.out.mono ?_
    rintro e w1 ⟨rfl, hc1⟩
    go_wp2_with (with_reducible first | refine stop_append ?_ | refine stop_copy ?_ | refine stop_make ?_ | refine stop_lookup ?_ | refine stop_update ?_ | refine stop_slice ?_ | refine stop_range ?_ | refine stop_next ?_ | refine stop_convert ⟨_, rfl⟩ ?_ | refine stop_convertB ⟨_, _, _, rfl⟩ ?_ | refine stop_eqSlice ⟨_, _, rfl⟩ ?_)
    go_ret2
    exact ⟨hc0.trans hc1, .inr ⟨rfl, rfl⟩⟩
  · have h0' : ((l.length : Int) == 0) = false := by
      have : l.length ≠ 0 := by omega
      simpa using this
    have Hcon := Lib.hid (vcontains_bad F w.heap.size A c l _ h0 (cell_obj (i := 0) o2 rfl) Hs.out hb (by omega))
    rw [hq] at Hcon
    obtain ⟨nd, rfl⟩ : ∃ n : Nat, need = n := ⟨need.toNat, by omega⟩
    rw [Int.toNat_natCast] at hr
    have Hr := Lib.hid hr
    have Hq := Lib.hid hq
    clear hr hq
    refine calls_of_marks Try.func45 rfl ?_
    simp only [Try.ntmps45, List.size_toArray, List.length_cons, List.length_nil, Nat.reduceAdd, Nat.reduceSub, Array.replicate_succ, Array.replicate_zero, List.push_toArray, List.append_toArray, List.nil_append, List.cons_append]
    go_wp2_with (with_reducible first | refine stop_append ?_ | refine stop_copy ?_ | refine stop_make ?_ | refine stop_lookup ?_ | refine stop_update ?_ | refine stop_slice ?_ | refine stop_range ?_ | refine stop_next ?_ | refine stop_convert ⟨_, rfl⟩ ?_ | refine stop_convertB ⟨_, _, _, rfl⟩ ?_ | refine stop_eqSlice ⟨_, _, rfl⟩ ?_)
    generalize w.alloc (.cells #[.slice A l.length c] 23) = w0 at *
    generalize w.heap.size = q2 at *
    refine Hcon.out.mono ?_
    rintro e w1 ⟨rfl, hc1⟩
    have o2 := hc1.obj o2 (not_no _)
    have z2 : w1.cell? ⟨q2, 0, none⟩ = some (.slice A l.length c) := cell_obj (i := 0) o2 rfl
    obtain ⟨b, o, v0, rfl, _, hbl, ha0, hv0⟩ := rows_get (Hs.out.keepNo hc1) 0 h0
    simp only [Nat.add_zero] at ha0
    obtain ⟨A0, c0, rfl⟩ := hv0.slice
    rw [← headL_get h0] at ha0
    have hlen : (0 : Int) < l.length := by omega
    clear hv0
    go_wp2_with (with_reducible first | refine stop_append ?_ | refine stop_copy ?_ | refine stop_make ?_ | refine stop_lookup ?_ | refine stop_update ?_ | refine stop_slice ?_ | refine stop_range ?_ | refine stop_next ?_ | refine stop_convert ⟨_, rfl⟩ ?_ | refine stop_convertB ⟨_, _, _, rfl⟩ ?_ | refine stop_eqSlice ⟨_, _, rfl⟩ ?_)
    simp only [show decide ((nd : Int) < 1) = false by simp; omega, show decide (l.length < nd) = false by simp; omega, Bool.or_self]
    refine wp_loop (fun a' w' => ∃ (k : Nat) (Ds : List Nat) (v6 u7 u8 u9 u32 u33 u34 u35 u36 u37 u38 u39 u40 u41 u42 u43 u44 u45 u46 u47 u48 u49 u50 u51 u52 u53 u54 u55 : Value), (k ≤ (headL l).length ∧ Chg No w1 w' ∧ Cb.Own No w' w1.heap.size 3 v6 ((List.range k).map fun k => (sortI (column l k)).getD (l.length - nd) 0) ∧ Marked w' Ds ∧ (∀ D ∈ Ds, w1.heap.size ≤ D) ∧ u32 = .int .i64 k) ∧ a' = { tmps := #[.slice (some ⟨b, o, none⟩) l.length c, .int .i64 nd, .pointer (some ⟨q2, 0, none⟩), undef, .slice none 0 0, .bool false, v6, u7, u8, u9, .slice (some ⟨b, o, none⟩) l.length c, .int .i64 l.length, .bool false, .bool false, .int .i64 nd, .bool false, .bool false, .bool false, .int .i64 nd, .slice (some ⟨b, o, none⟩) l.length c, .int .i64 l.length, .bool false, .bool false, .bool false, .slice (some ⟨b, o, none⟩) l.length c, .func (.func 63) #[] #[.pointer (some ⟨q2, 0, none⟩)], .bool false, .bool false, .slice (some ⟨b, o, none⟩) l.length c, .pointer (some ⟨b, o, none⟩), .slice A0 (headL l).length c0, .int .i64 (headL l).length, u32, u33, u34, u35, u36, u37, u38, u39, u40, u41, u42, u43, u44, u45, u46, u47, u48, u49, u50, u51, u52, u53, u54, u55, undef], defers := marks Ds }) (fun a' _ => (headL l).length - (intOf (a'.tmps.getD 32 undef)).toNat) ?_ ?_
    · exact ⟨0, [], _, _, _, _, _, _, _, _, _, _, _, _, _, _, _, _, _, _, _, _, _, _, _, _, _, _, _, _, ⟨by omega, Chg.refl _ _, Cb.Own.nil _ _ _ _, ⟨List.nodup_nil, fun _ h => by cases h⟩, (fun _ h => by cases h), rfl⟩, rfl⟩
    · rintro a' wr ⟨k, Ds, v6, u7, u8, u9, u32, u33, u34, u35, u36, u37, u38, u39, u40, u41, u42, u43, u44, u45, u46, u47, u48, u49, u50, u51, u52, u53, u54, u55, ⟨hk, hcr, hown, hmk, hDs, rfl⟩, rfl⟩
      have Hown := Lib.hid hown
      have Hmk := Lib.hid hmk
      have HDs := Lib.hid hDs
      obtain ⟨A6, c6, e6⟩ := hown.slice
      rw [List.length_map, List.length_range] at e6
      subst e6
      clear hown hmk hDs
      by_cases hlt : k < (headL l).length
      · have z8 := ((Chg.refl No wr).alloc (.cells #[.slice none 0 0] 22)).cell (hcr.cell z2 (not_no _)) (not_no _)
        go_wp2_with (with_reducible first | refine stop_append ?_ | refine stop_copy ?_ | refine stop_make ?_ | refine stop_lookup ?_ | refine stop_update ?_ | refine stop_slice ?_ | refine stop_range ?_ | refine stop_next ?_ | refine stop_convert ⟨_, rfl⟩ ?_ | refine stop_convertB ⟨_, _, _, rfl⟩ ?_ | refine stop_eqSlice ⟨_, _, rfl⟩ ?_)
        refine (shard_any _ l.length c k _).mono ?_
        rintro e w2 ⟨rfl, rfl⟩
        obtain ⟨ws, hws⟩ : ∃ W, W = ((wr.alloc (.cells #[.slice none 0 0] 22)).alloc (.cells #[.slice (some ⟨b, o, none⟩) l.length c] 23)).alloc (.cells #[.int .i64 k] 3) := ⟨_, rfl⟩
        have hcs : Chg No wr ws := by rw [hws]; exact (((Chg.refl No wr).alloc _).alloc _).alloc _
        have o8 : ws.heap[wr.heap.size]? = some (.cells #[.slice none 0 0] 22 (0, 0)) := by rw [hws]; exact (((Chg.refl No _).alloc _).alloc _).obj (alloc_obj wr _) (not_no _)
        have o9 : ws.heap[wr.heap.size + 1]? = some (.cells #[.slice (some ⟨b, o, none⟩) l.length c] 23 (0, 0)) := by
          have := alloc_obj (wr.alloc (.cells #[.slice none 0 0] 22)) (.cells #[.slice (some ⟨b, o, none⟩) l.length c] 23)
          rw [World.size_alloc] at this
          rw [hws]; exact ((Chg.refl No _).alloc _).obj this (not_no _)
        have o10 : ws.heap[wr.heap.size + 1 + 1]? = some (.cells #[.int .i64 k] 3 (0, 0)) := by
          have := alloc_obj ((wr.alloc (.cells #[.slice none 0 0] 22)).alloc (.cells #[.slice (some ⟨b, o, none⟩) l.length c] 23)) (.cells #[.int .i64 k] 3)
          rw [World.size_alloc, World.size_alloc] at this
          rw [hws]; exact this
        have hB : ws.heap.size = wr.heap.size + 1 + 1 + 1 := by rw [hws]; simp
        simp only [World.size_alloc]
        rw [← hws]
        clear hws z8
        have hszr := hcr.size
        have hkl : ∀ v ∈ l, k < v.length := fun v hv => by
          have h3 := List.any_eq_false.1 Hq.out v hv
          have h4 : kindB v (headL l) = true := by simpa using h3
          obtain ⟨_, h5⟩ : (vright v = true ∧ vright (headL l) = true) ∧ v.length = (headL l).length := by simpa [kindB] using h4
          omega
        have hqs : ShQ ws.heap.size (wr.heap.size + 1) (wr.heap.size + 1 + 1) wr.heap.size (.slice (some ⟨b, o, none⟩) l.length c) k l ws :=
          ⟨cell_obj (i := 0) o9 rfl, cell_obj (i := 0) o10 rfl, ((Hs.out.keepNo hc1).weak (F := F) (G := fun i => w1.heap.size ≤ i) (fun i hi g => by omega)).keepNo (hcr.trans hcs) |>.weak (fun i _ g => by omega), Nat.le_refl _⟩
        go_wp2_with (with_reducible first | refine stop_append ?_ | refine stop_copy ?_ | refine stop_make ?_ | refine stop_lookup ?_ | refine stop_update ?_ | refine stop_slice ?_ | refine stop_range ?_ | refine stop_next ?_ | refine stop_convert ⟨_, rfl⟩ ?_ | refine stop_convertB ⟨_, _, _, rfl⟩ ?_ | refine stop_eqSlice ⟨_, _, rfl⟩ ?_)
        refine wp_rangeFunc_set (α := Int) (encs := encN) (gf := 80) (lb := #[.pointer (some ⟨wr.heap.size + 1, 0, none⟩), .pointer (some ⟨wr.heap.size + 1 + 1, 0, none⟩)]) rfl (fun args W => by kernel_rfl)
          (ShQ ws.heap.size (wr.heap.size + 1) (wr.heap.size + 1 + 1) wr.heap.size (.slice (some ⟨b, o, none⟩) l.length c) k l) (xs := column l k)
          (fun y J Jx W hW hJ _ hY h0 => shard1_in ws.heap.size _ _ wr.heap.size _ k l hkl hll y J Jx hY W hJ (hqs.keepNo (Chg.of_below hW)) h0) (fun _ => rfl)
          (fun pre W => ∃ v8, W.heap[wr.heap.size]? = some (.cells #[v8] 22 (0, 0)) ∧ Cb.Own No W ws.heap.size 3 v8 pre ∧ Chg (At wr.heap.size) ws W)
          ?own ?keeps ⟨_, o8, Cb.Own.nil _ _ _ _, Chg.refl _ _⟩ 9 (fun x => .int .i64 x) ?assign ?body ?done
        case own =>
          intro pre W W' row ⟨v8, h8, hown8, hc8⟩ hg hr
          refine ⟨v8, turn_obj h8 hg (fun r e => (hr r e).2), hown8.keepFlat ((Chg.refl (fun k => row = some k) W).grown hg (fun k e => .inl e)) (fun i hi g => ?_), hc8.grown hg (fun k e => .inr (hr k e).1)⟩
          obtain ⟨C, T, fz, hcell⟩ := hown8.cells i hi
          obtain ⟨oo, ho, hoc⟩ := (hr i g).2
          rw [hcell] at ho
          cases ho
          simp [Obj.isCells] at hoc
        case keeps =>
          intro W W' row hq hg hr
          exact hq.keep ((Chg.refl (fun k => row = some k) W).grown hg (fun k e => .inl e)) (fun i e => .inl (hr i e).1) (by omega)
        case assign =>
          intro y pre x W K hi hK
          rw [show wideAt (some y) = Fence.wide.inRound y from rfl]
          dsimp only [encN] at hK ⊢
          have HK := Lib.hid hK
          clear hK
          gi_wp2
          have hk := HK.out
          simp only [List.zip_toArray, List.zip_cons_cons, List.zip_nil_right, List.foldl_toArray, List.foldl_cons, List.foldl_nil, List.setIfInBounds_toArray, List.set_cons_zero, List.set_cons_succ] at hk
          exact hk
        case body =>
          intro y pre x W hi hlen
          dsimp only [encN]
          obtain ⟨v8, h8, hown8, hc8⟩ := hi
          simp only [List.zip_toArray, List.zip_cons_cons, List.zip_nil_right, List.foldl_toArray, List.foldl_cons, List.foldl_nil, List.setIfInBounds_toArray, List.set_cons_zero, List.set_cons_succ]
          refine wpIn_block ?_
          refine lini_start (by kernel_rfl) ?_
          have Hown8 := Lib.hid hown8
          obtain ⟨A8, c8, rfl⟩ := hown8.slice
          have y8 : W.cell? ⟨wr.heap.size, 0, none⟩ = some (.slice A8 pre.length c8) := cell_obj (i := 0) h8 rfl
          clear hown8
          have hpre : pre.length < 1000000 := by simp only [column, List.length_map] at hlen; omega
          have hobl : ∀ i, OB (.slice A8 pre.length c8) i → ws.heap.size ≤ i ∧ i < W.heap.size := fun i hi => Hown8.out.lt i hi
          have hq8W := lt_of_heap h8
          go_wp2_with (with_reducible first | refine stop_append ?_ | refine stop_copy ?_ | refine stop_make ?_ | refine stop_lookup ?_ | refine stop_update ?_ | refine stop_slice ?_ | refine stop_range ?_ | refine stop_next ?_ | refine stop_convert ⟨_, rfl⟩ ?_ | refine stop_convertB ⟨_, _, _, rfl⟩ ?_ | refine stop_eqSlice ⟨_, _, rfl⟩ ?_)
          have hcA := (Chg.refl No W).alloc (.cells #[.int .i64 x] 3)
          refine step_append_flat (α := Int) (ys := [x]) Try.underlying22 vinfo_int rfl (Hown8.out.alloc (.cells #[.int .i64 x] 3)) rfl rfl (Sl.lit1 (F := No) (y := x) rfl rfl (not_no _)) (by simp; omega) (by simp; omega) (by have := hc8.size; simp; omega) ?_
          intro v6 w6 hown6 hg6
          have h6 := hg6.chg.obj (hcA.obj h8 (not_no _)) (fun e => by have := hobl _ e; omega)
          have f6 := free_obj (i := 0) h6
          have y6 := cell_obj (i := 0) h6 (u := .slice A8 pre.length c8) rfl
          obtain ⟨A6', c6', rfl⟩ := hown6.slice
          rw [List.length_append, List.length_singleton] at *
          have hcW6 : Chg (OB (.slice A8 pre.length c8)) W w6 := hcA.of_no.trans hg6.chg
          have hset := chg_set (w := w6) (b := wr.heap.size) (i := 0) (.slice A6' (pre.length + 1) c6')
          have hcW : Chg (fun i => OB (.slice A8 pre.length c8) i ∨ i = wr.heap.size) W (w6.setCell ⟨wr.heap.size, 0, none⟩ (.slice A6' (pre.length + 1) c6')) := hcW6.trans' hset (fun _ _ g => .inl g) (fun _ _ g => .inr g)
          have hfin := Lib.hid (show KeepsFrom ws.heap.size W (w6.setCell ⟨wr.heap.size, 0, none⟩ (.slice A6' (pre.length + 1) c6')) from keeps_of_chg hcW (fun i oo g ho => by
            rcases g with g | g
            · obtain ⟨C, T, fz, hcell⟩ := Hown8.out.cells i g
              rw [hcell] at ho; cases ho; rfl
            · subst g; rw [h8] at ho; cases ho; rfl))
          have hown7 := hown6.keepFlat hset (fun i hi g => by
            simp only [At] at g
            have := hown6.lt i hi
            omega)
          have hcs8 : Chg (At wr.heap.size) ws (w6.setCell ⟨wr.heap.size, 0, none⟩ (.slice A6' (pre.length + 1) c6')) := hc8.trans' hcW (fun _ _ g => g) (fun i hi g => by
            rcases g with g | g
            · have := hobl i g; omega
            · exact g)
          have o7 : (w6.setCell ⟨wr.heap.size, 0, none⟩ (.slice A6' (pre.length + 1) c6')).heap[wr.heap.size]? = some (.cells #[.slice A6' (pre.length + 1) c6'] 22 (0, 0)) := obj_set h6 rfl
          have Hown7 := Lib.hid hown7
          clear hown6 hown7 hg6 h6 hset
          go_wp2_with (with_reducible first | refine stop_append ?_ | refine stop_copy ?_ | refine stop_make ?_ | refine stop_lookup ?_ | refine stop_update ?_ | refine stop_slice ?_ | refine stop_range ?_ | refine stop_next ?_ | refine stop_convert ⟨_, rfl⟩ ?_ | refine stop_convertB ⟨_, _, _, rfl⟩ ?_ | refine stop_eqSlice ⟨_, _, rfl⟩ ?_)
          simp only [Only]
          exact ⟨hfin.out, fun hq => hq.keep hcW (fun i g => by
            rcases g with g | g
            · exact .inl (hobl i g).1
            · exact .inr g) (by omega), _, o7, Hown7.out, hcs8⟩
        case done =>
          intro D W hD hi hK
          obtain ⟨v8, h8, hown8, hc8⟩ := hi
          have hcl : (column l k).length = l.length := by simp [column]
          obtain ⟨A8, c8, e8⟩ := hown8.slice
          rw [hcl] at e8
          subst e8
          have hmkW : Marked W (D :: Ds) := by
            have h3 := (Hmk.out.no hcs).keep hc8 (fun E hE e => by have := Hmk.out.lt E hE; simp only [At] at e; omega)
            refine ⟨List.nodup_cons.2 ⟨fun hE => by have := Hmk.out.lt D hE; omega, h3.1⟩, fun E hE => ?_⟩
            rcases List.mem_cons.1 hE with rfl | hE
            · exact hK
            · exact h3.2 E hE
          have hown6W := (Hown.out.keepFlat hcs (fun _ _ f => f)).keepFlat hc8 (fun i hi e => by have := (Hown.out.lt i hi).2; simp only [At] at e; omega)
          have hob6 : ∀ i, OB (.slice A6 k c6) i → i < wr.heap.size := fun i hi => (Hown.out.lt i hi).2
          have hob8 : ∀ i, OB (.slice A8 l.length c8) i → ws.heap.size ≤ i := fun i hi => (hown8.lt i hi).1
          have y8 : W.cell? ⟨wr.heap.size, 0, none⟩ = some (.slice A8 l.length c8) := cell_obj (i := 0) h8 rfl
          have Hsort := Lib.hid (vsort_any hown8 (by omega) (by omega))
          have hcell8 := hown8.cells
          have Hmk2 := Lib.hid (fun W' (hW : Chg (OB (.slice A8 l.length c8)) W W') => hmkW.keep hW (fun E hE hOB => hmkW.ne (hcell8 E hOB) E hE rfl))
          clear hown8 hmkW hcell8
          go_wp2_with (with_reducible first | refine stop_append ?_ | refine stop_copy ?_ | refine stop_make ?_ | refine stop_lookup ?_ | refine stop_update ?_ | refine stop_slice ?_ | refine stop_range ?_ | refine stop_next ?_ | refine stop_convert ⟨_, rfl⟩ ?_ | refine stop_convertB ⟨_, _, _, rfl⟩ ?_ | refine stop_eqSlice ⟨_, _, rfl⟩ ?_)
          refine Hsort.out.mono ?_
          rintro e w5 ⟨rfl, hown5, hc5⟩
          have hmk5 := Hmk2.out _ hc5
          have hown65 := hown6W.keepFlat hc5 (fun i hi e => by have := hob6 i hi; have := hob8 i e; omega)
          have h85 := hc5.obj h8 (fun e => by have := hob8 _ e; omega)
          have y85 : w5.cell? ⟨wr.heap.size, 0, none⟩ = some (.slice A8 l.length c8) := cell_obj (i := 0) h85 rfl
          obtain ⟨g, rfl, hg1, hg2⟩ := hown5.addr (by rw [sortI_len, hcl]; omega)
          have hget := hown5.get1 (l.length - nd) (by rw [sortI_len, hcl]; omega)
          have hgd : (sortI (column l k)).getD (l.length - nd) 0 = (sortI (column l k))[l.length - nd]'(by rw [sortI_len, hcl]; omega) := by
            rw [List.getD_eq_getElem?_getD, List.getElem?_eq_getElem (by rw [sortI_len, hcl]; omega)]; rfl
          rw [← hgd] at hget
          have hwr : IntKind.i64.wrap ((l.length : Int) - nd) = ((l.length - nd : Nat) : Int) := by rw [IntWalk.i64_in _ (by omega)]; omega
          have hrg : (List.range (k + 1)).map (fun k => (sortI (column l k)).getD (l.length - nd) 0) = (List.range k).map (fun k => (sortI (column l k)).getD (l.length - nd) 0) ++ [(sortI (column l k)).getD (l.length - nd) 0] := by
            rw [List.range_succ, List.map_append]; rfl
          have Hrg := Lib.hid hrg
          have hhl : (headL l).length ≤ 8 := by
            have h3 := List.any_eq_false.1 Hq.out l[0] (List.getElem_mem h0)
            have h4 : kindB l[0] (headL l) = true := by simpa using h3
            obtain ⟨⟨_, h5⟩, _⟩ : (vright l[0] = true ∧ vright (headL l) = true) ∧ l[0].length = (headL l).length := by simpa [kindB] using h4
            exact (vright_iff.1 h5).2.1
          have hrl : ((List.range k).map (fun k => (sortI (column l k)).getD (l.length - nd) 0)).length = k := by simp
          clear hgd hrg hown5
          generalize (sortI (column l k)).getD (l.length - nd) 0 = x at *
          generalize (List.range k).map (fun k => (sortI (column l k)).getD (l.length - nd) 0) = acc at *
          have Hrl := Lib.hid hrl
          clear hrl
          go_wp2_with (with_reducible first | refine stop_append ?_ | refine stop_copy ?_ | refine stop_make ?_ | refine stop_lookup ?_ | refine stop_update ?_ | refine stop_slice ?_ | refine stop_range ?_ | refine stop_next ?_ | refine stop_convert ⟨_, rfl⟩ ?_ | refine stop_convertB ⟨_, _, _, rfl⟩ ?_ | refine stop_eqSlice ⟨_, _, rfl⟩ ?_)
          have hcA := (Chg.refl No w5).alloc (.cells #[.int .i64 x] 3)
          refine step_append_flat (α := Int) (ys := [x]) Try.underlying22 vinfo_int rfl (hown65.alloc (.cells #[.int .i64 x] 3)) rfl rfl (Sl.lit1 (F := No) (y := x) rfl rfl (not_no _)) (by have := Hrl.out; simp; omega) (by have := Hrl.out; simp; omega) (by have := hc5.size; have := hc8.size; simp; omega) ?_
          intro v7 w7 hown7 hg7
          have hmk7 := (hmk5.no hcA).keep hg7.chg (fun E hE e => (hmk5.no hcA).ne ((hown65.alloc (.cells #[.int .i64 x] 3)).cells E e) E hE rfl)
          have hc7 : Chg No w1 w7 := ((((hcr.trans hcs).old hc8 (fun i e => by simp only [At] at e; omega)).old hc5 (fun i e => by have := hob8 i e; omega)).trans hcA).grew hg7 (fun i hi => .inr (Hown.out.lt i hi).1)
          rw [← Hrg.out] at hown7
          have Hown7 := Lib.hid hown7
          have Hmk7 := Lib.hid hmk7
          clear hown7 hg7 hmk7
          go_wp2_with (with_reducible first | refine stop_append ?_ | refine stop_copy ?_ | refine stop_make ?_ | refine stop_lookup ?_ | refine stop_update ?_ | refine stop_slice ?_ | refine stop_range ?_ | refine stop_next ?_ | refine stop_convert ⟨_, rfl⟩ ?_ | refine stop_convertB ⟨_, _, _, rfl⟩ ?_ | refine stop_eqSlice ⟨_, _, rfl⟩ ?_)
          refine ⟨⟨k + 1, D :: Ds, _, _, _, _, _, _, _, _, _, _, _, _, _, _, _, _, _, _, _, _, _, _, _, _, _, _, _, _, ⟨by omega, hc7, Hown7.out, Hmk7.out, fun E hE => ?_, ?_⟩, rfl⟩, ?_⟩
          · rcases List.mem_cons.1 hE with rfl | hE
            · omega
            · exact HDs.out E hE
          · go_num
          · simp [intOf]; omega
      · obtain rfl : k = (headL l).length := by omega
        go_wp2_with (with_reducible first | refine stop_append ?_ | refine stop_copy ?_ | refine stop_make ?_ | refine stop_lookup ?_ | refine stop_update ?_ | refine stop_slice ?_ | refine stop_range ?_ | refine stop_next ?_ | refine stop_convert ⟨_, rfl⟩ ?_ | refine stop_convertB ⟨_, _, _, rfl⟩ ?_ | refine stop_eqSlice ⟨_, _, rfl⟩ ?_)
        refine marks_retN (v := .tuple #[.slice A6 (headL l).length c6, .bool true]) Ds wr Hmk.out (fun W hW => ⟨by simp [results, Try.results45, go_sem], ?_⟩)
        have hcw : Chg No w W := ((hc0.trans hc1).trans hcr).old hW (fun D hD => by have := HDs.out D hD; have := (hc0.trans hc1).size; omega)
        have hownW := Hown.out.keepFlat hW (fun i hi hD => Hmk.out.ne (Hown.out.cells i hi) i hD rfl)
        refine ⟨hcw, .inl ⟨_, Hr.out, _, rfl, hownW.slFlat (G := Lt w.heap.size) (fun i hi h => by have := (hownW.lt i hi).1; have := (hc0.trans hc1).size; simp only [Lt] at h; omega)⟩⟩
end Go.Proofs.Yticimjplegbagaa


/- Vectors in plain words: laws of the greater, the lesser, the difference. -/
set_option linter.unusedVariables false
set_option linter.unusedSimpArgs false
namespace Go.Proofs.Yticimjplegbagaa
open Go.RowKit Cb

def PairOut (r : Option (List Int)) (w : World) (e : Ending) (w' : World) : Prop :=
  ∃ A c, e = .returned (.tuple #[.slice A (r.getD []).length c, .bool r.isSome]) ∧ Sl No w' (.slice A (r.getD []).length c) (r.getD []) ∧ Chg No w w'
theorem pair_out {r : Option (List Int)} {w w' : World} {e : Ending} (h : PairPost r w e w') : PairOut r w e w' := by
  obtain ⟨hc, ⟨z, rfl, v, rfl, hs⟩ | ⟨rfl, rfl⟩⟩ := h
  · obtain ⟨A, c, rfl⟩ := hs.slice
    exact ⟨A, c, rfl, hs.no, hc⟩
  · exact ⟨none, 0, rfl, Sl.nil _ _ _ _, hc⟩
theorem kind_iff {a b : List Int} : kindB a b = true ↔ vright a = true ∧ vright b = true ∧ a.length = b.length := by
  simp [kindB, and_assoc]
theorem covers_at {a b : List Int} : coversB a b = true ↔ kindB a b = true ∧ ∀ i (h : i < a.length) (h' : i < b.length), b[i] ≤ a[i] := by
  rw [covers_iff, kind_iff, geq_iff]
  constructor
  · rintro ⟨h1, h2, h3, h4⟩; exact ⟨⟨h1, h2, h3⟩, h4⟩
  · rintro ⟨⟨h1, h2, h3⟩, h4⟩; exact ⟨h1, h2, h3, h4⟩
end Go.Proofs.Yticimjplegbagaa


/- Walks of package quorum: Committed. -/
set_option linter.unusedVariables false
set_option linter.unusedSimpArgs false
namespace Go.Proofs.Yticimjplegbagaa
open Go.RowKit Cb

theorem qinfo_ints : Info Try.prog 22 (.slice none 0 0) 1 24 := by unfold Info; kernel_rfl
theorem num1_slq (w : World) (x : Int) (T : TypeId) : Sl (Lt w.heap.size) (w.alloc (.cells #[.int .i64 x] T)) (.slice (some ⟨w.heap.size, 0, none⟩) 1 1) [x] :=
  Sl.lit1 (F := Lt w.heap.size) (y := x) rfl rfl (fun g => by simp only [Lt] at g; omega)
def commL (st : PSt) : List (List Int) := st.nodes.map fun x => [hasF st.m x]
def commF (st : PSt) : Int := ((quorumF (commL st) st.need).getD []).headD 0
theorem comm_len {st : PSt} {v : List Int} (h : quorumF (commL st) st.need = some v) : v.length = 1 := by
  unfold quorumF at h
  split at h
  · rename_i hh
    cases h
    rw [List.length_map, List.length_range]
    cases hn : st.nodes with
    | nil => simp [commL, hn] at hh
    | cons a r => simp [commL, hn, headL]
  · cases h
set_option maxRecDepth 100000 in
set_option maxHeartbeats 4000000 in
theorem pcommitted_any (S : Nat → Prop) (p : Nat) (st : PSt) (w : World) (h : Pri w S p st) (hn : st.nodes.length ≤ 1000000) :
    Calls Try.prog 23 #[.pointer (some ⟨p, 0, none⟩)] w fun e w' => e = .returned (.int .i64 (commF st)) ∧ Chg No w w' := by
  obtain ⟨r, vn, vl, vz, h⟩ := h
  have Hlk := Lib.hid (fun W (hW : Chg No w W) (x : Int) => run_hasF (h.keepNo hW).map x)
  have Hs := Lib.hid (fun W (hW : Chg No w W) => (h.keepNo hW).nodes)
  obtain ⟨An, cn, rfl⟩ := h.nodes.slice
  have Hp := Lib.hid (fun W (hW : Chg No w W) => cell_obj (i := 3) (h.keepNo hW).obj rfl)
  have Hp6 := Lib.hid (fun W (hW : Chg No w W) => cell_obj (i := 6) (h.keepNo hW).obj rfl)
  have Hp2 := Lib.hid (fun W (hW : Chg No w W) => cell_obj (i := 2) (h.keepNo hW).obj rfl)
  have p3 := cell_obj (i := 3) h.obj rfl
  have hcl : (commL st).length = st.nodes.length := by simp [commL]
  have Hcf := Lib.hid (show commF st = ((quorumF (commL st) st.need).getD []).headD 0 from rfl)
  have Hcl := Lib.hid (fun v (hv : quorumF (commL st) st.need = some v) => comm_len hv)
  have Hq := Lib.hid (fun W v (hs : Sl No W v (commL st)) => quorum_any No v (commL st) st.need W hs (by omega) (fun u hu => by
    simp only [commL, List.mem_map] at hu
    obtain ⟨x, _, rfl⟩ := hu
    simp))
  have Htk := Lib.hid (fun k (hk : k < st.nodes.length) => show (commL st).take (k + 1) = (commL st).take k ++ [[hasF st.m st.nodes[k]]] by
    rw [List.take_succ_eq_append_getElem (by omega)]; simp [commL])
  clear h
  generalize commF st = cf at *
  generalize commL st = cl at *
  have Hcl2 := Lib.hid hcl
  clear hcl
  go_enter Try.func23, Try.ntmps23
  go_wp2_with (with_reducible first | refine stop_append ?_ | refine stop_copy ?_ | refine stop_make ?_ | refine stop_lookup ?_ | refine stop_update ?_ | refine stop_slice ?_ | refine stop_range ?_ | refine stop_next ?_ | refine stop_convert ⟨_, rfl⟩ ?_ | refine stop_convertB ⟨_, _, _, rfl⟩ ?_ | refine stop_eqSlice ⟨_, _, rfl⟩ ?_)
  clear p3
  go_loopw [3, 5, 13] (fun v3 _ v13 wr => ∃ k : Nat, k ≤ st.nodes.length ∧ v13 = .int .i64 k ∧ Chg No w wr ∧ Cb.Own No wr w.heap.size 22 v3 (cl.take k)) (fun _ _ v13 _ => st.nodes.length - (intOf v13).toNat)
  case atStart => exact ⟨0, by omega, rfl, Chg.refl _ _, Cb.Own.nil _ _ _ _⟩
  case round =>
    obtain ⟨k, hk, rfl, hc1, hown⟩ := hrel
    by_cases hlt : k < st.nodes.length
    · obtain ⟨b, o, rfl, _, hbl, hx0⟩ := intT_get (Hs.out wr hc1) k hlt
      have htk := Htk.out k hlt
      have hlk := Hlk.out wr hc1 st.nodes[k]
      have p6 := Hp6.out wr hc1
      generalize st.nodes[k] = x at *
      generalize hasF st.m x = y at *
      have hlen : (cl.take k).length = k := by have := Hcl2.out; simp; omega
      generalize cl.take k = acc at *
      obtain ⟨A3, c3, rfl⟩ := hown.slice
      have Hown := Lib.hid hown; have Htk2 := Lib.hid htk; have Hlen := Lib.hid hlen
      clear hown htk hlen
      go_wp2_with (with_reducible first | refine stop_append ?_ | refine stop_copy ?_ | refine stop_make ?_ | refine stop_update ?_ | refine stop_slice ?_ | refine stop_range ?_ | refine stop_next ?_ | refine stop_convert ⟨_, rfl⟩ ?_ | refine stop_convertB ⟨_, _, _, rfl⟩ ?_ | refine stop_eqSlice ⟨_, _, rfl⟩ ?_)
      have h1 := num1_slq wr y 3
      have hca := (Chg.refl No wr).alloc (.cells #[.int .i64 y] 3)
      have e4 : (wr.alloc (.cells #[.int .i64 y] 3)).heap.size = wr.heap.size + 1 := by simp
      have hobl : ∀ i, OB (.slice A3 acc.length c3) i → w.heap.size ≤ i ∧ i < wr.heap.size := fun i hi => Hown.out.lt i hi
      have hlit := Sl.lit1 (F := OB (.slice A3 acc.length c3)) (w := wr.alloc (.cells #[.int .i64 y] 3)) (T := 22) (y := [y]) (d := [.slice (some ⟨wr.heap.size, 0, none⟩) 1 1]) rfl ⟨_, rfl, h1.weak (fun k hk g => by
        have := hobl k g; simp only [Lt]; omega)⟩ (fun g => by have := hobl _ g; omega)
      rw [e4] at hlit
      generalize wr.alloc (.cells #[.int .i64 y] 3) = w4 at *
      have hcb := hca.alloc (.cells #[.slice (some ⟨wr.heap.size, 0, none⟩) 1 1] 22)
      refine step_append_sl (α := List Int) (F := No) (G := OB (.slice A3 acc.length c3)) Try.underlying23 qinfo_ints rfl (Hown.out.keep hcb (fun _ _ f => f) (fun _ _ f => f)) rfl rfl hlit (fun i _ hi => hi.elim (fun f => f.elim) id) (by have := Hlen.out; simp; omega) (by have := Hlen.out; simp; omega) (by have := hc1.size; have := hcb.size; omega) ?_
      intro v6 w6 hown6 hg6
      rw [← Htk2.out] at hown6
      have hcw : Chg No w w6 := (hc1.trans hcb).grew hg6 (fun i hi => .inr (hobl i hi).1)
      have Hown6 := Lib.hid hown6
      clear hown6 hg6 hlit h1 e4
      go_wp2_with (with_reducible first | refine stop_append ?_ | refine stop_copy ?_ | refine stop_make ?_ | refine stop_lookup ?_ | refine stop_update ?_ | refine stop_slice ?_ | refine stop_range ?_ | refine stop_next ?_ | refine stop_convert ⟨_, rfl⟩ ?_ | refine stop_convertB ⟨_, _, _, rfl⟩ ?_ | refine stop_eqSlice ⟨_, _, rfl⟩ ?_)
      go_roundw
      case rel => exact ⟨k + 1, by omega, by go_num, hcw, Hown6.out⟩
      case measure => simp [intOf]; omega
    · obtain rfl : k = st.nodes.length := by omega
      rw [← Hcl2.out, List.take_length] at hown
      have hsl : Sl No wr u3 cl := hown.sl (fun _ _ f => f)
      have p2 := Hp2.out wr hc1
      have Hq2 := Lib.hid ((Hq.out wr u3 hsl).mono (fun e w' hh => pair_out hh))
      clear hown Hq
      obtain ⟨A3, c3, rfl⟩ := hsl.slice
      clear hsl
      go_wp2_with (with_reducible first | refine stop_append ?_ | refine stop_copy ?_ | refine stop_make ?_ | refine stop_lookup ?_ | refine stop_update ?_ | refine stop_slice ?_ | refine stop_range ?_ | refine stop_next ?_ | refine stop_convert ⟨_, rfl⟩ ?_ | refine stop_convertB ⟨_, _, _, rfl⟩ ?_ | refine stop_eqSlice ⟨_, _, rfl⟩ ?_)
      generalize quorumF cl st.need = qr at *
      refine Hq2.out.mono ?_
      rintro e w2 ⟨A, c, rfl, hs2, hc2⟩
      rcases qr with _ | v
      · obtain rfl : cf = 0 := Hcf.out
        go_wp2_with (with_reducible first | refine stop_append ?_ | refine stop_copy ?_ | refine stop_make ?_ | refine stop_lookup ?_ | refine stop_update ?_ | refine stop_slice ?_ | refine stop_range ?_ | refine stop_next ?_ | refine stop_convert ⟨_, rfl⟩ ?_ | refine stop_convertB ⟨_, _, _, rfl⟩ ?_ | refine stop_eqSlice ⟨_, _, rfl⟩ ?_)
        go_ret
        exact ⟨rfl, hc1.trans hc2⟩
      · have hv1 := Hcl.out v rfl
        simp only [Option.getD_some, Option.isSome_some] at hs2 Hcf ⊢
        obtain ⟨b, o, rfl, _, hbl, hx0⟩ := intT_get hs2 0 (by omega)
        have Hy := Lib.hid (show cf = v[0] by rw [Hcf.out]; cases v with
          | nil => simp at hv1
          | cons a r => rfl)
        generalize v[0] = y at hx0 Hy
        rw [Nat.add_zero] at hx0
        go_wp2_with (with_reducible first | refine stop_append ?_ | refine stop_copy ?_ | refine stop_make ?_ | refine stop_lookup ?_ | refine stop_update ?_ | refine stop_slice ?_ | refine stop_range ?_ | refine stop_next ?_ | refine stop_convert ⟨_, rfl⟩ ?_ | refine stop_convertB ⟨_, _, _, rfl⟩ ?_ | refine stop_eqSlice ⟨_, _, rfl⟩ ?_)
        go_ret
        exact ⟨by rw [Hy.out]; rfl, hc1.trans hc2⟩
end Go.Proofs.Yticimjplegbagaa


/- Walks of the document's vector: Equal. -/
set_option linter.unusedVariables false
set_option linter.unusedSimpArgs false
namespace Go.Proofs.Yticimjplegbagaa
open Go.RowKit Cb

set_option maxRecDepth 100000 in
set_option maxHeartbeats 1000000 in
theorem requal_any (F G : Nat → Prop) (v u : Value) (xs ys : List Int) (w : World) (h : Sl F w v xs) (h' : Sl G w u ys) (hl : xs.length ≤ 17592186044416) (hl' : ys.length ≤ 17592186044416) :
    Calls Try.prog 59 #[v, u] w fun e w' => e = .returned (.bool (decide (xs = ys))) ∧ Chg No w w' := by
  obtain ⟨A, c, rfl⟩ := h.slice
  obtain ⟨B, d, rfl⟩ := h'.slice
  have H := Lib.hid h; have H' := Lib.hid h'
  clear h h'
  by_cases hlen : xs.length = ys.length
  · go_enter Try.func59, Try.ntmps59
    have Hlen := Lib.hid hlen
    rw [← hlen] at H' hl' ⊢
    clear hlen
    go_wp2_with (with_reducible first | refine stop_append ?_ | refine stop_copy ?_ | refine stop_make ?_ | refine stop_lookup ?_ | refine stop_update ?_ | refine stop_slice ?_ | refine stop_range ?_ | refine stop_next ?_ | refine stop_convert ⟨_, rfl⟩ ?_ | refine stop_convertB ⟨_, _, _, rfl⟩ ?_ | refine stop_eqSlice ⟨_, _, rfl⟩ ?_)
    go_loopw [5] (fun v5 wr => ∃ k : Nat, k ≤ xs.length ∧ v5 = .int .i64 k ∧ Chg No w wr ∧ xs.take k = ys.take k) (fun v5 _ => xs.length - (intOf v5).toNat)
    case atStart => exact ⟨0, by omega, rfl, Chg.refl _ _, rfl⟩
    case round =>
      obtain ⟨k, hk, rfl, hc, he⟩ := hrel
      have He := Lib.hid he; clear he
      by_cases hlt : k < xs.length
      · have hlt' : k < ys.length := by have := Hlen.out; omega
        obtain ⟨b, o, dd, rfl, _, hbl, rfl, ha⟩ := (H.out.keepNo hc).get k hlt
        have ha0 := ha 0 _ rfl
        have hgy : Sl G w (.slice B xs.length d) ys := H'.out
        obtain ⟨b', o', dd', rfl, _, hbl', rfl, hb⟩ := (hgy.keepNo hc).get k hlt'
        have hb0 := hb 0 _ rfl
        simp only [show Rep.n Int = 1 from rfl, Nat.mul_one, Nat.add_zero] at ha0 hb0
        have hsx : xs.take (k + 1) = xs.take k ++ [xs[k]] := List.take_succ_eq_append_getElem hlt
        have hsy : ys.take (k + 1) = ys.take k ++ [ys[k]] := List.take_succ_eq_append_getElem hlt'
        have hxy : xs[k] ≠ ys[k] → xs ≠ ys := fun h e => h (by subst e; rfl)
        clear ha hb hgy
        generalize xs[k] = x at ha0 hsx hxy
        generalize ys[k] = y at hb0 hsy hxy
        have Hsx := Lib.hid hsx; have Hsy := Lib.hid hsy; have Hxy := Lib.hid hxy
        clear hsx hsy hxy
        by_cases hq : x = y
        · subst hq
          go_wp2_with (with_reducible first | refine stop_append ?_ | refine stop_copy ?_ | refine stop_make ?_ | refine stop_lookup ?_ | refine stop_update ?_ | refine stop_slice ?_ | refine stop_range ?_ | refine stop_next ?_ | refine stop_convert ⟨_, rfl⟩ ?_ | refine stop_convertB ⟨_, _, _, rfl⟩ ?_ | refine stop_eqSlice ⟨_, _, rfl⟩ ?_)
          refine reg_start (fun W => W.cell? ⟨b, o + k, none⟩ = some (.int .i64 x) ∧ W.cell? ⟨b', o' + k, none⟩ = some (.int .i64 x)) (by kernel_rfl) ?_
          ((refine reg_yes (i := 0) (oi := { dst := some 17, op := .move (.tmp 0), type := 22, pos := "ref.go:174", after := #[], guard := none }) (v := ?_) rfl (by kernel_rfl) (by kernel_rfl) (by kernel_rfl) (fun _ _ _ h => h) rfl ?_ ?_); rotate_left; focus (intro W hW; (try dsimp only at hW); go_split_ands; go_simp; (try (simp (disch := omega) only [IntWalk.i64_in]; (try go_simp))); (try (split; (next => omega); (try go_simp))); try rfl; done))
          try simp only [Act.put, List.setIfInBounds_toArray, List.set_cons_zero, List.set_cons_succ, Nat.reduceAdd]
          ((refine reg_yes (i := 1) (oi := { dst := some 18, op := .move (.tmp 5), type := 3, pos := "ref.go:174", after := #[], guard := none }) (v := ?_) rfl (by kernel_rfl) (by kernel_rfl) (by kernel_rfl) (fun _ _ _ h => h) rfl ?_ ?_); rotate_left; focus (intro W hW; (try dsimp only at hW); go_split_ands; go_simp; (try (simp (disch := omega) only [IntWalk.i64_in]; (try go_simp))); (try (split; (next => omega); (try go_simp))); try rfl; done))
          try simp only [Act.put, List.setIfInBounds_toArray, List.set_cons_zero, List.set_cons_succ, Nat.reduceAdd]
          ((refine reg_yes (i := 2) (oi := { dst := some 19, op := .indexAddr 22 (.tmp 17) (.tmp 18), type := 0, pos := "ref.go:174", after := #[{ on := 0, ground := .data }, { on := 1, ground := .data }], guard := none }) (v := ?_) rfl (by kernel_rfl) (by kernel_rfl) (by kernel_rfl) (fun _ _ _ h => h) rfl ?_ ?_); rotate_left; focus (intro W hW; (try dsimp only at hW); go_split_ands; go_simp; (try (simp (disch := omega) only [IntWalk.i64_in]; (try go_simp))); (try (split; (next => omega); (try go_simp))); try rfl; done))
          try simp only [Act.put, List.setIfInBounds_toArray, List.set_cons_zero, List.set_cons_succ, Nat.reduceAdd]
          ((refine reg_yes (i := 3) (oi := { dst := some 20, op := .load 3 (.tmp 19), type := 3, pos := "ref.go:174", after := #[{ on := 2, ground := .data }], guard := none }) (v := ?_) rfl (by kernel_rfl) (by kernel_rfl) (by kernel_rfl) (fun _ _ _ h => h) rfl ?_ ?_); rotate_left; focus (intro W hW; (try dsimp only at hW); go_split_ands; go_simp; (try (simp (disch := omega) only [IntWalk.i64_in]; (try go_simp))); (try (split; (next => omega); (try go_simp))); try rfl; done))
          try simp only [Act.put, List.setIfInBounds_toArray, List.set_cons_zero, List.set_cons_succ, Nat.reduceAdd]
          ((refine reg_yes (i := 4) (oi := { dst := some 21, op := .move (.tmp 1), type := 22, pos := "ref.go:174", after := #[], guard := none }) (v := ?_) rfl (by kernel_rfl) (by kernel_rfl) (by kernel_rfl) (fun _ _ _ h => h) rfl ?_ ?_); rotate_left; focus (intro W hW; (try dsimp only at hW); go_split_ands; go_simp; (try (simp (disch := omega) only [IntWalk.i64_in]; (try go_simp))); (try (split; (next => omega); (try go_simp))); try rfl; done))
          try simp only [Act.put, List.setIfInBounds_toArray, List.set_cons_zero, List.set_cons_succ, Nat.reduceAdd]
          ((refine reg_yes (i := 5) (oi := { dst := some 22, op := .move (.tmp 5), type := 3, pos := "ref.go:174", after := #[], guard := none }) (v := ?_) rfl (by kernel_rfl) (by kernel_rfl) (by kernel_rfl) (fun _ _ _ h => h) rfl ?_ ?_); rotate_left; focus (intro W hW; (try dsimp only at hW); go_split_ands; go_simp; (try (simp (disch := omega) only [IntWalk.i64_in]; (try go_simp))); (try (split; (next => omega); (try go_simp))); try rfl; done))
          try simp only [Act.put, List.setIfInBounds_toArray, List.set_cons_zero, List.set_cons_succ, Nat.reduceAdd]
          ((refine reg_yes (i := 6) (oi := { dst := some 23, op := .indexAddr 22 (.tmp 21) (.tmp 22), type := 0, pos := "ref.go:174", after := #[{ on := 4, ground := .data }, { on := 5, ground := .data }], guard := none }) (v := ?_) rfl (by kernel_rfl) (by kernel_rfl) (by kernel_rfl) (fun _ _ _ h => h) rfl ?_ ?_); rotate_left; focus (intro W hW; (try dsimp only at hW); go_split_ands; go_simp; (try (simp (disch := omega) only [IntWalk.i64_in]; (try go_simp))); (try (split; (next => omega); (try go_simp))); try rfl; done))
          try simp only [Act.put, List.setIfInBounds_toArray, List.set_cons_zero, List.set_cons_succ, Nat.reduceAdd]
          ((refine reg_yes (i := 7) (oi := { dst := some 24, op := .load 3 (.tmp 23), type := 3, pos := "ref.go:174", after := #[{ on := 6, ground := .data }], guard := none }) (v := ?_) rfl (by kernel_rfl) (by kernel_rfl) (by kernel_rfl) (fun _ _ _ h => h) rfl ?_ ?_); rotate_left; focus (intro W hW; (try dsimp only at hW); go_split_ands; go_simp; (try (simp (disch := omega) only [IntWalk.i64_in]; (try go_simp))); (try (split; (next => omega); (try go_simp))); try rfl; done))
          try simp only [Act.put, List.setIfInBounds_toArray, List.set_cons_zero, List.set_cons_succ, Nat.reduceAdd]
          ((refine reg_yes (i := 8) (oi := { dst := some 25, op := .binOp .neq 3 (.tmp 20) (.tmp 24) 3, type := 4, pos := "ref.go:174", after := #[{ on := 3, ground := .data }, { on := 7, ground := .data }], guard := none }) (v := ?_) rfl (by kernel_rfl) (by kernel_rfl) (by kernel_rfl) (fun _ _ _ h => h) rfl ?_ ?_); rotate_left; focus (intro W hW; (try dsimp only at hW); go_split_ands; go_simp; (try (simp (disch := omega) only [IntWalk.i64_in]; (try go_simp))); (try (split; (next => omega); (try go_simp))); try rfl; done))
          try simp only [Act.put, List.setIfInBounds_toArray, List.set_cons_zero, List.set_cons_succ, Nat.reduceAdd]
          refine reg_done (by kernel_rfl) (show (fun W => W.cell? ⟨b, o + k, none⟩ = some (.int .i64 x) ∧ W.cell? ⟨b', o' + k, none⟩ = some (.int .i64 x)) wr.drew from ⟨ha0, hb0⟩) ?_
          have hcd := hc.drew
          go_wp2_with (with_reducible first | refine stop_append ?_ | refine stop_copy ?_ | refine stop_make ?_ | refine stop_lookup ?_ | refine stop_update ?_ | refine stop_slice ?_ | refine stop_range ?_ | refine stop_next ?_ | refine stop_convert ⟨_, rfl⟩ ?_ | refine stop_convertB ⟨_, _, _, rfl⟩ ?_ | refine stop_eqSlice ⟨_, _, rfl⟩ ?_)
          go_roundw
          case rel => exact ⟨k + 1, by omega, by go_num, hcd, by rw [Hsx.out, Hsy.out, He.out]⟩
          case measure => simp [intOf]; omega
        · have hq1 : (x == y) = false := by simpa using hq
          have hq2 : (x != y) = true := by simpa using hq
          have Hq := Lib.hid hq
          clear hq
          go_wp2_with (with_reducible first | refine stop_append ?_ | refine stop_copy ?_ | refine stop_make ?_ | refine stop_lookup ?_ | refine stop_update ?_ | refine stop_slice ?_ | refine stop_range ?_ | refine stop_next ?_ | refine stop_convert ⟨_, rfl⟩ ?_ | refine stop_convertB ⟨_, _, _, rfl⟩ ?_ | refine stop_eqSlice ⟨_, _, rfl⟩ ?_)
          refine reg_start (fun W => W.cell? ⟨b, o + k, none⟩ = some (.int .i64 x) ∧ W.cell? ⟨b', o' + k, none⟩ = some (.int .i64 y)) (by kernel_rfl) ?_
          ((refine reg_yes (i := 0) (oi := { dst := some 17, op := .move (.tmp 0), type := 22, pos := "ref.go:174", after := #[], guard := none }) (v := ?_) rfl (by kernel_rfl) (by kernel_rfl) (by kernel_rfl) (fun _ _ _ h => h) rfl ?_ ?_); rotate_left; focus (intro W hW; (try dsimp only at hW); go_split_ands; go_simp; (try (simp (disch := omega) only [IntWalk.i64_in]; (try go_simp))); (try (split; (next => omega); (try go_simp))); try rfl; done))
          try simp only [Act.put, List.setIfInBounds_toArray, List.set_cons_zero, List.set_cons_succ, Nat.reduceAdd]
          ((refine reg_yes (i := 1) (oi := { dst := some 18, op := .move (.tmp 5), type := 3, pos := "ref.go:174", after := #[], guard := none }) (v := ?_) rfl (by kernel_rfl) (by kernel_rfl) (by kernel_rfl) (fun _ _ _ h => h) rfl ?_ ?_); rotate_left; focus (intro W hW; (try dsimp only at hW); go_split_ands; go_simp; (try (simp (disch := omega) only [IntWalk.i64_in]; (try go_simp))); (try (split; (next => omega); (try go_simp))); try rfl; done))
          try simp only [Act.put, List.setIfInBounds_toArray, List.set_cons_zero, List.set_cons_succ, Nat.reduceAdd]
          ((refine reg_yes (i := 2) (oi := { dst := some 19, op := .indexAddr 22 (.tmp 17) (.tmp 18), type := 0, pos := "ref.go:174", after := #[{ on := 0, ground := .data }, { on := 1, ground := .data }], guard := none }) (v := ?_) rfl (by kernel_rfl) (by kernel_rfl) (by kernel_rfl) (fun _ _ _ h => h) rfl ?_ ?_); rotate_left; focus (intro W hW; (try dsimp only at hW); go_split_ands; go_simp; (try (simp (disch := omega) only [IntWalk.i64_in]; (try go_simp))); (try (split; (next => omega); (try go_simp))); try rfl; done))
          try simp only [Act.put, List.setIfInBounds_toArray, List.set_cons_zero, List.set_cons_succ, Nat.reduceAdd]
          ((refine reg_yes (i := 3) (oi := { dst := some 20, op := .load 3 (.tmp 19), type := 3, pos := "ref.go:174", after := #[{ on := 2, ground := .data }], guard := none }) (v := ?_) rfl (by kernel_rfl) (by kernel_rfl) (by kernel_rfl) (fun _ _ _ h => h) rfl ?_ ?_); rotate_left; focus (intro W hW; (try dsimp only at hW); go_split_ands; go_simp; (try (simp (disch := omega) only [IntWalk.i64_in]; (try go_simp))); (try (split; (next => omega); (try go_simp))); try rfl; done))
          try simp only [Act.put, List.setIfInBounds_toArray, List.set_cons_zero, List.set_cons_succ, Nat.reduceAdd]
          ((refine reg_yes (i := 4) (oi := { dst := some 21, op := .move (.tmp 1), type := 22, pos := "ref.go:174", after := #[], guard := none }) (v := ?_) rfl (by kernel_rfl) (by kernel_rfl) (by kernel_rfl) (fun _ _ _ h => h) rfl ?_ ?_); rotate_left; focus (intro W hW; (try dsimp only at hW); go_split_ands; go_simp; (try (simp (disch := omega) only [IntWalk.i64_in]; (try go_simp))); (try (split; (next => omega); (try go_simp))); try rfl; done))
          try simp only [Act.put, List.setIfInBounds_toArray, List.set_cons_zero, List.set_cons_succ, Nat.reduceAdd]
          ((refine reg_yes (i := 5) (oi := { dst := some 22, op := .move (.tmp 5), type := 3, pos := "ref.go:174", after := #[], guard := none }) (v := ?_) rfl (by kernel_rfl) (by kernel_rfl) (by kernel_rfl) (fun _ _ _ h => h) rfl ?_ ?_); rotate_left; focus (intro W hW; (try dsimp only at hW); go_split_ands; go_simp; (try (simp (disch := omega) only [IntWalk.i64_in]; (try go_simp))); (try (split; (next => omega); (try go_simp))); try rfl; done))
          try simp only [Act.put, List.setIfInBounds_toArray, List.set_cons_zero, List.set_cons_succ, Nat.reduceAdd]
          ((refine reg_yes (i := 6) (oi := { dst := some 23, op := .indexAddr 22 (.tmp 21) (.tmp 22), type := 0, pos := "ref.go:174", after := #[{ on := 4, ground := .data }, { on := 5, ground := .data }], guard := none }) (v := ?_) rfl (by kernel_rfl) (by kernel_rfl) (by kernel_rfl) (fun _ _ _ h => h) rfl ?_ ?_); rotate_left; focus (intro W hW; (try dsimp only at hW); go_split_ands; go_simp; (try (simp (disch := omega) only [IntWalk.i64_in]; (try go_simp))); (try (split; (next => omega); (try go_simp))); try rfl; done))
          try simp only [Act.put, List.setIfInBounds_toArray, List.set_cons_zero, List.set_cons_succ, Nat.reduceAdd]
          ((refine reg_yes (i := 7) (oi := { dst := some 24, op := .load 3 (.tmp 23), type := 3, pos := "ref.go:174", after := #[{ on := 6, ground := .data }], guard := none }) (v := ?_) rfl (by kernel_rfl) (by kernel_rfl) (by kernel_rfl) (fun _ _ _ h => h) rfl ?_ ?_); rotate_left; focus (intro W hW; (try dsimp only at hW); go_split_ands; go_simp; (try (simp (disch := omega) only [IntWalk.i64_in]; (try go_simp))); (try (split; (next => omega); (try go_simp))); try rfl; done))
          try simp only [Act.put, List.setIfInBounds_toArray, List.set_cons_zero, List.set_cons_succ, Nat.reduceAdd]
          ((refine reg_yes (i := 8) (oi := { dst := some 25, op := .binOp .neq 3 (.tmp 20) (.tmp 24) 3, type := 4, pos := "ref.go:174", after := #[{ on := 3, ground := .data }, { on := 7, ground := .data }], guard := none }) (v := ?_) rfl (by kernel_rfl) (by kernel_rfl) (by kernel_rfl) (fun _ _ _ h => h) rfl ?_ ?_); rotate_left; focus (intro W hW; (try dsimp only at hW); go_split_ands; go_simp; (try (simp (disch := omega) only [IntWalk.i64_in]; (try go_simp))); (try (split; (next => omega); (try go_simp))); try rfl; done))
          try simp only [Act.put, List.setIfInBounds_toArray, List.set_cons_zero, List.set_cons_succ, Nat.reduceAdd]
          refine reg_done (by kernel_rfl) (show (fun W => W.cell? ⟨b, o + k, none⟩ = some (.int .i64 x) ∧ W.cell? ⟨b', o' + k, none⟩ = some (.int .i64 y)) wr.drew from ⟨ha0, hb0⟩) ?_
          have hcd := hc.drew
          go_wp2_with (with_reducible first | refine stop_append ?_ | refine stop_copy ?_ | refine stop_make ?_ | refine stop_lookup ?_ | refine stop_update ?_ | refine stop_slice ?_ | refine stop_range ?_ | refine stop_next ?_ | refine stop_convert ⟨_, rfl⟩ ?_ | refine stop_convertB ⟨_, _, _, rfl⟩ ?_ | refine stop_eqSlice ⟨_, _, rfl⟩ ?_)
          go_ret
          exact ⟨by simp [Hxy.out Hq.out], hcd⟩
      · obtain rfl : k = xs.length := by omega
        have he := He.out
        rw [List.take_length, Hlen.out, List.take_length] at he
        have Heq := Lib.hid he
        clear he He
        go_wp2_with (with_reducible first | refine stop_append ?_ | refine stop_copy ?_ | refine stop_make ?_ | refine stop_lookup ?_ | refine stop_update ?_ | refine stop_slice ?_ | refine stop_range ?_ | refine stop_next ?_ | refine stop_convert ⟨_, rfl⟩ ?_ | refine stop_convertB ⟨_, _, _, rfl⟩ ?_ | refine stop_eqSlice ⟨_, _, rfl⟩ ?_)
        go_ret
        exact ⟨by simp [Heq.out], hc⟩
  · have hne : ((xs.length : Int) != ys.length) = true := by simp; omega
    have hne2 : ((xs.length : Int) == ys.length) = false := by simp; omega
    have Hn := Lib.hid (show xs ≠ ys from fun e => hlen (by rw [e]))
    clear hlen
    go_enter Try.func59, Try.ntmps59
    go_wp2_with (with_reducible first | refine stop_append ?_ | refine stop_copy ?_ | refine stop_make ?_ | refine stop_lookup ?_ | refine stop_update ?_ | refine stop_slice ?_ | refine stop_range ?_ | refine stop_next ?_ | refine stop_convert ⟨_, rfl⟩ ?_ | refine stop_convertB ⟨_, _, _, rfl⟩ ?_ | refine stop_eqSlice ⟨_, _, rfl⟩ ?_)
    go_ret
    exact ⟨by simp [Hn.out], Chg.refl _ _⟩
end Go.Proofs.Yticimjplegbagaa


/- Walks of the document's chapter 6: Has, unlike. -/
set_option linter.unusedVariables false
set_option linter.unusedSimpArgs false
namespace Cb
open Go Go.Deep
section
variable {P : Program} {w : World} {a : Act}
theorem take_run {α : Type} [Rep α] {F : Nat → Prop} {d : Option Tmp} {x y : Operand} {t ty e : TypeId} {p : String} {af : Array Edge} {g : Option (Nat × Bool)} {z : Value} {bytes : Nat}
    (ht : P.underlying t = some (.slice e)) (hi' : Info P e z (Rep.n α) bytes) {A : Option Addr} {n c h : Nat} {xs : List α} (hs : Sl F w (.slice A n c) xs) (hx : a.eval x = .slice A n c)
    {kd : IntKind} (hy : a.eval y = .int kd h) (h2 : h ≤ xs.length) :
    (execOp a.eval ⟨d, .slice t x none (some y) none, ty, p, af, g⟩).run P w = .ok (.value (.slice A h c)) w := by
  obtain ⟨i, hi0, hz0, hz1, hz2⟩ := info_parts hi'
  obtain ⟨hn, hc⟩ := hs.len
  subst hn
  have hhc : h ≤ c := by omega
  have hb : ∀ (cd : BoundsCode) (cd2 : BoundsCode), (Instr.sliceBounds true xs.length c none (some (.int kd h)) none).run P w = .ok (0, h, c) w := by
    intro _ _
    simp [Instr.sliceBounds, *, run_sliceBound_in]
  have hadd : ∀ b : Addr, b.add 0 = b := fun b => by cases b; simp [Addr.add]
  have hr : (Instr.slice t (a.eval x) none (some (.int kd h)) none).run P w = .ok (.slice A h c) w := by
    simp [Instr.slice, hx, run_underlying ht, hb .index .index, Go.sizeOf, typeInfo, hi0]
    cases A <;> simp [hadd]
  simp only [execOp, Instr.sliceAt, Sem.run_bind, run_underlying ht, Option.map_some, Option.map_none, hy, hr, Result.andThen_ok, Sem.run_pure]
theorem take_sl {α : Type} [Rep α] {F : Nat → Prop} {A : Option Addr} {n c : Nat} {xs : List α} (hs : Sl F w (.slice A n c) xs) (h : Nat) (hh : h ≤ xs.length) : Sl F w (.slice A h c) (xs.take h) := by
  obtain ⟨A', c', e, hl, hr⟩ := hs
  cases e
  have e : (xs.take h).length = h := by simp; omega
  refine ⟨A, c, by rw [e], by rw [e]; omega, ?_⟩
  rcases hr with rfl | ⟨b, o, e1, hb, hlt, hr⟩
  · left; simp
  · right
    refine ⟨b, o, e1, hb, hlt, fun i hi => ?_⟩
    obtain ⟨d, hd, ha⟩ := hr i (by omega)
    exact ⟨d, by rw [List.getElem_take]; exact hd, ha⟩
end
end Cb
namespace Go.Proofs.Yticimjplegbagaa
open Go.RowKit Cb

set_option maxRecDepth 100000 in
set_option maxHeartbeats 1000000 in
theorem has_any (F : Nat → Prop) (v : Value) (xs : List Int) (x : Int) (w : World) (hs : Sl F w v xs) (hl : xs.length * 8 ≤ 140737488355328) :
    Calls Try.prog 27 #[v, .int .i64 x] w fun e w' => e = .returned (.bool (decide (x ∈ xs))) ∧ Chg No w w' := by
  have Hs := Lib.hid (fun W (hW : Chg No w W) => hs.keepNo hW)
  obtain ⟨A, c, rfl⟩ := hs.slice
  clear hs
  go_enter Try.func27, Try.ntmps27
  go_wp2_with (with_reducible first | refine stop_append ?_ | refine stop_copy ?_ | refine stop_make ?_ | refine stop_lookup ?_ | refine stop_update ?_ | refine stop_slice ?_ | refine stop_range ?_ | refine stop_next ?_ | refine stop_convert ⟨_, rfl⟩ ?_ | refine stop_convertB ⟨_, _, _, rfl⟩ ?_ | refine stop_eqSlice ⟨_, _, rfl⟩ ?_)
  go_loopw [5] (fun v5 wr => ∃ k : Nat, k ≤ xs.length ∧ v5 = .int .i64 k ∧ Chg No w wr ∧ x ∉ xs.take k) (fun v5 _ => xs.length - (intOf v5).toNat)
  case atStart => exact ⟨0, by omega, rfl, Chg.refl _ _, by simp⟩
  case round =>
    obtain ⟨k, hk, rfl, hc, hno⟩ := hrel
    have Hno := Lib.hid hno
    clear hno
    by_cases hlt : k < xs.length
    · obtain ⟨b, o, rfl, _, hbl, hx0⟩ := intT_get (Hs.out wr hc) k hlt
      have Hmem := Lib.hid (List.getElem_mem hlt)
      have Htk := Lib.hid (List.take_succ_eq_append_getElem hlt)
      generalize xs[k] = y at *
      by_cases hxy : y = x
      · have Hd := Lib.hid (show decide (x ∈ xs) = true from decide_eq_true (hxy ▸ Hmem.out))
        subst hxy
        go_wp2_with (with_reducible first | refine stop_append ?_ | refine stop_copy ?_ | refine stop_make ?_ | refine stop_lookup ?_ | refine stop_update ?_ | refine stop_slice ?_ | refine stop_range ?_ | refine stop_next ?_ | refine stop_convert ⟨_, rfl⟩ ?_ | refine stop_convertB ⟨_, _, _, rfl⟩ ?_ | refine stop_eqSlice ⟨_, _, rfl⟩ ?_)
        go_ret
        exact ⟨by rw [Hd.out]; rfl, hc⟩
      · have hb : (y == x) = false := by simpa using hxy
        have Hxy := Lib.hid hxy
        clear hxy
        go_wp2_with (with_reducible first | refine stop_append ?_ | refine stop_copy ?_ | refine stop_make ?_ | refine stop_lookup ?_ | refine stop_update ?_ | refine stop_slice ?_ | refine stop_range ?_ | refine stop_next ?_ | refine stop_convert ⟨_, rfl⟩ ?_ | refine stop_convertB ⟨_, _, _, rfl⟩ ?_ | refine stop_eqSlice ⟨_, _, rfl⟩ ?_)
        go_roundw
        case rel => exact ⟨k + 1, by omega, by go_num, hc, by rw [Htk.out, List.mem_append, List.mem_singleton]; rintro (h | h); exact Hno.out h; exact Hxy.out h.symm⟩
        case measure => simp [intOf]; omega
    · obtain rfl : k = xs.length := by omega
      rw [List.take_length] at Hno
      have Hd := Lib.hid (show decide (x ∈ xs) = false from decide_eq_false Hno.out)
      go_wp2_with (with_reducible first | refine stop_append ?_ | refine stop_copy ?_ | refine stop_make ?_ | refine stop_lookup ?_ | refine stop_update ?_ | refine stop_slice ?_ | refine stop_range ?_ | refine stop_next ?_ | refine stop_convert ⟨_, rfl⟩ ?_ | refine stop_convertB ⟨_, _, _, rfl⟩ ?_ | refine stop_eqSlice ⟨_, _, rfl⟩ ?_)
      go_ret
      exact ⟨by rw [Hd.out]; rfl, hc⟩
set_option maxRecDepth 100000 in
set_option maxHeartbeats 1000000 in
theorem runlike_any (F : Nat → Prop) (v : Value) (xs : List Int) (w : World) (hs : Sl F w v xs) (hl : xs.length * 8 ≤ 140737488355328) :
    Calls Try.prog 33 #[v] w fun e w' => e = .returned (.bool (nodesB xs)) ∧ Chg No w w' := by
  have Hs := Lib.hid (fun W (hW : Chg No w W) => hs.keepNo hW)
  obtain ⟨A, c, rfl⟩ := hs.slice
  clear hs
  go_enter Try.func33, Try.ntmps33
  go_wp2_with (with_reducible first | refine stop_append ?_ | refine stop_copy ?_ | refine stop_make ?_ | refine stop_lookup ?_ | refine stop_update ?_ | refine stop_slice ?_ | refine stop_range ?_ | refine stop_next ?_ | refine stop_convert ⟨_, rfl⟩ ?_ | refine stop_convertB ⟨_, _, _, rfl⟩ ?_ | refine stop_eqSlice ⟨_, _, rfl⟩ ?_)
  go_loopw [3] (fun v3 wr => ∃ k : Nat, k ≤ xs.length ∧ v3 = .int .i64 k ∧ Chg No w wr ∧ nodesB (xs.take k) = true) (fun v3 _ => xs.length - (intOf v3).toNat)
  case atStart => exact ⟨0, by omega, rfl, Chg.refl _ _, by simpa using nodes_nil⟩
  case round =>
    obtain ⟨k, hk, rfl, hc, hnod⟩ := hrel
    have Hnod := Lib.hid hnod
    clear hnod
    by_cases hlt : k < xs.length
    · obtain ⟨b, o, rfl, _, hbl, hx0⟩ := intT_get (Hs.out wr hc) k hlt
      have Hbad := Lib.hid (fun h => nodes_out (List.getElem_mem hlt) h)
      have Hdup := Lib.hid (nodes_dup hlt)
      have Hgo := Lib.hid (nodes_step hlt Hnod.out)
      have Hhas := Lib.hid (fun W (hW : Chg No wr W) => has_any F (.slice (some ⟨b, o, none⟩) k c) (xs.take k) xs[k] W (take_sl (Hs.out W (hc.trans hW)) k (by omega)) (by simp; omega))
      generalize xs[k] = x at *
      have cd := (Chg.refl No wr).drew
      rcases (show x < 0 ∨ (¬ x < 0 ∧ 15 < x) ∨ (¬ x < 0 ∧ ¬ 15 < x) by omega) with h | ⟨h, h2⟩ | ⟨h, h2⟩
      · have Hr := Lib.hid (Hbad.out (by omega))
        go_wp2_with (with_reducible first | refine stop_append ?_ | refine stop_copy ?_ | refine stop_make ?_ | refine stop_lookup ?_ | refine stop_update ?_ | refine stop_slice ?_ | refine stop_range ?_ | refine stop_next ?_ | refine stop_convert ⟨_, rfl⟩ ?_ | refine stop_convertB ⟨_, _, _, rfl⟩ ?_ | refine stop_eqSlice ⟨_, _, rfl⟩ ?_)
        refine pl_start (fun W => W.cell? ⟨b, o + k, none⟩ = some (.int .i64 x) ∧ Chg No wr W) (by kernel_rfl) (by kernel_rfl) ⟨cd.cell hx0 (not_no _), cd⟩ ?_
        iterate 6 ((refine pl_nx [] (v := ?_) rfl (by kernel_rfl) rfl ?_ ?_; rotate_left; focus (intro W hW; (try dsimp only at hW); go_split_ands; go_simp; (try (simp (disch := omega) only [IntWalk.i64_in]; (try go_simp))); (try (split; (next => omega); (try go_simp))); try rfl; done)); try simp only [Act.put, List.setIfInBounds_toArray, List.set_cons_zero, List.set_cons_succ, Nat.reduceAdd])
        iterate 5 ((first | (refine pl_nn [] rfl (by kernel_rfl) rfl ?_) | (refine pl_nx [] (v := ?_) rfl (by kernel_rfl) rfl ?_ ?_; rotate_left; focus (intro W hW; (try dsimp only at hW); go_split_ands; go_simp; (try (simp (disch := omega) only [IntWalk.i64_in]; (try go_simp))); (try (split; (next => omega); (try go_simp))); try rfl; done))); try simp only [Act.put, List.setIfInBounds_toArray, List.set_cons_zero, List.set_cons_succ, Nat.reduceAdd])
        iterate 2 ((refine pl_nx [] (v := ?_) rfl (by kernel_rfl) rfl ?_ ?_; rotate_left; focus (intro W hW; (try dsimp only at hW); go_split_ands; go_simp; (try (simp (disch := omega) only [IntWalk.i64_in]; (try go_simp))); (try (split; (next => omega); (try go_simp))); try rfl; done)); try simp only [Act.put, List.setIfInBounds_toArray, List.set_cons_zero, List.set_cons_succ, Nat.reduceAdd])
        iterate 7 ((first | (refine pl_nn [] rfl (by kernel_rfl) rfl ?_) | (refine pl_nx [] (v := ?_) rfl (by kernel_rfl) rfl ?_ ?_; rotate_left; focus (intro W hW; (try dsimp only at hW); go_split_ands; go_simp; (try (simp (disch := omega) only [IntWalk.i64_in]; (try go_simp))); (try (split; (next => omega); (try go_simp))); try rfl; done))); try simp only [Act.put, List.setIfInBounds_toArray, List.set_cons_zero, List.set_cons_succ, Nat.reduceAdd])
        refine pl_nox 20 (by kernel_rfl) rfl rfl ?_
        try simp only [Act.put, List.setIfInBounds_toArray, List.set_cons_zero, List.set_cons_succ, Nat.reduceAdd]
        ((refine pl_nx [] (v := ?_) rfl (by kernel_rfl) rfl ?_ ?_; rotate_left; focus (intro W hW; (try dsimp only at hW); go_split_ands; go_simp; (try (simp (disch := omega) only [IntWalk.i64_in]; (try go_simp))); (try (split; (next => omega); (try go_simp))); try rfl; done)); try simp only [Act.put, List.setIfInBounds_toArray, List.set_cons_zero, List.set_cons_succ, Nat.reduceAdd])
        refine pl_done (by kernel_rfl)  ?_
        rintro w2 ⟨-, hc2⟩
        go_wp2_with (with_reducible first | refine stop_append ?_ | refine stop_copy ?_ | refine stop_make ?_ | refine stop_lookup ?_ | refine stop_update ?_ | refine stop_slice ?_ | refine stop_range ?_ | refine stop_next ?_ | refine stop_convert ⟨_, rfl⟩ ?_ | refine stop_convertB ⟨_, _, _, rfl⟩ ?_ | refine stop_eqSlice ⟨_, _, rfl⟩ ?_)
        go_ret
        exact ⟨by rw [Hr.out]; rfl, hc.trans hc2⟩
      · have Hr := Lib.hid (Hbad.out (by omega))
        have e1 : decide (x < 0) = false := decide_eq_false h
        have e2 : decide (15 < x) = true := decide_eq_true h2
        go_wp2_with (with_reducible first | refine stop_append ?_ | refine stop_copy ?_ | refine stop_make ?_ | refine stop_lookup ?_ | refine stop_update ?_ | refine stop_slice ?_ | refine stop_range ?_ | refine stop_next ?_ | refine stop_convert ⟨_, rfl⟩ ?_ | refine stop_convertB ⟨_, _, _, rfl⟩ ?_ | refine stop_eqSlice ⟨_, _, rfl⟩ ?_)
        refine pl_start (fun W => W.cell? ⟨b, o + k, none⟩ = some (.int .i64 x) ∧ Chg No wr W) (by kernel_rfl) (by kernel_rfl) ⟨cd.cell hx0 (not_no _), cd⟩ ?_
        iterate 6 ((refine pl_nx [] (v := ?_) rfl (by kernel_rfl) rfl ?_ ?_; rotate_left; focus (intro W hW; (try dsimp only at hW); go_split_ands; go_simp; (try (simp (disch := omega) only [IntWalk.i64_in]; (try go_simp))); (try (split; (next => omega); (try go_simp))); try rfl; done)); try simp only [Act.put, List.setIfInBounds_toArray, List.set_cons_zero, List.set_cons_succ, Nat.reduceAdd])
        iterate 5 ((first | (refine pl_nn [] rfl (by kernel_rfl) rfl ?_) | (refine pl_nx [] (v := ?_) rfl (by kernel_rfl) rfl ?_ ?_; rotate_left; focus (intro W hW; (try dsimp only at hW); go_split_ands; go_simp; (try (simp (disch := omega) only [IntWalk.i64_in]; (try go_simp))); (try (split; (next => omega); (try go_simp))); try rfl; done))); try simp only [Act.put, List.setIfInBounds_toArray, List.set_cons_zero, List.set_cons_succ, Nat.reduceAdd])
        iterate 2 ((refine pl_nx [] (v := ?_) rfl (by kernel_rfl) rfl ?_ ?_; rotate_left; focus (intro W hW; (try dsimp only at hW); go_split_ands; go_simp; (try (simp (disch := omega) only [IntWalk.i64_in]; (try go_simp))); (try (split; (next => omega); (try go_simp))); try rfl; done)); try simp only [Act.put, List.setIfInBounds_toArray, List.set_cons_zero, List.set_cons_succ, Nat.reduceAdd])
        iterate 7 ((first | (refine pl_nn [] rfl (by kernel_rfl) rfl ?_) | (refine pl_nx [] (v := ?_) rfl (by kernel_rfl) rfl ?_ ?_; rotate_left; focus (intro W hW; (try dsimp only at hW); go_split_ands; go_simp; (try (simp (disch := omega) only [IntWalk.i64_in]; (try go_simp))); (try (split; (next => omega); (try go_simp))); try rfl; done))); try simp only [Act.put, List.setIfInBounds_toArray, List.set_cons_zero, List.set_cons_succ, Nat.reduceAdd])
        refine pl_nox 20 (by kernel_rfl) rfl rfl ?_
        try simp only [Act.put, List.setIfInBounds_toArray, List.set_cons_zero, List.set_cons_succ, Nat.reduceAdd]
        ((refine pl_nx [] (v := ?_) rfl (by kernel_rfl) rfl ?_ ?_; rotate_left; focus (intro W hW; (try dsimp only at hW); go_split_ands; go_simp; (try (simp (disch := omega) only [IntWalk.i64_in]; (try go_simp))); (try (split; (next => omega); (try go_simp))); try rfl; done)); try simp only [Act.put, List.setIfInBounds_toArray, List.set_cons_zero, List.set_cons_succ, Nat.reduceAdd])
        refine pl_done (by kernel_rfl)  ?_
        rintro w2 ⟨-, hc2⟩
        go_wp2_with (with_reducible first | refine stop_append ?_ | refine stop_copy ?_ | refine stop_make ?_ | refine stop_lookup ?_ | refine stop_update ?_ | refine stop_slice ?_ | refine stop_range ?_ | refine stop_next ?_ | refine stop_convert ⟨_, rfl⟩ ?_ | refine stop_convertB ⟨_, _, _, rfl⟩ ?_ | refine stop_eqSlice ⟨_, _, rfl⟩ ?_)
        go_ret
        exact ⟨by rw [Hr.out]; rfl, hc.trans hc2⟩
      · have e1 : decide (x < 0) = false := decide_eq_false h
        have e2 : decide (15 < x) = false := decide_eq_false h2
        have Hdup' := Lib.hid (fun h => Hdup.out h)
        have Hgo' := Lib.hid (fun h' => Hgo.out (by omega) h')
        obtain ⟨hb, hhb⟩ : ∃ hb, hb = decide (x ∈ xs.take k) := ⟨_, rfl⟩
        rw [← hhb] at Hhas
        have Hhb := Lib.hid hhb
        clear hhb Hbad
        go_wp2_with (with_reducible first | refine stop_append ?_ | refine stop_copy ?_ | refine stop_make ?_ | refine stop_lookup ?_ | refine stop_update ?_ | refine stop_slice ?_ | refine stop_range ?_ | refine stop_next ?_ | refine stop_convert ⟨_, rfl⟩ ?_ | refine stop_convertB ⟨_, _, _, rfl⟩ ?_ | refine stop_eqSlice ⟨_, _, rfl⟩ ?_)
        refine pl_start (fun W => W.cell? ⟨b, o + k, none⟩ = some (.int .i64 x) ∧ Chg No wr W) (by kernel_rfl) (by kernel_rfl) ⟨cd.cell hx0 (not_no _), cd⟩ ?_
        iterate 6 ((refine pl_nx [15] (v := ?_) rfl (by kernel_rfl) rfl ?_ ?_; rotate_left; focus (intro W hW; (try dsimp only at hW); go_split_ands; go_simp; (try (simp (disch := omega) only [IntWalk.i64_in]; (try go_simp))); (try (split; (next => omega); (try go_simp))); try rfl; done)); try simp only [Act.put, List.setIfInBounds_toArray, List.set_cons_zero, List.set_cons_succ, Nat.reduceAdd])
        iterate 5 ((first | (refine pl_nn [15] rfl (by kernel_rfl) rfl ?_) | (refine pl_nx [15] (v := ?_) rfl (by kernel_rfl) rfl ?_ ?_; rotate_left; focus (intro W hW; (try dsimp only at hW); go_split_ands; go_simp; (try (simp (disch := omega) only [IntWalk.i64_in]; (try go_simp))); (try (split; (next => omega); (try go_simp))); try rfl; done))); try simp only [Act.put, List.setIfInBounds_toArray, List.set_cons_zero, List.set_cons_succ, Nat.reduceAdd])
        iterate 2 ((refine pl_nx [15] (v := ?_) rfl (by kernel_rfl) rfl ?_ ?_; rotate_left; focus (intro W hW; (try dsimp only at hW); go_split_ands; go_simp; (try (simp (disch := omega) only [IntWalk.i64_in]; (try go_simp))); (try (split; (next => omega); (try go_simp))); try rfl; done)); try simp only [Act.put, List.setIfInBounds_toArray, List.set_cons_zero, List.set_cons_succ, Nat.reduceAdd])
        iterate 6 ((first | (refine pl_nn [15] rfl (by kernel_rfl) rfl ?_) | (refine pl_nx [15] (v := ?_) rfl (by kernel_rfl) rfl ?_ ?_; rotate_left; focus (intro W hW; (try dsimp only at hW); go_split_ands; go_simp; (try (simp (disch := omega) only [IntWalk.i64_in]; (try go_simp))); (try (split; (next => omega); (try go_simp))); try rfl; done))); try simp only [Act.put, List.setIfInBounds_toArray, List.set_cons_zero, List.set_cons_succ, Nat.reduceAdd])
        refine pl_yesx 15 (.slice (some ⟨b, o, none⟩) k c) rfl (by kernel_rfl) rfl (by exact (fun W hW => take_run (α := Int) Try.underlying22 vinfo_int (Hs.out W (hc.trans hW.2)) rfl (kd := .i64) rfl (by omega))) ?_
        try simp only [Act.put, List.setIfInBounds_toArray, List.set_cons_zero, List.set_cons_succ, Nat.reduceAdd]
        refine pl_callx 20 (.bool hb) rfl (by kernel_rfl) rfl (by exact (fun W hW => (Hhas.out W hW.2).mono fun e w' h => ⟨h.1, h.2.cell hW.1 (not_no _), hW.2.trans h.2⟩)) (fun W => by kernel_rfl) ?_
        try simp only [Act.put, List.setIfInBounds_toArray, List.set_cons_zero, List.set_cons_succ, Nat.reduceAdd]
        ((refine pl_nx [] (v := ?_) rfl (by kernel_rfl) rfl ?_ ?_; rotate_left; focus (intro W hW; (try dsimp only at hW); go_split_ands; go_simp; (try (simp (disch := omega) only [IntWalk.i64_in]; (try go_simp))); (try (split; (next => omega); (try go_simp))); try rfl; done)); try simp only [Act.put, List.setIfInBounds_toArray, List.set_cons_zero, List.set_cons_succ, Nat.reduceAdd])
        refine pl_done (by kernel_rfl)  ?_
        rintro w2 ⟨-, hc2⟩
        rcases hb with _ | _
        · have Hg := Lib.hid (Hgo'.out (of_decide_eq_false Hhb.out.symm))
          go_wp2_with (with_reducible first | refine stop_append ?_ | refine stop_copy ?_ | refine stop_make ?_ | refine stop_lookup ?_ | refine stop_update ?_ | refine stop_slice ?_ | refine stop_range ?_ | refine stop_next ?_ | refine stop_convert ⟨_, rfl⟩ ?_ | refine stop_convertB ⟨_, _, _, rfl⟩ ?_ | refine stop_eqSlice ⟨_, _, rfl⟩ ?_)
          go_roundw
          case rel => exact ⟨k + 1, by omega, by go_num, hc.trans hc2, Hg.out⟩
          case measure => simp [intOf]; omega
        · have Hr := Lib.hid (Hdup'.out (of_decide_eq_true Hhb.out.symm))
          go_wp2_with (with_reducible first | refine stop_append ?_ | refine stop_copy ?_ | refine stop_make ?_ | refine stop_lookup ?_ | refine stop_update ?_ | refine stop_slice ?_ | refine stop_range ?_ | refine stop_next ?_ | refine stop_convert ⟨_, rfl⟩ ?_ | refine stop_convertB ⟨_, _, _, rfl⟩ ?_ | refine stop_eqSlice ⟨_, _, rfl⟩ ?_)
          go_ret
          exact ⟨by rw [Hr.out]; rfl, hc.trans hc2⟩
    · obtain rfl : k = xs.length := by omega
      rw [List.take_length] at Hnod
      go_wp2_with (with_reducible first | refine stop_append ?_ | refine stop_copy ?_ | refine stop_make ?_ | refine stop_lookup ?_ | refine stop_update ?_ | refine stop_slice ?_ | refine stop_range ?_ | refine stop_next ?_ | refine stop_convert ⟨_, rfl⟩ ?_ | refine stop_convertB ⟨_, _, _, rfl⟩ ?_ | refine stop_eqSlice ⟨_, _, rfl⟩ ?_)
      go_ret
      exact ⟨by rw [Hnod.out]; rfl, hc⟩
end Go.Proofs.Yticimjplegbagaa

