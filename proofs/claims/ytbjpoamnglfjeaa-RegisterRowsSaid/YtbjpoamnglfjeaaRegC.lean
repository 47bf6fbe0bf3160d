/- Walks of package register: what a register is in memory; New, First. -/
import Derived.Test.YtbjpoamnglfjeaaRegB
set_option linter.unusedVariables false
set_option linter.unusedSimpArgs false
namespace Go.Proofs.Ytbjpoamnglfjeaa
open Go.RowKit Cb

/-- A term's row: term, sequencers, shards, tail, over. -/
abbrev Rw := Int × List Int × List (List Int) × List Ent × Bool
def rwC (r : Rw) (vq vs vt : Value) : List Value := [.int .i64 r.1, vq, vs, vt, .bool r.2.2.2.2]
theorem rw_cs {F : Nat → Prop} {w : World} {r : Rw} {d : List Value} (h : Rep.cs F w r d) : ∃ vq vs vt, d = rwC r vq vs vt ∧ Sl F w vq r.2.1 ∧ Sl F w vs r.2.2.1 ∧ Sl F w vt r.2.2.2.1 := by
  obtain ⟨d1, d2, rfl, rfl, ⟨d3, d4, rfl, ⟨vq, rfl, hq⟩, ⟨d5, d6, rfl, ⟨vs, rfl, hs⟩, ⟨d7, d8, rfl, ⟨vt, rfl, ht⟩, rfl⟩⟩⟩⟩ := h
  exact ⟨vq, vs, vt, rfl, hq, hs, ht⟩
theorem rw_mk {F : Nat → Prop} {w : World} (r : Rw) {vq vs vt : Value} (hq : Sl F w vq r.2.1) (hs : Sl F w vs r.2.2.1) (ht : Sl F w vt r.2.2.2.1) : Rep.cs F w r (rwC r vq vs vt) :=
  ⟨[_], _, rfl, rfl, [_], _, rfl, ⟨_, rfl, hq⟩, [_], _, rfl, ⟨_, rfl, hs⟩, [_], [_], rfl, ⟨_, rfl, ht⟩, rfl⟩
theorem rw_n : Rep.n Rw = 5 := rfl
theorem info_rw : Info Try.prog 88 (.agg #[.int .i64 0, .slice none 0 0, .slice none 0 0, .slice none 0 0, .bool false]) 5 88 := by unfold Info; kernel_rfl
theorem own_lit1 {α : Type} [Rep α] {F : Nat → Prop} {w : World} {T : TypeId} {y : α} {d : List Value} {C : Array Value} (hC : C = d.toArray)
    (hd : Rep.cs (Or F (OB (.slice (some ⟨w.heap.size, 0, none⟩) 1 1))) (w.alloc (.cells C T)) y d) : Cb.Own F (w.alloc (.cells C T)) w.heap.size T (.slice (some ⟨w.heap.size, 0, none⟩) 1 1) [y] := by
  have hl := Rep.len hd
  refine ⟨[d], rfl, fun i h h' => ?_, by simp [hl], .inr ⟨_, 1, C, rfl, Nat.le_refl _, alloc_obj _ _, by simp, by simp [maxLen], by simp [hC, hl], by simp [hC, ← hl]⟩⟩
  simp only [List.length_singleton, Nat.lt_one_iff] at h
  subst h
  exact hd
theorem own_base {α : Type} [Rep α] {F : Nat → Prop} {w : World} {base base' : Nat} {T : TypeId} {v : Value} {xs : List α} (h : Cb.Own F w base T v xs) (hb : base' ≤ base) : Cb.Own F w base' T v xs := by
  obtain ⟨ds, hl, hd, ho1, ho2⟩ := h
  exact ⟨ds, hl, hd, ho1, ho2.imp id (fun ⟨g, cap, cur, a, b, c⟩ => ⟨g, cap, cur, a, Nat.le_trans hb b, c⟩)⟩
def RegS (w : World) (B p : Nat) (rows : List Rw) : Prop :=
  ∃ v, w.heap[p]? = some (.cells #[v] 137 (0, 0)) ∧ B ≤ p ∧ Cb.Own (Or (Lt B) (At p)) w B 88 v rows ∧ ∀ k, v.ownBlock = some k → k ≠ p
theorem RegS.lt {w : World} {B p : Nat} {rows : List Rw} (h : RegS w B p rows) : p < w.heap.size := by
  obtain ⟨v, h1, _⟩ := h; exact lt_of_heap h1
theorem RegS.keep {w w' : World} {B p : Nat} {rows : List Rw} {G : Nat → Prop} (h : RegS w B p rows) (hc : Chg G w w') (hG : ∀ k, k < w.heap.size → G k → k < B) : RegS w' B p rows := by
  obtain ⟨v, h1, h2, h3, h4⟩ := h
  exact ⟨v, hc.obj h1 (fun g => by have := hG p (lt_of_heap h1) g; omega), h2, h3.keep hc (fun b hb g => .inl (by simp only [Lt]; exact hG b hb g)) (fun k hk g => by have := h3.lt k hk; have := hG k (by omega) g; omega), h4⟩
theorem RegS.keepNo {w w' : World} {B p : Nat} {rows : List Rw} (h : RegS w B p rows) (hc : Chg No w w') : RegS w' B p rows := h.keep hc (fun _ _ f => f.elim)
set_option maxRecDepth 100000 in
set_option maxHeartbeats 1000000 in
theorem new_no (F G : Nat → Prop) (t : Int) (vq vs : Value) (q : List Int) (s : List (List Int)) (w : World) (hq : Sl F w vq q) (hs : Sl G w vs s) (hlq : q.length * 8 ≤ 140737488351232) (hls : s.length ≤ 17592186044416) (hb : ∀ x ∈ s, x.length * 8 ≤ 140737488351232)
    (hr : rightC t q s = false) : Calls Try.prog 30 #[cfgV t vq vs] w fun e w' => e = .returned (.tuple #[.pointer none, .int .i64 1]) ∧ Chg No w w' := by
  have Hr := Lib.hid (fun W (hW : Chg No w W) => tright_any F G t vq vs q s W (hq.keepNo hW) (hs.keepNo hW) hlq hls hb)
  rw [hr] at Hr
  clear hr
  obtain ⟨Aq, cq, rfl⟩ := hq.slice
  obtain ⟨As, cs, rfl⟩ := hs.slice
  clear hq hs hb
  unfold cfgV at *
  have o1 := alloc_obj w (.cells #[.int .i64 t, .slice Aq q.length cq, .slice As s.length cs] 68)
  have hc0 := (Chg.refl No w).alloc (.cells #[.int .i64 t, .slice Aq q.length cq, .slice As s.length cs] 68)
  have a0 := cell_obj (i := 0) o1 rfl
  have a1 := cell_obj (i := 1) o1 rfl
  have a2 := cell_obj (i := 2) o1 rfl
  go_enter Try.func30, Try.ntmps30
  go_wp2_with (first | (with_reducible refine stop_append ?_) | (with_reducible refine stop_copy ?_) | (with_reducible refine stop_make ?_) | (with_reducible refine stop_lookup ?_) | (with_reducible refine stop_update ?_) | (with_reducible refine stop_slice ?_) | (with_reducible refine stop_range ?_) | (with_reducible refine stop_next ?_) | (with_reducible refine stop_convert ⟨_, rfl⟩ ?_) | (with_reducible refine stop_convertB ⟨_, _, _, rfl⟩ ?_) | (with_reducible refine stop_eqSlice ⟨_, _, rfl⟩ ?_))
  refine (Hr.out _ hc0).mono ?_
  rintro e w1 ⟨rfl, hc1⟩
  go_wp2_with (first | (with_reducible refine stop_append ?_) | (with_reducible refine stop_copy ?_) | (with_reducible refine stop_make ?_) | (with_reducible refine stop_lookup ?_) | (with_reducible refine stop_update ?_) | (with_reducible refine stop_slice ?_) | (with_reducible refine stop_range ?_) | (with_reducible refine stop_next ?_) | (with_reducible refine stop_convert ⟨_, rfl⟩ ?_) | (with_reducible refine stop_convertB ⟨_, _, _, rfl⟩ ?_) | (with_reducible refine stop_eqSlice ⟨_, _, rfl⟩ ?_))
  go_ret2
  exact ⟨rfl, hc0.trans hc1⟩
set_option maxRecDepth 100000 in
set_option maxHeartbeats 1000000 in
theorem new_yes (t : Int) (vq vs : Value) (q : List Int) (s : List (List Int)) (w : World) (hq : Sl No w vq q) (hs : Sl No w vs s)
    (hr : rightC t q s = true) : Calls Try.prog 30 #[cfgV t vq vs] w fun e w' => ∃ p, e = .returned (.tuple #[.pointer (some ⟨p, 0, none⟩), .int .i64 0]) ∧ Chg No w w' ∧ RegS w' w.heap.size p [(t, q, s, [], false)] := by
  obtain ⟨_, ⟨_, h7⟩, ⟨_, h8⟩, _, hall⟩ := rightC_iff.1 hr
  have h3 : ∀ x ∈ s, x.length ≤ 3 := fun x hx => by
    have := hall x hx
    simp only [shardB, Bool.and_eq_true, decide_eq_true_eq] at this
    exact this.1.2
  have Hr := Lib.hid (fun W (hW : Chg No w W) => tright_any No No t vq vs q s W (hq.keepNo hW) (hs.keepNo hW) (by omega) (by omega) (fun x hx => by have := h3 x hx; omega))
  rw [hr] at Hr
  have Ho := Lib.hid (fun W (hW : Chg No w W) => own_any t vq vs (.slice none 0 0) false q s [] W (hq.keepNo hW) (hs.keepNo hW) (Sl.nil _ _ _ _) (by omega) (by omega) (fun x hx => by have := h3 x hx; omega) (by simp) (fun _ h => by cases h))
  unfold rowV at Ho
  clear hr hall h3
  obtain ⟨Aq, cq, rfl⟩ := hq.slice
  obtain ⟨As, cs, rfl⟩ := hs.slice
  clear hq hs
  unfold cfgV at *
  have o1 := alloc_obj w (.cells #[.int .i64 t, .slice Aq q.length cq, .slice As s.length cs] 68)
  have hc0 := (Chg.refl No w).alloc (.cells #[.int .i64 t, .slice Aq q.length cq, .slice As s.length cs] 68)
  have a0 := cell_obj (i := 0) o1 rfl
  have a1 := cell_obj (i := 1) o1 rfl
  have a2 := cell_obj (i := 2) o1 rfl
  go_enter Try.func30, Try.ntmps30
  go_wp2_with (first | (with_reducible refine stop_append ?_) | (with_reducible refine stop_copy ?_) | (with_reducible refine stop_make ?_) | (with_reducible refine stop_lookup ?_) | (with_reducible refine stop_update ?_) | (with_reducible refine stop_slice ?_) | (with_reducible refine stop_range ?_) | (with_reducible refine stop_next ?_) | (with_reducible refine stop_convert ⟨_, rfl⟩ ?_) | (with_reducible refine stop_convertB ⟨_, _, _, rfl⟩ ?_) | (with_reducible refine stop_eqSlice ⟨_, _, rfl⟩ ?_))
  generalize w.alloc (.cells #[.int .i64 t, .slice Aq q.length cq, .slice As s.length cs] 68) = w0 at *
  refine (Hr.out _ hc0).mono ?_
  rintro e w1 ⟨rfl, hc1⟩
  replace a0 := hc1.cell a0 (not_no _)
  replace a1 := hc1.cell a1 (not_no _)
  replace a2 := hc1.cell a2 (not_no _)
  have hcw1 := hc0.trans hc1
  clear o1
  go_wp2_with (first | (with_reducible refine stop_append ?_) | (with_reducible refine stop_copy ?_) | (with_reducible refine stop_make ?_) | (with_reducible refine stop_lookup ?_) | (with_reducible refine stop_update ?_) | (with_reducible refine stop_slice ?_) | (with_reducible refine stop_range ?_) | (with_reducible refine stop_next ?_) | (with_reducible refine stop_convert ⟨_, rfl⟩ ?_) | (with_reducible refine stop_convertB ⟨_, _, _, rfl⟩ ?_) | (with_reducible refine stop_eqSlice ⟨_, _, rfl⟩ ?_))
  refine (Ho.out _ hcw1).mono ?_
  rintro e w2 ⟨vq', vs', vt', rfl, hc2, hq2, hs2, ht2⟩
  obtain ⟨Bq, dq, rfl⟩ := hq2.slice
  obtain ⟨Bs, ds, rfl⟩ := hs2.slice
  obtain ⟨Bt, dt, rfl⟩ := ht2.slice
  have hw1 := hcw1.size
  have hw2 := hc2.size
  have hwk : ∀ b, b < w2.heap.size → Or (Or (Lt w.heap.size) (At (w2.heap.size + 1))) (OB (.slice (some ⟨w2.heap.size, 0, none⟩) 1 1)) b → b < w1.heap.size := fun b hb h => by
    rcases h with (h | h) | h
    · simp only [Lt] at h; omega
    · simp only [At] at h; omega
    · simp only [OB, Value.ownBlock, Option.some.injEq] at h; omega
  have hca := (Chg.refl No w2).alloc (.cells #[.int .i64 t, .slice Bq q.length dq, .slice Bs s.length ds, .slice Bt ([] : List Ent).length dt, .bool false] 88)
  have hown := own_lit1 (F := Or (Lt w.heap.size) (At (w2.heap.size + 1))) (T := 88) (w := w2) (y := ((t, q, s, [], false) : Rw)) (d := rwC (t, q, s, [], false) (.slice Bq q.length dq) (.slice Bs s.length ds) (.slice Bt ([] : List Ent).length dt)) rfl
    (rw_mk (t, q, s, [], false) ((hq2.weak hwk).keepNo hca) ((hs2.weak hwk).keepNo hca) ((ht2.weak hwk).keepNo hca))
  simp only [rwC, List.length_nil] at hown
  simp only [List.length_nil] at hca ⊢
  have Hown := Lib.hid (own_base hown (base' := w.heap.size) (by omega))
  have hcw2 := hcw1.trans hc2
  clear hown hwk hq2 hs2 ht2 a0 a1 a2
  have he : (w2.alloc (.cells #[.int .i64 t, .slice Bq q.length dq, .slice Bs s.length ds, .slice Bt 0 dt, .bool false] 88)).heap.size = w2.heap.size + 1 := by simp
  have hob := alloc_obj (w2.alloc (.cells #[.int .i64 t, .slice Bq q.length dq, .slice Bs s.length ds, .slice Bt 0 dt, .bool false] 88)) (.cells #[.slice (some ⟨w2.heap.size, 0, none⟩) 1 1] 137)
  rw [he] at hob
  have hcb := (Chg.refl No (w2.alloc (.cells #[.int .i64 t, .slice Bq q.length dq, .slice Bs s.length ds, .slice Bt 0 dt, .bool false] 88))).alloc (.cells #[.slice (some ⟨w2.heap.size, 0, none⟩) 1 1] 137)
  have Hob := Lib.hid hob
  have Hcb := Lib.hid hcb
  have Hca := Lib.hid hca
  clear hob hcb hca he
  go_wp2_with (first | (with_reducible refine stop_append ?_) | (with_reducible refine stop_copy ?_) | (with_reducible refine stop_make ?_) | (with_reducible refine stop_lookup ?_) | (with_reducible refine stop_update ?_) | (with_reducible refine stop_slice ?_) | (with_reducible refine stop_range ?_) | (with_reducible refine stop_next ?_) | (with_reducible refine stop_convert ⟨_, rfl⟩ ?_) | (with_reducible refine stop_convertB ⟨_, _, _, rfl⟩ ?_) | (with_reducible refine stop_eqSlice ⟨_, _, rfl⟩ ?_))
  go_ret2
  exact ⟨w2.heap.size + 1, rfl, (hcw2.trans Hca.out).trans Hcb.out, _, Hob.out, by omega, Hown.out.keep Hcb.out (fun _ _ f => f.elim) (fun _ _ f => f), fun k hk => by simp only [Value.ownBlock, Option.some.injEq] at hk; omega⟩
end Go.Proofs.Ytbjpoamnglfjeaa
