/- Rows that are cut, and appended to where there is no room: words and laws that speak of no program. -/
import Derived.Test.YtbjpoamnglfjeaaRow
set_option linter.unusedVariables false
namespace Cb
open Go Go.Deep
section
variable {P : Program} {OPS : Array Oper} {Q : Exit → Act → World → Prop} {w : World} {a : Act} {rest : List Oper} {α : Type}
theorem run_append_full [Rep α] {o : Oper} {s x : Operand} {t : TypeId} {F : Nat → Prop} {base : Nat} {e : TypeId} {z : Value} {bytes : Nat}
    (hop : o.op = .call ⟨.builtin .append, #[s, x], #[t, t]⟩)
    (ht : P.underlying t = some (.slice e)) (hi : Info P e z (Rep.n α) bytes) (hz : z.cells.size = Rep.n α)
    {B A : Option Addr} {k n c : Nat} {xs ys : List α} (hv : Sl F w (.slice B k k) xs) (hs : a.eval s = .slice B k k) (hx : a.eval x = .slice A n c)
    (hy : Sl F w (.slice A n c) ys)
    (h63 : xs.length + ys.length ≤ 140737488351232) (hbytes : (xs.length + ys.length) * bytes ≤ 140737488355328) (hbase : base ≤ w.heap.size) :
    ∃ v' w', (execOp a.eval o).run P w = .ok (.value v') w' ∧ ((ys = [] ∧ v' = .slice B k k ∧ w' = w) ∨ Own F w' base e v' (xs ++ ys)) ∧ Chg No w w' := by
  obtain ⟨i, hi', hz0, hz1, hz2⟩ := info_parts hi
  obtain ⟨olds, hso, hol, hod⟩ := Src.sl ht hv
  obtain ⟨news, hsrc, hn, hd⟩ := Src.sl ht hy
  have hk : k = xs.length := hv.len.1
  subst hk
  by_cases hys : ys = []
  · subst hys
    have hn0 : news = [] := List.eq_nil_of_length_eq_zero (by simpa using hn)
    subst hn0
    obtain ⟨hn', _⟩ := hy.len
    simp only [List.length_nil] at hn'
    subst hn'
    refine ⟨.slice B xs.length xs.length, w, ?_, .inl ⟨rfl, rfl, rfl⟩, Chg.refl _ _⟩
    have hsc := hsrc.cells
    simp only [List.length_nil, List.flatten_nil] at hsc
    have hr : (Builtin.append_ #[t, t] o.type #[.slice B xs.length xs.length, .slice A 0 c]).run P w = .ok (.slice B xs.length xs.length) w := by
      have hlen := hsrc.len w
      cases B with
      | none =>
        have hx0 : xs = [] := by
          obtain ⟨A', c', e', _, h | ⟨b, o, rfl, _⟩⟩ := hv
          · exact h
          · cases e'
        subst hx0
        simp [Builtin.append_, run_underlying ht, Go.sizeOf, typeInfo, hi', hlen, hz1, hsc]
      | some ad =>
        have hsc' := hz1 ▸ hsc
        simp [Builtin.append_, run_underlying ht, Go.sizeOf, typeInfo, hi', Builtin.lenOf, hz1, hsc, storeCells]
    simp only [execOp, hop, resolve, invoke, builtin, Sem.run_bind, Sem.run_pure, Result.andThen_ok, List.map_toArray, List.map_cons, List.map_nil, hs, hx, hr]
  · have hpos : 0 < ys.length := List.length_pos_iff.2 hys
    have hr := run_append_grow_src (P := P) w t t o.type e i z ht hi' hz0 B xs.length xs.length olds.flatten (by rw [hz1]; exact hso.cellsD) (.slice A n c) ys.length news.flatten (by rw [hz1]; exact hsrc) (by omega) (by omega) (growslice_fits (by omega) (by rw [hz2]; exact hbytes))
    have hc1 : Chg No w (w.drew.alloc (.cells ((olds.flatten ++ news.flatten).toArray ++ Builtin.zeroCells z.cells (grownCap w (xs.length + ys.length) xs.length e - (xs.length + ys.length))) e)) := (Chg.refl No w).drew.alloc _
    refine ⟨_, _, by simp only [execOp, hop, resolve, invoke, builtin, Sem.run_bind, Sem.run_pure, Result.andThen_ok, List.map_toArray, List.map_cons, List.map_nil, hs, hx, hr]; rfl, .inr ⟨olds ++ news, by simp [hol, hn], ?_, ?_⟩, hc1⟩
    · have hkeep : ∀ (y : α) (d : List Value), Rep.cs F w y d → Rep.cs (Or F (OB (.slice (some ⟨w.heap.size, 0, none⟩) (xs.length + ys.length) (grownCap w (xs.length + ys.length) xs.length e)))) (w.drew.alloc (.cells ((olds.flatten ++ news.flatten).toArray ++ Builtin.zeroCells z.cells (grownCap w (xs.length + ys.length) xs.length e - (xs.length + ys.length))) e)) y d := fun y d h =>
        Rep.keep (Rep.weak h (fun b hb g => by
          rcases g with g | g
          · exact g
          · simp [OB, Value.ownBlock] at g; omega)) hc1.of_no
      intro j hj hj'
      by_cases hlt : j < xs.length
      · rw [List.getElem_append_left hlt, List.getElem_append_left (by omega)]
        exact hkeep _ _ (hod j hlt (by omega))
      · rw [List.getElem_append_right (by omega), List.getElem_append_right (by omega)]
        simp only [hol]
        exact hkeep _ _ (hd _ (by simp at hj; omega) (by simp at hj'; omega))
    · have hlen : (olds ++ news).flatten.length = (xs ++ ys).length * Rep.n α := by
        rw [List.flatten_append, List.length_append, hso.newsLen, hsrc.newsLen, List.length_append, Nat.add_mul]
      have hge := grownCap_ge w (xs.length + ys.length) xs.length e
      refine ⟨hlen, .inr ⟨w.heap.size, _, _, by rw [List.length_append], hbase, heap_alloc_new w.drew _, by rw [List.length_append]; exact hge, grownCap_le_maxLen w _ _ e (by simp only [maxLen]; omega), ?_, ?_⟩⟩
      · simp only [Array.size_append, List.size_toArray, size_zeroCells, hz, List.length_append, hso.newsLen, hsrc.newsLen, ← Nat.add_mul]
        congr 1
        omega
      · rw [Array.toList_append, ← hlen, List.flatten_append]
        exact List.take_left
/-- x[:k:k]. -/
theorem run_cut_full [Rep α] {t e : TypeId} {z : Value} {bytes : Nat} (ht : P.underlying t = some (.slice e)) (hi' : Info P e z (Rep.n α) bytes) (A : Option Addr) (n c k : Nat) (hk : k ≤ c) :
    ∃ A', (∀ W, (Instr.sliceAt t (.slice A n c) none (some (.int .i64 k)) (some (.int .i64 k))).run P W = .ok (.slice A' k k) W) ∧
      ∀ (F : Nat → Prop) (w : World) (xs : List α), Sl F w (.slice A n c) xs → k ≤ xs.length → Sl F w (.slice A' k k) (xs.take k) := by
  obtain ⟨i, hi0, hz0, hz1, hz2⟩ := info_parts hi'
  have hb : ∀ W, (Instr.sliceBounds true n c none (some (.int .i64 k)) (some (.int .i64 k))).run P W = .ok (0, k, k) W := fun W => by
    simp [Instr.sliceBounds, run_sliceBound_in, hk]
  refine ⟨_, fun W => by simp [Instr.sliceAt, Instr.slice, run_underlying ht, hb, Go.sizeOf, typeInfo, hi0]; rfl, fun F w xs hs hkx => ?_⟩
  obtain ⟨A', c', e', hlen, hr⟩ := hs
  cases e'
  have hll : (xs.take k).length = k := by rw [List.length_take]; omega
  refine ⟨_, _, by rw [hll], by rw [hll]; omega, ?_⟩
  rcases hr with rfl | ⟨b, o, rfl, hb', hlt, hr⟩
  · left; simp
  · by_cases hk0 : k = 0
    · left; subst hk0; rfl
    · right
      refine ⟨b, o, by simp [Addr.add], hb', hlt, fun j hj => ?_⟩
      obtain ⟨d, hd, hj'⟩ := hr j (by omega)
      exact ⟨d, by simpa using hd, hj'⟩
/-- x[l:]. -/
theorem run_cut_lo [Rep α] {t e : TypeId} {z : Value} {bytes : Nat} (ht : P.underlying t = some (.slice e)) (hi' : Info P e z (Rep.n α) bytes) (A : Option Addr) (n c l : Nat) (hl : l ≤ n) (hnc : n ≤ c) :
    ∃ A' c', (∀ W, (Instr.sliceAt t (.slice A n c) (some (.int .i64 l)) none none).run P W = .ok (.slice A' (n - l) c') W) ∧
      ∀ (F : Nat → Prop) (w : World) (xs : List α), Sl F w (.slice A n c) xs → Sl F w (.slice A' (n - l) c') (xs.drop l) := by
  obtain ⟨i, hi0, hz0, hz1, hz2⟩ := info_parts hi'
  have hb : ∀ W, (Instr.sliceBounds true n c (some (.int .i64 l)) none none).run P W = .ok (l, n, c) W := fun W => by
    simp [Instr.sliceBounds, run_sliceBound_in, hl]
  refine ⟨_, _, fun W => by simp [Instr.sliceAt, Instr.slice, run_underlying ht, hb, Go.sizeOf, typeInfo, hi0]; exact ⟨rfl, rfl⟩, fun F w xs hs => ?_⟩
  obtain ⟨A', c', e', hlen, hr⟩ := hs
  cases e'
  have hll : (xs.drop l).length = xs.length - l := List.length_drop
  refine ⟨_, _, by rw [hll], by rw [hll]; omega, ?_⟩
  rcases hr with rfl | ⟨b, o, rfl, hb', hlt, hr⟩
  · left; simp
  · by_cases hcl : c = l
    · left; apply List.eq_nil_of_length_eq_zero; rw [hll]; omega
    · right
      refine ⟨b, o + l * Rep.n α, by rw [if_neg hcl]; simp [hz1, Addr.add_lit], hb', hlt, fun k hk => ?_⟩
      obtain ⟨d, hd, hj⟩ := hr (l + k) (by omega)
      refine ⟨d, by simpa using hd, fun j u hu => ?_⟩
      have := hj j u hu
      rw [show o + l * Rep.n α + k * Rep.n α + j = o + (l + k) * Rep.n α + j by rw [Nat.add_mul]; omega]
      exact this
/-- What may be appended to: a row of the call's own (in a block below n0), or one behind which there is no room. -/
def AppT [Rep α] (F : Nat → Prop) (w : World) (base n0 : Nat) (T : TypeId) (v : Value) (xs : List α) : Prop :=
  (Own F w base T v xs ∧ ∀ k, OB v k → k < n0) ∨ (Sl F w v xs ∧ ∃ A n, v = .slice A n n)
theorem AppT.sl [Rep α] {F : Nat → Prop} {base n0 : Nat} {T : TypeId} {v : Value} {xs : List α} (h : AppT F w base n0 T v xs) (hF : ∀ k, F k → k < base) : Sl F w v xs := by
  rcases h with h | h
  · exact h.1.sl (fun k hk f => by have := (h.1.lt k hk).1; have := hF k f; omega)
  · exact h.1
theorem AppT.slice [Rep α] {F : Nat → Prop} {base n0 : Nat} {T : TypeId} {v : Value} {xs : List α} (h : AppT F w base n0 T v xs) : ∃ A c, v = .slice A xs.length c := by
  rcases h with h | h
  · exact h.1.slice
  · exact h.1.slice
theorem AppT.keep [Rep α] {F : Nat → Prop} {w' : World} {base n0 : Nat} {T : TypeId} {v : Value} {xs : List α} (h : AppT F w base n0 T v xs) (hc : Chg F w w') (hF : ∀ k, F k → k < base) : AppT F w' base n0 T v xs := by
  rcases h with h | h
  · exact .inl ⟨h.1.keep hc (fun _ _ f => f) (fun k hk f => by have := (h.1.lt k hk).1; have := hF k f; omega), h.2⟩
  · exact .inr ⟨h.1.keep hc, h.2⟩
theorem AppT.keepNo [Rep α] {F : Nat → Prop} {w' : World} {base n0 : Nat} {T : TypeId} {v : Value} {xs : List α} (h : AppT F w base n0 T v xs) (hc : Chg No w w') (hF : ∀ k, F k → k < base) : AppT F w' base n0 T v xs := h.keep hc.of_no hF
theorem AppT.le [Rep α] {F : Nat → Prop} {base n0 n1 : Nat} {T : TypeId} {v : Value} {xs : List α} (h : AppT F w base n0 T v xs) (hn : n0 ≤ n1) : AppT F w base n1 T v xs :=
  h.imp (fun h => ⟨h.1, fun k hk => by have := h.2 k hk; omega⟩) id
theorem run_append_app [Rep α] {o : Oper} {s x : Operand} {t : TypeId} {F : Nat → Prop} {base n0 : Nat} {e : TypeId} {z : Value} {bytes : Nat}
    (hop : o.op = .call ⟨.builtin .append, #[s, x], #[t, t]⟩)
    (ht : P.underlying t = some (.slice e)) (hi : Info P e z (Rep.n α) bytes) (hz : z.cells.size = Rep.n α)
    {v : Value} {A : Option Addr} {n c : Nat} {xs ys : List α} (ha : AppT F w base n0 e v xs) (hs : a.eval s = v) (hx : a.eval x = .slice A n c)
    (hy : Sl (Lt n0) w (.slice A n c) ys) (hF : ∀ k, F k → k < base) (hbn : base ≤ n0)
    (h63 : xs.length + ys.length ≤ 140737488351232) (hbytes : (xs.length + ys.length) * bytes ≤ 140737488355328) (hbase : base ≤ w.heap.size) :
    ∃ v' w', (execOp a.eval o).run P w = .ok (.value v') w' ∧ AppT F w' base w'.heap.size e v' (xs ++ ys) ∧ Chg (Ge base) w w' := by
  have hFn : ∀ k, F k → Lt n0 k := fun k f => by have := hF k f; simp only [Lt]; omega
  rcases ha with ⟨ha, hob⟩ | ⟨ha, B, k, rfl⟩
  · obtain ⟨v', w', h1, h2, h3⟩ := run_append_sl hop ht hi hz ha hs hx hy (fun b _ h => h.elim (hFn b) (hob b)) h63 hbytes hbase
    exact ⟨v', w', h1, .inl ⟨h2, fun k hk => (h2.lt k hk).2⟩, h3.chg.weak (fun k _ h => (ha.lt k h).1)⟩
  · obtain ⟨v', w', h1, h2, h3⟩ := run_append_full hop ht hi hz ha hs hx (hy.weak (fun b _ f => hFn b f)) h63 hbytes hbase
    refine ⟨v', w', h1, ?_, h3.of_no⟩
    rcases h2 with ⟨rfl, rfl, rfl⟩ | h2
    · exact .inr ⟨by simpa using ha, _, _, rfl⟩
    · exact .inl ⟨h2, fun k hk => (h2.lt k hk).2⟩
theorem step_append_app [Rep α] {d : Option Tmp} {s x : Operand} {t ty : TypeId} {p : String} {af : Array Edge} {F : Nat → Prop} {base n0 : Nat} {e : TypeId} {z : Value} {bytes : Nat}
    (ht : P.underlying t = some (.slice e)) (hi : Info P e z (Rep.n α) bytes) (hz : z.cells.size = Rep.n α)
    {v : Value} {A : Option Addr} {n c : Nat} {xs ys : List α} (ha : AppT F w base n0 e v xs) (hs : a.eval s = v) (hx : a.eval x = .slice A n c)
    (hy : Sl (Lt n0) w (.slice A n c) ys) (hF : ∀ k, F k → k < base) (hbn : base ≤ n0)
    (h63 : xs.length + ys.length ≤ 140737488351232) (hbytes : (xs.length + ys.length) * bytes ≤ 140737488355328) (hbase : base ≤ w.heap.size)
    (h : ∀ v' w', AppT F w' base w'.heap.size e v' (xs ++ ys) → Chg (Ge base) w w' → wpList P OPS Q rest (a.put d v') w') :
    Stop (wpList P OPS Q (⟨d, .call ⟨.builtin .append, #[s, x], #[t, t]⟩, ty, p, af, none⟩ :: rest) a w) := by
  obtain ⟨v', w', hr, h1, h2⟩ := run_append_app (o := ⟨d, .call ⟨.builtin .append, #[s, x], #[t, t]⟩, ty, p, af, none⟩) rfl ht hi hz ha hs hx hy hF hbn h63 hbytes hbase
  exact step_run rfl hr (h v' w' h1 h2)
end
section
variable {P : Program} {ops : Array Oper} {Q : Exit → Act → World → Prop} {S : World → Prop} {fuel : Nat} {listed : Array Bool} {a : Act} {w : World}
theorem rt_append_full {α : Type} [Rep α] (S' : World → Prop) {i : Nat} {d : Option Tmp} {s x : Operand} {t ty : TypeId} {p : String} {af : Array Edge} {gd : Option (Nat × Bool)} {F : Nat → Prop} {base : Nat} {e : TypeId} {z : Value} {bytes : Nat}
    (hr : Region.ready .any ops listed = [i]) (hS : S w) (hSS : ∀ w, S' w → S w) (hi0 : ops[i]? = some ⟨d, .call ⟨.builtin .append, #[s, x], #[t, t]⟩, ty, p, af, gd⟩)
    (hw : Region.wanted ⟨d, .call ⟨.builtin .append, #[s, x], #[t, t]⟩, ty, p, af, gd⟩ (yielded ops a.tmps) = true)
    (ht : P.underlying t = some (.slice e)) (hi : Info P e z (Rep.n α) bytes) (hz : z.cells.size = Rep.n α)
    {B A : Option Addr} {k n c : Nat} {xs ys : List α} (hv : Sl F w (.slice B k k) xs) (hs : a.eval s = .slice B k k) (hx : a.eval x = .slice A n c)
    (hy : Sl F w (.slice A n c) ys)
    (h63 : xs.length + ys.length ≤ 140737488351232) (hbytes : (xs.length + ys.length) * bytes ≤ 140737488355328) (hbase : base ≤ w.heap.size)
    (h : ∀ v' w', AppT F w' base w'.heap.size e v' (xs ++ ys) → Chg No w w' → RT P ops Q S' fuel (listed.setIfInBounds i true) (a.put d v') w') : RT P ops Q S (fuel + 1) listed a w := by
  obtain ⟨v', w', hrun, h1, h2⟩ := run_append_full (a := a) (o := ⟨d, .call ⟨.builtin .append, #[s, x], #[t, t]⟩, ty, p, af, gd⟩) (base := base) rfl ht hi hz hv hs hx hy h63 hbytes hbase
  refine rt_run S' hr hS hSS hi0 hw hrun (h v' w' ?_ h2)
  rcases h1 with ⟨rfl, rfl, rfl⟩ | h1
  · exact .inr ⟨by simpa using hv, _, _, rfl⟩
  · exact .inl ⟨h1, fun k hk => (h1.lt k hk).2⟩
end
end Cb
