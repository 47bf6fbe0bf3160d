/- A row of plain values that an object holds and appends to. It speaks of no program. -/
import Derived.Test.YtbjpoamnglfjeaaApp
set_option linter.unusedVariables false
namespace Cb
open Go Go.Deep
section
variable {P : Program} {OPS : Array Oper} {Q : Exit → Act → World → Prop} {w : World} {a : Act} {rest : List Oper} {α : Type}
/-- Either it is the holder's own, clear of F, or there is no room behind it (then an append lays a new one). -/
def RowT [Rep α] (F : Nat → Prop) (w : World) (lo : Nat) (T : TypeId) (v : Value) (xs : List α) : Prop :=
  (Own No w lo T v xs ∧ ∀ k, OB v k → ¬ F k) ∨ (Sl F w v xs ∧ ∃ A n, v = .slice A n n)
theorem RowT.sl [Rep α] [Flat α] {F : Nat → Prop} {lo : Nat} {T : TypeId} {v : Value} {xs : List α} (h : RowT F w lo T v xs) : Sl F w v xs := by
  rcases h with h | h
  · exact h.1.slFlat h.2
  · exact h.1
theorem RowT.slice [Rep α] {F : Nat → Prop} {lo : Nat} {T : TypeId} {v : Value} {xs : List α} (h : RowT F w lo T v xs) : ∃ A c, v = .slice A xs.length c := by
  rcases h with h | h
  · exact h.1.slice
  · exact h.1.slice
theorem RowT.keep [Rep α] [Flat α] {F G : Nat → Prop} {w' : World} {lo : Nat} {T : TypeId} {v : Value} {xs : List α} (h : RowT F w lo T v xs) (hc : Chg G w w') (hG : ∀ k, k < w.heap.size → G k → F k) : RowT F w' lo T v xs := by
  rcases h with h | h
  · exact .inl ⟨h.1.keepFlat hc (fun k hk g => h.2 k hk (hG k (h.1.lt k hk).2 g)), h.2⟩
  · exact .inr ⟨h.1.keep (hc.weak hG), h.2⟩
theorem RowT.keepNo [Rep α] [Flat α] {F : Nat → Prop} {w' : World} {lo : Nat} {T : TypeId} {v : Value} {xs : List α} (h : RowT F w lo T v xs) (hc : Chg No w w') : RowT F w' lo T v xs := h.keep hc (fun _ _ f => f.elim)
theorem RowT.weak [Rep α] {F G : Nat → Prop} {lo : Nat} {T : TypeId} {v : Value} {xs : List α} (h : RowT F w lo T v xs) (hG : ∀ k, k < w.heap.size → G k → F k) : RowT G w lo T v xs := by
  rcases h with h | h
  · exact .inl ⟨h.1, fun k hk g => h.2 k hk (hG k (h.1.lt k hk).2 g)⟩
  · exact .inr ⟨h.1.weak hG, h.2⟩
theorem Own.down [Rep α] {F : Nat → Prop} {b b' : Nat} {T : TypeId} {v : Value} {xs : List α} (h : Own F w b T v xs) (hb : b' ≤ b) : Own F w b' T v xs := by
  obtain ⟨ds, h1, h2, h3, h4⟩ := h
  refine ⟨ds, h1, h2, h3, ?_⟩
  rcases h4 with hn | ⟨g, cap, cur, rfl, hb0, rest⟩
  · exact .inl hn
  · exact .inr ⟨g, cap, cur, rfl, Nat.le_trans hb hb0, rest⟩
/-- A block that an own row lies in holds cells. -/
theorem Own.cells [Rep α] {F : Nat → Prop} {b : Nat} {T : TypeId} {v : Value} {xs : List α} (h : Own F w b T v xs) : ∀ k, OB v k → ∃ C T' fz, w.heap[k]? = some (.cells C T' fz) := by
  obtain ⟨ds, h1, h2, h3, h4⟩ := h
  rcases h4 with ⟨rfl, _⟩ | ⟨g, cap, cur, rfl, hb0, hg, rest⟩
  · intro k hk; simp [OB, Value.ownBlock] at hk
  · intro k hk
    simp only [OB, Value.ownBlock, Option.some.injEq] at hk
    subst hk
    exact ⟨_, _, _, hg⟩
def IsC (w : World) (k : Nat) : Prop := ∃ C T fz, w.heap[k]? = some (.cells C T fz)
theorem run_append_rowT [Rep α] [Flat α] {o : Oper} {s x : Operand} {t : TypeId} {F G : Nat → Prop} {lo : Nat} {e : TypeId} {z : Value} {bytes : Nat}
    (hop : o.op = .call ⟨.builtin .append, #[s, x], #[t, t]⟩)
    (ht : P.underlying t = some (.slice e)) (hi : Info P e z (Rep.n α) bytes) (hz : z.cells.size = Rep.n α)
    {v : Value} {A : Option Addr} {n c : Nat} {xs ys : List α} (hv : RowT F w lo e v xs) (hs : a.eval s = v) (hx : a.eval x = .slice A n c)
    (hy : Sl G w (.slice A n c) ys) (hne : ys ≠ [])
    (h63 : xs.length + ys.length ≤ 140737488351232) (hbytes : (xs.length + ys.length) * bytes ≤ 140737488355328) (hbase : lo ≤ w.heap.size) :
    ∃ v' w', (execOp a.eval o).run P w = .ok (.value v') w' ∧ Own No w' lo e v' (xs ++ ys) ∧ Chg (fun k => OB v k ∧ ¬ F k ∧ IsC w k) w w' ∧ ∀ k, OB v' k → (OB v k ∧ ¬ F k) ∨ w.heap.size ≤ k := by
  rcases hv with ⟨hv, hF⟩ | ⟨hv, B, m, rfl⟩
  · obtain ⟨v', w', hrun, h1, h2⟩ := run_append_flat (a := a) hop ht hi hz hv hs hx hy h63 hbytes hbase
    refine ⟨v', w', hrun, h1, h2.chg.weak (fun k _ h => ⟨h, hF k h, hv.cells k h⟩), fun k hk => ?_⟩
    rcases h2.blk k hk with h | h
    · exact .inl ⟨h, hF k h⟩
    · exact .inr h
  · obtain ⟨v', w', h1, h2, h3⟩ := run_append_full (a := a) (F := No) (base := w.heap.size) hop ht hi hz (hv.weak (fun _ _ f => f.elim)) hs hx (hy.weak (fun _ _ f => f.elim)) h63 hbytes (Nat.le_refl _)
    rcases h2 with ⟨h, _⟩ | h2
    · exact absurd h hne
    · exact ⟨v', w', h1, h2.down hbase, h3.of_no, fun k hk => .inr (h2.lt k hk).1⟩
end
section
variable {P : Program} {ops : Array Oper} {Q : Exit → Act → World → Prop} {S : World → Prop} {fuel : Nat} {listed : Array Bool} {a : Act} {w : World}
theorem rt_append_row {α : Type} [Rep α] [Flat α] (S' : World → Prop) {i : Nat} {d : Option Tmp} {s x : Operand} {t ty : TypeId} {p : String} {af : Array Edge} {gd : Option (Nat × Bool)} {F G : Nat → Prop} {lo : Nat} {e : TypeId} {z : Value} {bytes : Nat}
    (hr : Region.ready .any ops listed = [i]) (hS : S w) (hSS : ∀ w, S' w → S w) (hi0 : ops[i]? = some ⟨d, .call ⟨.builtin .append, #[s, x], #[t, t]⟩, ty, p, af, gd⟩)
    (hw : Region.wanted ⟨d, .call ⟨.builtin .append, #[s, x], #[t, t]⟩, ty, p, af, gd⟩ (yielded ops a.tmps) = true)
    (ht : P.underlying t = some (.slice e)) (hi : Info P e z (Rep.n α) bytes) (hz : z.cells.size = Rep.n α)
    {v : Value} {A : Option Addr} {n c : Nat} {xs ys : List α} (hv : RowT F w lo e v xs) (hs : a.eval s = v) (hx : a.eval x = .slice A n c)
    (hy : Sl G w (.slice A n c) ys) (hne : ys ≠ [])
    (h63 : xs.length + ys.length ≤ 140737488351232) (hbytes : (xs.length + ys.length) * bytes ≤ 140737488355328) (hbase : lo ≤ w.heap.size)
    (h : ∀ v' w', Own No w' lo e v' (xs ++ ys) → Chg (fun k => OB v k ∧ ¬ F k ∧ IsC w k) w w' → (∀ k, OB v' k → (OB v k ∧ ¬ F k) ∨ w.heap.size ≤ k) → RT P ops Q S' fuel (listed.setIfInBounds i true) (a.put d v') w') : RT P ops Q S (fuel + 1) listed a w := by
  obtain ⟨v', w', hrun, h1, h2, h3⟩ := run_append_rowT (a := a) (o := ⟨d, .call ⟨.builtin .append, #[s, x], #[t, t]⟩, ty, p, af, gd⟩) rfl ht hi hz hv hs hx hy hne h63 hbytes hbase
  exact rt_run S' hr hS hSS hi0 hw hrun (h v' w' h1 h2 h3)
end
end Cb
