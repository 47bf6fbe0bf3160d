/- More laws: guarded operations that stand still, a number of an own row is written. They speak of no program. -/
import Derived.Test.YtlpnbbjmcmjkpaaRow
import Derived.Test.YtlpnbbjmcmjkpaaEng2
set_option linter.unusedVariables false
namespace Cb
open Go Go.RowKit
section
variable {α : Type} {P : Program} {rest : List Oper} {Q : Exit → Act → World → Prop} {a : Act} {w : World} {OPS : Array Oper}
theorem step_run_g {o : Oper} {v : Value} {w' : World} (hg : Region.wanted o (yielded OPS a.tmps) = true) (hr : (execOp a.eval o).run P w = .ok (.value v) w')
    (h : wpList P OPS Q rest (a.put o.dst v) w') : wpList P OPS Q (o :: rest) a w := by
  unfold wpList
  rw [if_pos hg]
  refine .inl ?_
  unfold Oper.wp
  rw [hr]
  exact h
theorem step_skip_g {o : Oper} (hg : Region.wanted o (yielded OPS a.tmps) = false) (h : wpList P OPS Q rest (a.put o.dst undef) w) : Stop (wpList P OPS Q (o :: rest) a w) := by
  unfold Stop wpList
  rw [if_neg (by rw [hg]; simp)]
  exact h
theorem step_slice_g [Rep α] {F : Nat → Prop} {d : Option Tmp} {x : Operand} {t ty e : TypeId} {p : String} {af : Array Edge} {gd : Option (Nat × Bool)} {z : Value} {bytes : Nat} {lo hi : Option Operand}
    (hg : Region.wanted ⟨d, .slice t x lo hi none, ty, p, af, gd⟩ (yielded OPS a.tmps) = true)
    (ht : P.underlying t = some (.slice e)) (hi' : Info P e z (Rep.n α) bytes) {A : Option Addr} {n c l h : Nat} {xs : List α} (hs : Sl F w (.slice A n c) xs) (hx : a.eval x = .slice A n c)
    (hl : Bound a lo 0 l) (hh : Bound a hi n h) (h1 : l ≤ h) (h2 : h ≤ xs.length)
    (hk : ∀ A' c', Sl F w (.slice A' (h - l) c') ((xs.take h).drop l) → wpList P OPS Q rest (a.put d (.slice A' (h - l) c')) w) :
    Stop (wpList P OPS Q (⟨d, .slice t x lo hi none, ty, p, af, gd⟩ :: rest) a w) := by
  obtain ⟨A', c', hr, hs'⟩ := run_slice ht hi' hs hl hh h1 h2 hx
  refine step_run_g hg (v := .slice A' (h - l) c') (w' := w) ?_ (hk A' c' hs')
  have := hr
  rcases hl with ⟨rfl, rfl⟩ | ⟨o, kd, rfl, ho⟩ <;> rcases hh with ⟨rfl, rfl⟩ | ⟨o2, kd2, rfl, ho2⟩ <;>
    · simp only [Option.map_some, Option.map_none] at this
      simp only [execOp, Instr.sliceAt, Sem.run_bind, run_underlying ht, Option.map_some, Option.map_none, this, Result.andThen_ok, Sem.run_pure]
end
theorem flatten_set1 {ds : List (List Value)} (hd : ∀ d ∈ ds, ∃ x : Value, d = [x]) (k : Nat) (u : Value) : ds.flatten.set k u = (ds.set k [u]).flatten := by
  induction ds generalizing k with
  | nil => simp
  | cons d r ih =>
    obtain ⟨x, rfl⟩ := hd d (by simp)
    cases k with
    | zero => rfl
    | succ k =>
      have := ih (fun d hd' => hd d (by simp [hd'])) k
      simp only [List.flatten_cons, List.cons_append, List.nil_append, List.set_cons_succ, this]
/-- A number of a row of numbers of the call's own is read. -/
theorem Own.get1 {F : Nat → Prop} {w : World} {base : Nat} {T : TypeId} {g n c : Nat} {xs : List Int} (h : Own F w base T (.slice (some ⟨g, 0, none⟩) n c) xs) (k : Nat) (hk : k < xs.length) :
    w.cell? ⟨g, k, none⟩ = some (.int .i64 xs[k]) := by
  obtain ⟨b, o, d, e, _, _, rfl, ha⟩ := (h.slFlat (G := No) (fun _ _ => not_no _)).get k hk
  cases e
  have h0 := ha 0 _ rfl
  simp only [show Rep.n Int = 1 from rfl, Nat.mul_one, Nat.add_zero, Nat.zero_add] at h0
  exact h0
/-- A number of a row of numbers of the call's own is written. -/
theorem Own.set1 {F : Nat → Prop} {w : World} {base : Nat} {T : TypeId} {v : Value} {xs : List Int} (h : Own F w base T v xs) (k : Nat) (hk : k < xs.length) {b : Nat} (hb : v.ownBlock = some b) (u : Int) :
    Own F (w.setCell ⟨b, k, none⟩ (.int .i64 u)) base T v (xs.set k u) ∧ w.frozen? ⟨b, k, none⟩ = false := by
  obtain ⟨ds, hl, hd, ho1, ho2⟩ := h
  have hcell : ∀ i (h : i < xs.length) (h' : i < ds.length), ds[i] = [.int .i64 xs[i]] := fun i hi hi' => hd i hi hi'
  have hall : ∀ d ∈ ds, ∃ x : Value, d = [x] := fun d hd' => by
    obtain ⟨i, hi, rfl⟩ := List.mem_iff_getElem.1 hd'
    exact ⟨_, hcell i (by omega) hi⟩
  rcases ho2 with ⟨rfl, h0⟩ | ⟨g, cap, cur, rfl, hbg, hg, hnc, hm, hs, ht⟩
  · omega
  · obtain rfl : g = b := by simpa [Value.ownBlock] using hb
    have hsz : k < cur.size := by rw [hs, show Rep.n Int = 1 from rfl]; omega
    refine ⟨⟨ds.set k [.int .i64 u], by simpa using hl, fun i hi hi' => ?_, ?_, .inr ⟨g, cap, cur.setIfInBounds k (.int .i64 u), by simp, hbg, set_obj hg _, by simpa using hnc, hm, by simpa using hs, ?_⟩⟩, free_obj hg⟩
    · rw [List.getElem_set, List.getElem_set]
      by_cases e : k = i
      · subst e; rw [if_pos rfl, if_pos rfl]; rfl
      · rw [if_neg e, if_neg e]
        have hi2 : i < xs.length := by simpa using hi
        rw [hcell i hi2 (by omega)]
        rfl
    · rw [← flatten_set1 hall k _, List.length_set, List.length_set, ho1]
    · rw [← flatten_set1 hall k _, ← ht, List.length_set, Array.toList_setIfInBounds, List.take_set]
end Cb
