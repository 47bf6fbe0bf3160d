/- Texts Row. -/
import Derived.Test.YtbjpoamnglfjeaaMg3
import Derived.Deep.SlicePairs
import Derived.Carry
import Derived.SizedLaws
import Derived.SliceStrings
/- Arguments, opened: rows of pairs. They speak of no program. -/
set_option linter.unusedVariables false
namespace Cb
open Go Go.Deep Go.ChangeShapes Go.WideShapes
section
variable {H : Type} {enc : TypeId × Value → H} {P : Program} {w : World} {base : Nat} {spare : Nat → Bool} {held : Bool}
theorem add_plain' (b off n : Nat) : (⟨b, off, none⟩ : Addr).add n = ⟨b, off + n, none⟩ := by
  unfold Addr.add; by_cases h : n = 0 <;> simp [h]
theorem mem_weightsAll {e : TypeId} {d : DataW H} {n : Nat} (hn : n ∈ d.weights P e) : ∀ {l : List (DataW H)}, d ∈ l → n ∈ DataW.weightsAll P e l
  | _ :: l, h => by
    simp only [DataW.weightsAll, List.mem_append]
    rcases List.mem_cons.1 h with rfl | h
    · exact .inl hn
    · exact .inr (mem_weightsAll hn h)
/-- A new row of no values. -/
theorem Own.made0 {α : Type} [Rep α] (F : Nat → Prop) (w : World) (T : TypeId) : Own F (w.alloc (.cells #[] T)) w.heap.size T (.slice (some ⟨w.heap.size, 0, none⟩) 0 0) ([] : List α) :=
  ⟨[], rfl, fun _ h => absurd h (by simp), by simp, .inr ⟨_, 0, #[], rfl, Nat.le_refl _, alloc_obj _ _, by simp, by simp [maxLen], by simp, by simp⟩⟩
theorem flatten_set2 {ds : List (List Value)} (hd : ∀ d ∈ ds, ∃ x y : Value, d = [x, y]) (k : Nat) (x y u : Value) (hk : ds[k]? = some [x, y]) : ds.flatten.set (k * 2 + 1) u = (ds.set k [x, u]).flatten := by
  induction ds generalizing k with
  | nil => simp at hk
  | cons d r ih =>
    cases k with
    | zero => simp only [List.getElem?_cons_zero, Option.some.injEq] at hk; subst hk; rfl
    | succ k =>
      obtain ⟨a, b, rfl⟩ := hd d (by simp)
      simp only [List.getElem?_cons_succ] at hk
      have := ih (fun d hd' => hd d (by simp [hd'])) k hk
      rw [show (k + 1) * 2 + 1 = (k * 2 + 1) + 1 + 1 by omega]
      simp only [List.flatten_cons, List.cons_append, List.nil_append, List.set_cons_succ, this]
/-- A number of a row of pairs of the call's own is written. -/
theorem Own.set2 {F : Nat → Prop} {w : World} {base : Nat} {T : TypeId} {v : Value} {xs : List (Int × Int)} (h : Own F w base T v xs) (k : Nat) (hk : k < xs.length) {b : Nat} (hb : v.ownBlock = some b) (u : Int) :
    Own F (w.setCell ⟨b, k * 2 + 1, none⟩ (.int .i64 u)) base T v (xs.set k (xs[k].1, u)) ∧ w.frozen? ⟨b, k * 2 + 1, none⟩ = false ∧ (∃ z, w.cell? ⟨b, k * 2 + 1, none⟩ = some z) := by
  obtain ⟨ds, hl, hd, ho1, ho2⟩ := h
  have hcell : ∀ i (h : i < xs.length) (h' : i < ds.length), ds[i] = [.int .i64 xs[i].1, .int .i64 xs[i].2] := fun i hi hi' => by
    obtain ⟨a, c, e, rfl, rfl⟩ := hd i hi hi'
    rw [e]; rfl
  have hall : ∀ d ∈ ds, ∃ x y : Value, d = [x, y] := fun d hd' => by
    obtain ⟨i, hi, rfl⟩ := List.mem_iff_getElem.1 hd'
    exact ⟨_, _, hcell i (by omega) hi⟩
  have hkd : ds[k]? = some [.int .i64 xs[k].1, .int .i64 xs[k].2] := by rw [List.getElem?_eq_getElem (by omega), hcell k hk (by omega)]
  rcases ho2 with ⟨rfl, h0⟩ | ⟨g, cap, cur, rfl, hbg, hg, hnc, hm, hs, ht⟩
  · omega
  · obtain rfl : g = b := by simpa [Value.ownBlock] using hb
    have hsz : k * 2 + 1 < cur.size := by rw [hs, show Rep.n (Int × Int) = 2 from rfl]; omega
    refine ⟨⟨ds.set k [.int .i64 xs[k].1, .int .i64 u], by simpa using hl, fun i hi hi' => ?_, ?_, .inr ⟨g, cap, cur.setIfInBounds (k * 2 + 1) (.int .i64 u), by simp, hbg, set_obj hg _, by simpa using hnc, hm, by simpa using hs, ?_⟩⟩, free_obj hg, _, cell_obj hg (Array.getElem?_eq_getElem hsz)⟩
    · rw [List.getElem_set, List.getElem_set]
      by_cases e : k = i
      · subst e; rw [if_pos rfl, if_pos rfl]; exact ⟨[_], [_], rfl, rfl, rfl⟩
      · rw [if_neg e, if_neg e]
        have hi2 : i < xs.length := by simpa using hi
        rw [hcell i hi2 (by omega)]
        exact ⟨[_], [_], rfl, rfl, rfl⟩
    · rw [← flatten_set2 hall k _ _ _ hkd, List.length_set, List.length_set, ho1]
    · rw [← flatten_set2 hall k _ _ _ hkd, ← ht, List.length_set, Array.toList_setIfInBounds, List.take_set]
end
end Cb

