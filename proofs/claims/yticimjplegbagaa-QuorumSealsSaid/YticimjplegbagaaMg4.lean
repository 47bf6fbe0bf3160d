/- Texts Row. -/
import Derived.Test.YticimjplegbagaaMg3
import Derived.Deep.SlicePairs
import Derived.Carry
import Derived.SizedLaws
import Derived.SliceStrings
/- Arguments, opened: rows of pairs. They speak of no program. -/
set_option linter.unusedVariables false
namespace Cb
open Go Go.Deep Go.ChangeShapes Go.WideShapes
section
variable {H : Type} {enc : TypeId × Value → H} {P : Program} {w : World} {base : Nat} {spare : Nat → Bool} {held : Bool}
theorem add_plain' (b off n : Nat) : (⟨b, off, none⟩ : Addr).add n = ⟨b, off + n, none⟩ := by
  unfold Addr.add; by_cases h : n = 0 <;> simp [h]
theorem mem_weightsAll {e : TypeId} {d : DataW H} {n : Nat} (hn : n ∈ d.weights P e) : ∀ {l : List (DataW H)}, d ∈ l → n ∈ DataW.weightsAll P e l
  | _ :: l, h => by
    simp only [DataW.weightsAll, List.mem_append]
    rcases List.mem_cons.1 h with rfl | h
    · exact .inl hn
    · exact .inr (mem_weightsAll hn h)
/-- A new row of no values. -/
theorem Own.made0 {α : Type} [Rep α] (F : Nat → Prop) (w : World) (T : TypeId) : Own F (w.alloc (.cells #[] T)) w.heap.size T (.slice (some ⟨w.heap.size, 0, none⟩) 0 0) ([] : List α) :=
  ⟨[], rfl, fun _ h => absurd h (by simp), by simp, .inr ⟨_, 0, #[], rfl, Nat.le_refl _, alloc_obj _ _, by simp, by simp [maxLen], by simp, by simp⟩⟩
theorem Own.addr {α : Type} [Rep α] {F : Nat → Prop} {w : World} {base : Nat} {T : TypeId} {A : Option Addr} {n c : Nat} {xs : List α} (h : Own F w base T (.slice A n c) xs) (hx : 0 < xs.length) : ∃ g, A = some ⟨g, 0, none⟩ ∧ base ≤ g ∧ g < w.heap.size := by
  obtain ⟨ds, _, _, ho⟩ := h
  rcases ho.2 with ⟨e, h0⟩ | ⟨g, cap, cur, e, hb, hg, _⟩
  · omega
  · cases e; exact ⟨g, rfl, hb, lt_of_heap hg⟩
end
end Cb

