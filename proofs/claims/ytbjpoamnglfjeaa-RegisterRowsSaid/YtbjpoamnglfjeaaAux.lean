/- Small laws that came later. They speak of no program. -/
import Derived.Test.YtbjpoamnglfjeaaRegT
set_option linter.unusedVariables false
namespace Cb
open Go
variable {α : Type}
theorem Chg.old {F : Nat → Prop} {a b c : World} (h : Chg No a b) (k : Chg F b c) (hF : ∀ i, F i → a.heap.size ≤ i) : Chg No a c :=
  h.trans' k (fun _ _ f => f) (fun i hi f => by have := hF i f; omega)
theorem obj_set {w : World} {b i : Nat} {C C' : Array Value} {T : TypeId} {fz : Nat × Nat} {u : Value} (h : w.heap[b]? = some (.cells C T fz)) (hC : C.setIfInBounds i u = C') : (w.setCell ⟨b, i, none⟩ u).heap[b]? = some (.cells C' T fz) := by
  rw [set_obj h, hC]
theorem obj_set_other {w : World} {b q i : Nat} {o : Obj} {u : Value} (h : w.heap[q]? = some o) (hne : q ≠ b) : (w.setCell ⟨b, i, none⟩ u).heap[q]? = some o := (chg_set u).obj h (by simpa [At] using hne)
theorem Own.slFlat [Rep α] [Flat α] {F G : Nat → Prop} {w : World} {base : Nat} {T : TypeId} {v : Value} {xs : List α} (h : Own F w base T v xs) (hG : ∀ k, v.ownBlock = some k → ¬ G k) : Sl G w v xs := by
  obtain ⟨ds, hl, hd, ho⟩ := h
  exact Own.sl (F := G) ⟨ds, hl, fun i hi hi' => Flat.flat (hd i hi hi'), ho⟩ hG
theorem Sl.no [Rep α] {F : Nat → Prop} {w : World} {v : Value} {xs : List α} (h : Sl F w v xs) : Sl No w v xs := h.weak (fun _ _ f => f.elim)
def Lt (n : Nat) : Nat → Prop := fun k => k < n
theorem Sl.slice [Rep α] {F : Nat → Prop} {w : World} {v : Value} {xs : List α} (h : Sl F w v xs) : ∃ A c, v = .slice A xs.length c := by
  obtain ⟨A, c, e, _⟩ := h; exact ⟨A, c, e⟩
end Cb
