/- Rows of numbers that are handed in, opened. -/
import Derived.Test.YtbjpoamnglfjeaaRowK
import Derived.Test.YtbjpoamnglfjeaaOpn
set_option linter.unusedVariables false
namespace Go.Proofs.Ytbjpoamnglfjeaa
open Go.ChangeShapes Go.WideShapes Go.ChangeAt Go.RowKit Cb

theorem opens_number : Opens Try.prog Int 3 I64 := opens_int Try.underlying3 (by kernel_rfl)
theorem bytes_number : Try.prog.bytesOf 3 = 8 := by kernel_rfl
set_option maxRecDepth 100000 in
theorem opens_numbers : Opens Try.prog (List Int) 46 (Each (Try.prog.bytesOf 3) I64) := opens_slice (by decide) Try.underlying46 (by kernel_rfl) opens_number
set_option maxRecDepth 100000 in
theorem opens_numrows : Opens Try.prog (List (List Int)) 61 (Each (Try.prog.bytesOf 46) (Each (Try.prog.bytesOf 3) I64)) := opens_slice (by decide) Try.underlying61 (by kernel_rfl) opens_numbers
theorem bytes_numbers : Try.prog.bytesOf 46 = 24 := by kernel_rfl
set_option maxRecDepth 100000 in
theorem open_numbers {H : Type} {enc : TypeId × Value → H} {w : World} {base b0 : Nat} {spare : Nat → Bool} {held : Bool} {v : Value} {d : DataW H} {ps : List MemPlace} (hval : Value.okWide Try.prog w .any b0 46 v)
    (h : DataW.Trod enc Try.prog w base spare held 46 v d ps) (hz : ∀ k ∈ d.weights Try.prog 46, k ≤ reachBytes) :
    ∃ l : List Int, Sl No w v l ∧ l.length * 8 ≤ 140737488351232 := by
  obtain ⟨a0, len, cap, rfl⟩ := okWide_slice Try.underlying46 hval
  obtain ⟨l, h1, h2⟩ := opens_row opens_numbers h
  obtain ⟨h3, _⟩ := h2 hz
  rw [bytes_number] at h3
  simp only [reachBytes] at h3
  exact ⟨l, h1, by omega⟩
set_option maxRecDepth 100000 in
theorem open_numrows {H : Type} {enc : TypeId × Value → H} {w : World} {base b0 : Nat} {spare : Nat → Bool} {held : Bool} {v : Value} {d : DataW H} {ps : List MemPlace} (hval : Value.okWide Try.prog w .any b0 61 v)
    (h : DataW.Trod enc Try.prog w base spare held 61 v d ps) (hz : ∀ k ∈ d.weights Try.prog 61, k ≤ reachBytes) :
    ∃ l : List (List Int), Sl No w v l ∧ l.length * 24 ≤ 140737488351232 ∧ ∀ x ∈ l, x.length * 8 ≤ 140737488351232 := by
  obtain ⟨a0, len, cap, rfl⟩ := okWide_slice Try.underlying61 hval
  obtain ⟨l, h1, h2⟩ := opens_row opens_numrows h
  obtain ⟨h3, h4⟩ := h2 hz
  rw [bytes_numbers] at h3
  simp only [reachBytes] at h3
  refine ⟨l, h1, by omega, fun x hx => ?_⟩
  have := (h4 x hx).1
  rw [bytes_number] at this
  simp only [reachBytes] at this
  omega
end Go.Proofs.Ytbjpoamnglfjeaa
