/- Rows of numbers that are handed in, opened. -/
import Derived.Test.YtlpnbbjmcmjkpaaRowK
import Derived.Test.YtlpnbbjmcmjkpaaOpn
set_option linter.unusedVariables false
namespace Go.Proofs.Ytlpnbbjmcmjkpaa
open Go.ChangeShapes Go.WideShapes Go.ChangeAt Go.RowKit Cb

theorem opens_number : Opens Try.prog Int 3 I64 := opens_int Try.underlying3 (by kernel_rfl)
theorem bytes_number : Try.prog.bytesOf 3 = 8 := by kernel_rfl
set_option maxRecDepth 100000 in
theorem opens_numbers : Opens Try.prog (List Int) 24 (Each (Try.prog.bytesOf 3) I64) := opens_slice (by decide) Try.underlying24 (by kernel_rfl) opens_number
set_option maxRecDepth 100000 in
theorem opens_numrows : Opens Try.prog (List (List Int)) 22 (Each (Try.prog.bytesOf 24) (Each (Try.prog.bytesOf 3) I64)) := opens_slice (by decide) Try.underlying22 (by kernel_rfl) opens_numbers
theorem bytes_numbers : Try.prog.bytesOf 24 = 24 := by kernel_rfl
set_option maxRecDepth 100000 in
theorem open_numbers {H : Type} {enc : TypeId × Value → H} {w : World} {base b0 : Nat} {spare : Nat → Bool} {held : Bool} {v : Value} {d : DataW H} {ps : List MemPlace} (hval : Value.okWide Try.prog w .any b0 24 v)
    (h : DataW.Trod enc Try.prog w base spare held 24 v d ps) (hz : ∀ k ∈ d.weights Try.prog 24, k ≤ reachBytes) :
    ∃ l : List Int, Sl No w v l ∧ l.length * 8 ≤ 140737488351232 := by
  obtain ⟨a0, len, cap, rfl⟩ := okWide_slice Try.underlying24 hval
  obtain ⟨l, h1, h2⟩ := opens_row opens_numbers h
  obtain ⟨h3, _⟩ := h2 hz
  rw [bytes_number] at h3
  simp only [reachBytes] at h3
  exact ⟨l, h1, by omega⟩
set_option maxRecDepth 100000 in
theorem open_numrows {H : Type} {enc : TypeId × Value → H} {w : World} {base b0 : Nat} {spare : Nat → Bool} {held : Bool} {v : Value} {d : DataW H} {ps : List MemPlace} (hval : Value.okWide Try.prog w .any b0 22 v)
    (h : DataW.Trod enc Try.prog w base spare held 22 v d ps) (hz : ∀ k ∈ d.weights Try.prog 22, k ≤ reachBytes) :
    ∃ l : List (List Int), Sl No w v l ∧ l.length * 24 ≤ 140737488351232 ∧ ∀ x ∈ l, x.length * 8 ≤ 140737488351232 := by
  obtain ⟨a0, len, cap, rfl⟩ := okWide_slice Try.underlying22 hval
  obtain ⟨l, h1, h2⟩ := opens_row opens_numrows h
  obtain ⟨h3, h4⟩ := h2 hz
  rw [bytes_numbers] at h3
  simp only [reachBytes] at h3
  refine ⟨l, h1, by omega, fun x hx => ?_⟩
  have := (h4 x hx).1
  rw [bytes_number] at this
  simp only [reachBytes] at this
  omega
end Go.Proofs.Ytlpnbbjmcmjkpaa
