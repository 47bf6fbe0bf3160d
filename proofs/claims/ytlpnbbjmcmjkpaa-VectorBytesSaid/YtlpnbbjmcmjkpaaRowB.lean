/- Rows of bytes that are handed in, opened. -/
import Derived.Test.YtlpnbbjmcmjkpaaRowK
import Derived.Test.YtlpnbbjmcmjkpaaOpn
set_option linter.unusedVariables false
namespace Go.Proofs.Ytlpnbbjmcmjkpaa
open Go.ChangeShapes Go.WideShapes Go.ChangeAt Go.RowKit Cb

theorem opens_byte : Opens Try.prog UInt8 5 Free :=
  ⟨by kernel_rfl, fun H enc w base spare held n cs x h => by
    obtain ⟨q, e, _, hw⟩ := DataW.trod_int Try.underlying5 h
    simp only [Lit.wf, Bool.and_eq_true, decide_eq_true_eq] at hw
    have h1 : 0 ≤ q := hw.1
    have h2 : q ≤ 255 := hw.2
    refine ⟨UInt8.ofNat q.toNat, ?_, fun _ => trivial⟩
    show cs = [.int .u8 ((UInt8.ofNat q.toNat).toNat : Int)]
    rw [e, UInt8.toNat_ofNat', Nat.mod_eq_of_lt (by omega), Int.toNat_of_nonneg h1]⟩
theorem bytes_byte : Try.prog.bytesOf 5 = 1 := by kernel_rfl
set_option maxRecDepth 100000 in
theorem opens_bytes : Opens Try.prog (List UInt8) 36 (Each (Try.prog.bytesOf 5) Free) := opens_slice (by decide) Try.underlying36 (by kernel_rfl) opens_byte
set_option maxRecDepth 100000 in
theorem open_bytes {H : Type} {enc : TypeId × Value → H} {w : World} {base b0 : Nat} {spare : Nat → Bool} {held : Bool} {v : Value} {d : DataW H} {ps : List MemPlace} (hval : Value.okWide Try.prog w .any b0 36 v)
    (h : DataW.Trod enc Try.prog w base spare held 36 v d ps) (hz : ∀ k ∈ d.weights Try.prog 36, k ≤ reachBytes) :
    ∃ l : List UInt8, Sl No w v l ∧ l.length ≤ 140737488351232 := by
  obtain ⟨a0, len, cap, rfl⟩ := okWide_slice Try.underlying36 hval
  obtain ⟨l, h1, h2⟩ := opens_row opens_bytes h
  obtain ⟨h3, _⟩ := h2 hz
  rw [bytes_byte] at h3
  simp only [reachBytes] at h3
  exact ⟨l, h1, by omega⟩
end Go.Proofs.Ytlpnbbjmcmjkpaa
