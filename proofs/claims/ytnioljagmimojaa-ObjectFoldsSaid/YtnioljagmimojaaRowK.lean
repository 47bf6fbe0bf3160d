/- What all rows of this seat need. -/
import Derived.Test.YtnioljagmimojaaRow
import Derived.Test.YtnioljagmimojaaRows
import Derived.ProofKit
set_option linter.unusedVariables false
namespace Go.Proofs.Ytnioljagmimojaa
open Go.ChangeShapes Go.WideShapes Go.ChangeAt Go.RowKit Cb
open Go.ChangeMaps (open_string shut_string)

theorem own_knob : ownKnob Try.prog.godebug = none := by kernel_rfl
theorem laidOut : laidOutB Try.prog = true := by kernel_rfl
theorem bytes_string : Try.prog.bytesOf 9 = 16 := by kernel_rfl
set_option maxRecDepth 100000 in
/-- A row of strings that is handed in. -/
theorem open_log {H : Type} {enc : TypeId × Value → H} {w : World} {base b0 : Nat} {spare : Nat → Bool} {held : Bool} {v : Value} {d : DataW H} {ps : List MemPlace} (hval : Value.okWide Try.prog w .any b0 45 v)
    (h : DataW.Trod enc Try.prog w base spare held 45 v d ps) : ∃ ss : List ByteArray, Sl No w v ss ∧ (ss = [] ∨ ∃ sp, d = .slice (strs ss) sp) := by
  obtain ⟨a0, len, cap, rfl⟩ := okWide_slice Try.underlying45 hval
  obtain ⟨fuel, hf⟩ := h
  obtain ⟨ss, h1, h2⟩ := open_texts Try.underlying45 Try.underlying9 (by kernel_rfl) (v := .slice a0 len cap) (x := (d, ps)) hf
  exact ⟨ss, h1, h2⟩
end Go.Proofs.Ytnioljagmimojaa
