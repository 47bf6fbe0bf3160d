/- Entries of the document's that are handed in, opened. -/
import Derived.Test.YtbjpoamnglfjeaaRowK
import Derived.Test.YtbjpoamnglfjeaaRowV
import Derived.Test.YtbjpoamnglfjeaaOrdF
set_option linter.unusedVariables false
namespace Go.Proofs.Ytbjpoamnglfjeaa
open Go.ChangeShapes Go.WideShapes Go.ChangeAt Go.RowKit Cb

set_option maxRecDepth 100000 in
theorem opens_seq : Opens Try.prog (Int × Int) 50 (Both I64 I64) :=
  opens_struct Try.underlying50 (by kernel_rfl) (opensF_cons rfl opens_number (opensF_one rfl opens_number))
set_option maxRecDepth 100000 in
theorem opens_entry : Opens Try.prog Ent 52 (Both I64 (Both I64 (Both (Each (Try.prog.bytesOf 3) I64) (Both I64 (Both I64 I64))))) :=
  opens_struct Try.underlying52 (by kernel_rfl) (opensF_cons rfl opens_number (opensF_cons rfl opens_number (opensF_cons rfl opens_numbers (opensF_cons rfl opens_number (opensF_one rfl opens_seq)))))
theorem bytes_entry : Try.prog.bytesOf 52 = 64 := by kernel_rfl
set_option maxRecDepth 100000 in
theorem opens_entries : Opens Try.prog (List Ent) 22 (Each (Try.prog.bytesOf 52) (Both I64 (Both I64 (Both (Each (Try.prog.bytesOf 3) I64) (Both I64 (Both I64 I64)))))) :=
  opens_slice (by decide) Try.underlying22 (by kernel_rfl) opens_entry
set_option maxRecDepth 100000 in
/-- A row of entries that is handed in, with what it may hold. -/
theorem open_entries {H : Type} {enc : TypeId × Value → H} {w : World} {base b0 : Nat} {spare : Nat → Bool} {held : Bool} {v : Value} {d : DataW H} {ps : List MemPlace} (hval : Value.okWide Try.prog w .any b0 22 v)
    (h : DataW.Trod enc Try.prog w base spare held 22 v d ps) (hz : ∀ k ∈ d.weights Try.prog 22, k ≤ reachBytes) :
    ∃ l : List Ent, Sl No w v l ∧ l.length * 64 ≤ 140737488355328 ∧ cutsB l := by
  obtain ⟨a0, len, cap, rfl⟩ := okWide_slice Try.underlying22 hval
  obtain ⟨l, h1, h2⟩ := opens_row opens_entries h
  obtain ⟨h3, h4⟩ := h2 hz
  rw [bytes_entry] at h3
  simp only [reachBytes] at h3
  refine ⟨l, h1, by omega, fun e he => ?_⟩
  have := (h4 e he).2.2.1.1
  rw [bytes_number] at this
  simp only [reachBytes] at this
  omega
set_option maxRecDepth 100000 in
theorem opens_place : Opens Try.prog (Int × Int) 24 (Both I64 I64) :=
  opens_struct Try.underlying24 (by kernel_rfl) (opensF_cons rfl opens_number (opensF_one rfl opens_number))
set_option maxRecDepth 100000 in
theorem open_place {H : Type} {enc : TypeId × Value → H} {w : World} {base b0 : Nat} {spare : Nat → Bool} {held : Bool} {v : Value} {d : DataW H} {ps : List MemPlace} (hval : Value.okWide Try.prog w .any b0 24 v)
    (h : DataW.Trod enc Try.prog w base spare held 24 v d ps) (hz : ∀ k ∈ d.weights Try.prog 24, k ≤ reachBytes) :
    ∃ x y : Int, v = .agg #[.int .i64 x, .int .i64 y] ∧ I64 x ∧ I64 y := by
  obtain ⟨cs, rfl, _⟩ := okWide_struct Try.underlying24 hval
  obtain ⟨⟨x, y⟩, ⟨_, _, e, rfl, rfl⟩, h2⟩ := opens_agg opens_place h
  obtain ⟨h3, h4⟩ := h2 hz
  exact ⟨x, y, by rw [show cs = cs.toList.toArray by simp, e]; rfl, h3, h4⟩
end Go.Proofs.Ytbjpoamnglfjeaa
