/- Configurations and scripts of installs that are handed in, opened. -/
import Derived.Test.YtbjpoamnglfjeaaRowE
import Derived.Test.YtbjpoamnglfjeaaRegV
set_option linter.unusedVariables false
namespace Go.Proofs.Ytbjpoamnglfjeaa
open Go.ChangeShapes Go.WideShapes Go.ChangeAt Go.RowKit Cb

set_option maxRecDepth 100000 in
theorem opens_cfg : Opens Try.prog Cfg 63 (Both I64 (Both (Each (Try.prog.bytesOf 3) I64) (Each (Try.prog.bytesOf 46) (Each (Try.prog.bytesOf 3) I64)))) :=
  opens_struct Try.underlying63 (by kernel_rfl) (opensF_cons rfl opens_number (opensF_cons rfl opens_numbers (opensF_one rfl opens_numrows)))
theorem cfgI_of {q : List Int} {s : List (List Int)} (h1 : (Each (Try.prog.bytesOf 3) I64) q) (h2 : (Each (Try.prog.bytesOf 46) (Each (Try.prog.bytesOf 3) I64)) s) : CfgI q s := by
  obtain ⟨h3, _⟩ := h1
  obtain ⟨h4, h5⟩ := h2
  rw [bytes_number] at h3
  rw [bytes_numbers] at h4
  simp only [reachBytes] at h3 h4
  refine ⟨by omega, by omega, fun x hx => ?_⟩
  have := (h5 x hx).1
  rw [bytes_number] at this
  simp only [reachBytes] at this
  omega
set_option maxRecDepth 100000 in
/-- A configuration that is handed in, with what it may hold. -/
theorem open_config {H : Type} {enc : TypeId × Value → H} {w : World} {base b0 : Nat} {spare : Nat → Bool} {held : Bool} {v : Value} {d : DataW H} {ps : List MemPlace} (hval : Value.okWide Try.prog w .any b0 63 v)
    (h : DataW.Trod enc Try.prog w base spare held 63 v d ps) (hz : ∀ k ∈ d.weights Try.prog 63, k ≤ reachBytes) :
    ∃ (t : Int) (q : List Int) (s : List (List Int)) (vq vs : Value), v = cfgV t vq vs ∧ I64 t ∧ Sl No w vq q ∧ Sl No w vs s ∧ CfgI q s := by
  obtain ⟨cs, rfl, _⟩ := okWide_struct Try.underlying63 hval
  obtain ⟨⟨t, q, s⟩, ⟨_, _, e, rfl, ⟨_, _, rfl, ⟨vq, rfl, hq⟩, ⟨vs, rfl, hs⟩⟩⟩, h2⟩ := opens_agg opens_cfg h
  obtain ⟨h3, h4, h5⟩ := h2 hz
  exact ⟨t, q, s, vq, vs, by rw [show cs = cs.toList.toArray by simp, e]; rfl, h3, hq, hs, cfgI_of h4 h5⟩
set_option maxRecDepth 100000 in
theorem opens_op : Opens Try.prog Op 71 (Both (Both I64 (Both (Each (Try.prog.bytesOf 3) I64) (Each (Try.prog.bytesOf 46) (Each (Try.prog.bytesOf 3) I64)))) (Each (Try.prog.bytesOf 52) (Both I64 (Both I64 (Both (Each (Try.prog.bytesOf 3) I64) (Both I64 (Both I64 I64))))))) :=
  opens_struct Try.underlying71 (by kernel_rfl) (opensF_cons rfl opens_cfg (opensF_one rfl opens_entries))
theorem bytes_op : Try.prog.bytesOf 71 = 80 := by kernel_rfl
set_option maxRecDepth 100000 in
theorem opens_script : Opens Try.prog (List Op) 64 (Each (Try.prog.bytesOf 71) (Both (Both I64 (Both (Each (Try.prog.bytesOf 3) I64) (Each (Try.prog.bytesOf 46) (Each (Try.prog.bytesOf 3) I64)))) (Each (Try.prog.bytesOf 52) (Both I64 (Both I64 (Both (Each (Try.prog.bytesOf 3) I64) (Both I64 (Both I64 I64)))))))) :=
  opens_slice (by decide) Try.underlying64 (by kernel_rfl) opens_op
set_option maxRecDepth 100000 in
/-- A script that is handed in, with what it may hold. -/
theorem open_script {H : Type} {enc : TypeId × Value → H} {w : World} {base b0 : Nat} {spare : Nat → Bool} {held : Bool} {v : Value} {d : DataW H} {ps : List MemPlace} (hval : Value.okWide Try.prog w .any b0 64 v)
    (h : DataW.Trod enc Try.prog w base spare held 64 v d ps) (hz : ∀ k ∈ d.weights Try.prog 64, k ≤ reachBytes) :
    ∃ l : List Op, Sl No w v l ∧ l.length * 80 ≤ 140737488355328 ∧ ∀ o ∈ l, OpI o := by
  obtain ⟨a0, len, cap, rfl⟩ := okWide_slice Try.underlying64 hval
  obtain ⟨l, h1, h2⟩ := opens_row opens_script h
  obtain ⟨h3, h4⟩ := h2 hz
  rw [bytes_op] at h3
  simp only [reachBytes] at h3
  refine ⟨l, h1, by omega, fun o ho => ?_⟩
  obtain ⟨⟨_, h5, h6⟩, h7, h8⟩ := h4 o ho
  refine ⟨cfgI_of h5 h6, ?_, fun e he => ?_⟩
  · rw [bytes_entry] at h7
    simp only [reachBytes] at h7
    omega
  · have := (h8 e he).2.2.1.1
    rw [bytes_number] at this
    simp only [reachBytes] at this
    omega
end Go.Proofs.Ytbjpoamnglfjeaa
