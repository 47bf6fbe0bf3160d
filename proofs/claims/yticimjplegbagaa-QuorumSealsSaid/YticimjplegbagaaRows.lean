/-
  No cell of these rows narrows 'for every input' (looked for: loops, veiled, ifaces, maps, wideKeys, modest, calm, conditions, laid).
  DERIVED. THE GIVEN ROWS OF THIS SEAT. 5 by the template 'for every input the law returns true; each argument reads behind the call as it read before'; 0 by the template 'total and deterministic' (their statements: YticimjplegbagaaTotals.lean).
  GIVEN WITH THE SEED: the statements are not yours to turn. If you find one false, say at which input.
  Laid BY PROGRAM, IN A SANDBOX (cutbox-rows.mjs): the forced cells as the released guide's own fill.sh prints them over the translation 00caeb39853e48f6… (all of the seat's roots in one cut). By AI agents, Wed Nov 11 2026. No macro, syntax, notation, axiom, sorry.
-/
import Derived.Test.YticimjplegbagaaChecked
import GoSem.Claim
import GoSem.ClaimJoined
import GoSem.ClaimMapViews
import Derived.JoinedTies
import Derived.KernelRfl
namespace Go.Proofs.Yticimjplegbagaa
/- THE CELL 'sum', in the pinned program and in every row, IS THE sha256 OF THE DUMP (.gsa) THAT YticimjplegbagaaProg.lean LOADS. Nothing in Lean hashes anything: it is a label: what it is worth is what the hold of that sum in a sandbox is worth. -/
noncomputable def Try.pinned : Pinned := { name := "yticimjplegbagaa", sum := "00caeb39853e48f64d1e88dab102167ed594b6aef4dfd9e21fddd092f195e4f2", checked := Try.checked }
namespace Rows
def none {H : Type} : Left H := { results := [], args := [] }

/-- 'carabinerlaw12.QuorumSeals': WHATEVER THE INPUT: true; the input reads as it did. -/
def quorumSealsSpec : ChangeSpec := { name := "quorumSeals", fn := fun _ => fun
  | [d1, d2] => { results := [.lit (.bool true)], args := [d1, d2] }
  | _ => none }
def quorumSealsRow : OpenClaim := { program := "yticimjplegbagaa", sum := "00caeb39853e48f64d1e88dab102167ed594b6aef4dfd9e21fddd092f195e4f2", func := "carabiner/carabinerlaw12.QuorumSeals", spec := "quorumSeals", unfollowed := true, recurses := true, apart := false }
def QuorumSealsSaid : Prop := quorumSealsRow.holds Try.pinned (OpenSpec.ofChange quorumSealsSpec)

/-- ITS FALSE NEIGHBOUR: 'it returns false'. Refute it at one input. -/
def quorumSealsWrong : ChangeSpec := { name := "quorumSeals", fn := fun _ => fun
  | [d1, d2] => { results := [.lit (.bool false)], args := [d1, d2] }
  | _ => none }
def QuorumSealsWrongFalsely : Prop := quorumSealsRow.holds Try.pinned (OpenSpec.ofChange quorumSealsWrong)

/-- 'carabinerlaw12.QuorumTails': WHATEVER THE INPUT: true; the input reads as it did. -/
def quorumTailsSpec : ChangeSpec := { name := "quorumTails", fn := fun _ => fun
  | [d1, d2, d3] => { results := [.lit (.bool true)], args := [d1, d2, d3] }
  | _ => none }
def quorumTailsRow : OpenClaim := { program := "yticimjplegbagaa", sum := "00caeb39853e48f64d1e88dab102167ed594b6aef4dfd9e21fddd092f195e4f2", func := "carabiner/carabinerlaw12.QuorumTails", spec := "quorumTails", unfollowed := true, recurses := true, apart := false }
def QuorumTailsSaid : Prop := quorumTailsRow.holds Try.pinned (OpenSpec.ofChange quorumTailsSpec)

/-- ITS FALSE NEIGHBOUR: 'it returns false'. Refute it at one input. -/
def quorumTailsWrong : ChangeSpec := { name := "quorumTails", fn := fun _ => fun
  | [d1, d2, d3] => { results := [.lit (.bool false)], args := [d1, d2, d3] }
  | _ => none }
def QuorumTailsWrongFalsely : Prop := quorumTailsRow.holds Try.pinned (OpenSpec.ofChange quorumTailsWrong)

/-- 'carabinerlaw12.QuorumRises': WHATEVER THE INPUT: true; the input reads as it did. -/
def quorumRisesSpec : ChangeSpec := { name := "quorumRises", fn := fun _ => fun
  | [d1, d2] => { results := [.lit (.bool true)], args := [d1, d2] }
  | _ => none }
def quorumRisesRow : OpenClaim := { program := "yticimjplegbagaa", sum := "00caeb39853e48f64d1e88dab102167ed594b6aef4dfd9e21fddd092f195e4f2", func := "carabiner/carabinerlaw12.QuorumRises", spec := "quorumRises", unfollowed := true, recurses := true, apart := false }
def QuorumRisesSaid : Prop := quorumRisesRow.holds Try.pinned (OpenSpec.ofChange quorumRisesSpec)

/-- ITS FALSE NEIGHBOUR: 'it returns false'. Refute it at one input. -/
def quorumRisesWrong : ChangeSpec := { name := "quorumRises", fn := fun _ => fun
  | [d1, d2] => { results := [.lit (.bool false)], args := [d1, d2] }
  | _ => none }
def QuorumRisesWrongFalsely : Prop := quorumRisesRow.holds Try.pinned (OpenSpec.ofChange quorumRisesWrong)

/-- 'carabinerlaw12.QuorumMissing': WHATEVER THE INPUT: true; the input reads as it did. -/
def quorumMissingSpec : ChangeSpec := { name := "quorumMissing", fn := fun _ => fun
  | [d1, d2, d3] => { results := [.lit (.bool true)], args := [d1, d2, d3] }
  | _ => none }
def quorumMissingRow : OpenClaim := { program := "yticimjplegbagaa", sum := "00caeb39853e48f64d1e88dab102167ed594b6aef4dfd9e21fddd092f195e4f2", func := "carabiner/carabinerlaw12.QuorumMissing", spec := "quorumMissing", unfollowed := true, recurses := true, apart := false }
def QuorumMissingSaid : Prop := quorumMissingRow.holds Try.pinned (OpenSpec.ofChange quorumMissingSpec)

/-- ITS FALSE NEIGHBOUR: 'it returns false'. Refute it at one input. -/
def quorumMissingWrong : ChangeSpec := { name := "quorumMissing", fn := fun _ => fun
  | [d1, d2, d3] => { results := [.lit (.bool false)], args := [d1, d2, d3] }
  | _ => none }
def QuorumMissingWrongFalsely : Prop := quorumMissingRow.holds Try.pinned (OpenSpec.ofChange quorumMissingWrong)

/-- 'carabinerlaw12.QuorumChains': WHATEVER THE INPUT: true; the input reads as it did. -/
def quorumChainsSpec : ChangeSpec := { name := "quorumChains", fn := fun _ => fun
  | [d1, d2] => { results := [.lit (.bool true)], args := [d1, d2] }
  | _ => none }
def quorumChainsRow : OpenClaim := { program := "yticimjplegbagaa", sum := "00caeb39853e48f64d1e88dab102167ed594b6aef4dfd9e21fddd092f195e4f2", func := "carabiner/carabinerlaw12.QuorumChains", spec := "quorumChains", unfollowed := true, recurses := true, apart := false }
def QuorumChainsSaid : Prop := quorumChainsRow.holds Try.pinned (OpenSpec.ofChange quorumChainsSpec)

/-- ITS FALSE NEIGHBOUR: 'it returns false'. Refute it at one input. -/
def quorumChainsWrong : ChangeSpec := { name := "quorumChains", fn := fun _ => fun
  | [d1, d2] => { results := [.lit (.bool false)], args := [d1, d2] }
  | _ => none }
def QuorumChainsWrongFalsely : Prop := quorumChainsRow.holds Try.pinned (OpenSpec.ofChange quorumChainsWrong)

/- THE SECOND FORM. 'bulk': how many values and letters a reading holds, each counted each time it is reached (what is shared counts as often as it is met; a slice's spare places count too). A statement '..UptoSaid' is the law's where the arguments, and the package variables that the reading takes, are together of bulk at most 1048576: NARROWER than '..Said'. Prove '..Said' where nothing that the law and all that it calls make is longer than what came in: it says more and counts as full. Else prove '..UptoSaid'. A law counts once. -/
mutual
def uptoBulk {H : Type} : DataW H → Nat
  | .lit (.string bytes) => bytes.length + 1
  | .lit _ => 1
  | .nil => 1
  | .ptr d => uptoBulk d + 1
  | .slice elems spare => uptoBulkAll elems + uptoBulkAll spare + 1
  | .agg parts => uptoBulkAll parts + 1
  | .iface _ d => uptoBulk d + 1
  | .map entries => uptoBulkEntries entries + 1
  | .held _ => 1
def uptoBulkAll {H : Type} : List (DataW H) → Nat
  | [] => 0
  | d :: r => uptoBulk d + uptoBulkAll r
def uptoBulkEntries {H : Type} : List (Lit × DataW H) → Nat
  | [] => 0
  | x :: r => uptoBulkEntry x + uptoBulkEntries r
def uptoBulkEntry {H : Type} : Lit × DataW H → Nat
  | (.string bytes, d) => bytes.length + uptoBulk d + 1
  | (_, d) => uptoBulk d + 1
 end
def uptoSmall : (H : Type) → List (DataW H) → Bool := fun _ ds => decide (uptoBulkAll ds ≤ 1048576)
def OpenSpec.upto (s : _root_.Go.ChangeSpec) : _root_.Go.OpenSpec := { _root_.Go.OpenSpec.ofChange s with cond := some uptoSmall }

/-- 'carabinerlaw12.QuorumSeals', WHERE WHAT IT READS IS OF BULK AT MOST 1048576: true; the input reads as it did. -/
def quorumSealsUptoRow : OpenClaim := { program := "yticimjplegbagaa", sum := "00caeb39853e48f64d1e88dab102167ed594b6aef4dfd9e21fddd092f195e4f2", func := "carabiner/carabinerlaw12.QuorumSeals", spec := "quorumSeals", unfollowed := true, recurses := true, apart := false, narrowed := true }
def QuorumSealsUptoSaid : Prop := quorumSealsUptoRow.holds Try.pinned (OpenSpec.upto quorumSealsSpec)

/-- 'carabinerlaw12.QuorumTails', WHERE WHAT IT READS IS OF BULK AT MOST 1048576: true; the input reads as it did. -/
def quorumTailsUptoRow : OpenClaim := { program := "yticimjplegbagaa", sum := "00caeb39853e48f64d1e88dab102167ed594b6aef4dfd9e21fddd092f195e4f2", func := "carabiner/carabinerlaw12.QuorumTails", spec := "quorumTails", unfollowed := true, recurses := true, apart := false, narrowed := true }
def QuorumTailsUptoSaid : Prop := quorumTailsUptoRow.holds Try.pinned (OpenSpec.upto quorumTailsSpec)

/-- 'carabinerlaw12.QuorumRises', WHERE WHAT IT READS IS OF BULK AT MOST 1048576: true; the input reads as it did. -/
def quorumRisesUptoRow : OpenClaim := { program := "yticimjplegbagaa", sum := "00caeb39853e48f64d1e88dab102167ed594b6aef4dfd9e21fddd092f195e4f2", func := "carabiner/carabinerlaw12.QuorumRises", spec := "quorumRises", unfollowed := true, recurses := true, apart := false, narrowed := true }
def QuorumRisesUptoSaid : Prop := quorumRisesUptoRow.holds Try.pinned (OpenSpec.upto quorumRisesSpec)

/-- 'carabinerlaw12.QuorumMissing', WHERE WHAT IT READS IS OF BULK AT MOST 1048576: true; the input reads as it did. -/
def quorumMissingUptoRow : OpenClaim := { program := "yticimjplegbagaa", sum := "00caeb39853e48f64d1e88dab102167ed594b6aef4dfd9e21fddd092f195e4f2", func := "carabiner/carabinerlaw12.QuorumMissing", spec := "quorumMissing", unfollowed := true, recurses := true, apart := false, narrowed := true }
def QuorumMissingUptoSaid : Prop := quorumMissingUptoRow.holds Try.pinned (OpenSpec.upto quorumMissingSpec)

/-- 'carabinerlaw12.QuorumChains', WHERE WHAT IT READS IS OF BULK AT MOST 1048576: true; the input reads as it did. -/
def quorumChainsUptoRow : OpenClaim := { program := "yticimjplegbagaa", sum := "00caeb39853e48f64d1e88dab102167ed594b6aef4dfd9e21fddd092f195e4f2", func := "carabiner/carabinerlaw12.QuorumChains", spec := "quorumChains", unfollowed := true, recurses := true, apart := false, narrowed := true }
def QuorumChainsUptoSaid : Prop := quorumChainsUptoRow.holds Try.pinned (OpenSpec.upto quorumChainsSpec)

end Rows
end Go.Proofs.Yticimjplegbagaa
