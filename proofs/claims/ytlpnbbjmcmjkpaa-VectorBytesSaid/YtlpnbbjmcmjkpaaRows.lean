/-
  No cell of these rows narrows 'for every input' (looked for: loops, veiled, ifaces, maps, wideKeys, modest, calm, conditions, laid).
  DERIVED. THE GIVEN ROWS OF THIS SEAT. 9 by the template 'for every input the law returns true; each argument reads behind the call as it read before'; 0 by the template 'total and deterministic' (their statements: YtlpnbbjmcmjkpaaTotals.lean).
  GIVEN WITH THE SEED: the statements are not yours to turn. If you find one false, say at which input.
  Laid BY PROGRAM, IN A SANDBOX (cutbox-rows.mjs): the forced cells as the released guide's own fill.sh prints them over the translation 37c29282fbe39eef… (all of the seat's roots in one cut). By AI agents, Wed Nov 11 2026. No macro, syntax, notation, axiom, sorry.
-/
import Derived.Test.YtlpnbbjmcmjkpaaChecked
import GoSem.Claim
import GoSem.ClaimJoined
import GoSem.ClaimMapViews
import Derived.JoinedTies
import Derived.KernelRfl
namespace Go.Proofs.Ytlpnbbjmcmjkpaa
/- THE CELL 'sum', in the pinned program and in every row, IS THE sha256 OF THE DUMP (.gsa) THAT YtlpnbbjmcmjkpaaProg.lean LOADS. Nothing in Lean hashes anything: it is a label: what it is worth is what the hold of that sum in a sandbox is worth. -/
noncomputable def Try.pinned : Pinned := { name := "ytlpnbbjmcmjkpaa", sum := "37c29282fbe39eeff95c763e59a801384ff05703fc94fed611c460395a17a97a", checked := Try.checked }
namespace Rows
def none {H : Type} : Left H := { results := [], args := [] }

/-- 'carabinerlaw03.VectorQuorums': WHATEVER THE INPUT: true; the input reads as it did. -/
def vectorQuorumsSpec : ChangeSpec := { name := "vectorQuorums", fn := fun _ => fun
  | [d1, d2] => { results := [.lit (.bool true)], args := [d1, d2] }
  | _ => none }
def vectorQuorumsRow : OpenClaim := { program := "ytlpnbbjmcmjkpaa", sum := "37c29282fbe39eeff95c763e59a801384ff05703fc94fed611c460395a17a97a", func := "carabiner/carabinerlaw03.VectorQuorums", spec := "vectorQuorums", unfollowed := true, recurses := true, apart := false }
def VectorQuorumsSaid : Prop := vectorQuorumsRow.holds Try.pinned (OpenSpec.ofChange vectorQuorumsSpec)

/-- ITS FALSE NEIGHBOUR: 'it returns false'. Refute it at one input. -/
def vectorQuorumsWrong : ChangeSpec := { name := "vectorQuorums", fn := fun _ => fun
  | [d1, d2] => { results := [.lit (.bool false)], args := [d1, d2] }
  | _ => none }
def VectorQuorumsWrongFalsely : Prop := vectorQuorumsRow.holds Try.pinned (OpenSpec.ofChange vectorQuorumsWrong)

/-- 'carabinerlaw03.VectorAll': WHATEVER THE INPUT: true; the input reads as it did. -/
def vectorAllSpec : ChangeSpec := { name := "vectorAll", fn := fun _ => fun
  | [d1, d2] => { results := [.lit (.bool true)], args := [d1, d2] }
  | _ => none }
def vectorAllRow : OpenClaim := { program := "ytlpnbbjmcmjkpaa", sum := "37c29282fbe39eeff95c763e59a801384ff05703fc94fed611c460395a17a97a", func := "carabiner/carabinerlaw03.VectorAll", spec := "vectorAll", unfollowed := true, recurses := true, apart := false }
def VectorAllSaid : Prop := vectorAllRow.holds Try.pinned (OpenSpec.ofChange vectorAllSpec)

/-- ITS FALSE NEIGHBOUR: 'it returns false'. Refute it at one input. -/
def vectorAllWrong : ChangeSpec := { name := "vectorAll", fn := fun _ => fun
  | [d1, d2] => { results := [.lit (.bool false)], args := [d1, d2] }
  | _ => none }
def VectorAllWrongFalsely : Prop := vectorAllRow.holds Try.pinned (OpenSpec.ofChange vectorAllWrong)

/-- 'carabinerlaw03.VectorThree': WHATEVER THE INPUT: true; the input reads as it did. -/
def vectorThreeSpec : ChangeSpec := { name := "vectorThree", fn := fun _ => fun
  | [d1, d2, d3] => { results := [.lit (.bool true)], args := [d1, d2, d3] }
  | _ => none }
def vectorThreeRow : OpenClaim := { program := "ytlpnbbjmcmjkpaa", sum := "37c29282fbe39eeff95c763e59a801384ff05703fc94fed611c460395a17a97a", func := "carabiner/carabinerlaw03.VectorThree", spec := "vectorThree", unfollowed := true, recurses := true, apart := false }
def VectorThreeSaid : Prop := vectorThreeRow.holds Try.pinned (OpenSpec.ofChange vectorThreeSpec)

/-- ITS FALSE NEIGHBOUR: 'it returns false'. Refute it at one input. -/
def vectorThreeWrong : ChangeSpec := { name := "vectorThree", fn := fun _ => fun
  | [d1, d2, d3] => { results := [.lit (.bool false)], args := [d1, d2, d3] }
  | _ => none }
def VectorThreeWrongFalsely : Prop := vectorThreeRow.holds Try.pinned (OpenSpec.ofChange vectorThreeWrong)

/-- 'carabinerlaw03.VectorBounds': WHATEVER THE INPUT: true; the input reads as it did. -/
def vectorBoundsSpec : ChangeSpec := { name := "vectorBounds", fn := fun _ => fun
  | [d1, d2, d3] => { results := [.lit (.bool true)], args := [d1, d2, d3] }
  | _ => none }
def vectorBoundsRow : OpenClaim := { program := "ytlpnbbjmcmjkpaa", sum := "37c29282fbe39eeff95c763e59a801384ff05703fc94fed611c460395a17a97a", func := "carabiner/carabinerlaw03.VectorBounds", spec := "vectorBounds", unfollowed := true, recurses := true, apart := false }
def VectorBoundsSaid : Prop := vectorBoundsRow.holds Try.pinned (OpenSpec.ofChange vectorBoundsSpec)

/-- ITS FALSE NEIGHBOUR: 'it returns false'. Refute it at one input. -/
def vectorBoundsWrong : ChangeSpec := { name := "vectorBounds", fn := fun _ => fun
  | [d1, d2, d3] => { results := [.lit (.bool false)], args := [d1, d2, d3] }
  | _ => none }
def VectorBoundsWrongFalsely : Prop := vectorBoundsRow.holds Try.pinned (OpenSpec.ofChange vectorBoundsWrong)

/-- 'carabinerlaw03.VectorGains': WHATEVER THE INPUT: true; the input reads as it did. -/
def vectorGainsSpec : ChangeSpec := { name := "vectorGains", fn := fun _ => fun
  | [d1, d2] => { results := [.lit (.bool true)], args := [d1, d2] }
  | _ => none }
def vectorGainsRow : OpenClaim := { program := "ytlpnbbjmcmjkpaa", sum := "37c29282fbe39eeff95c763e59a801384ff05703fc94fed611c460395a17a97a", func := "carabiner/carabinerlaw03.VectorGains", spec := "vectorGains", unfollowed := true, recurses := true, apart := false }
def VectorGainsSaid : Prop := vectorGainsRow.holds Try.pinned (OpenSpec.ofChange vectorGainsSpec)

/-- ITS FALSE NEIGHBOUR: 'it returns false'. Refute it at one input. -/
def vectorGainsWrong : ChangeSpec := { name := "vectorGains", fn := fun _ => fun
  | [d1, d2] => { results := [.lit (.bool false)], args := [d1, d2] }
  | _ => none }
def VectorGainsWrongFalsely : Prop := vectorGainsRow.holds Try.pinned (OpenSpec.ofChange vectorGainsWrong)

/-- 'carabinerlaw03.VectorSets': WHATEVER THE INPUT: true; the input reads as it did. -/
def vectorSetsSpec : ChangeSpec := { name := "vectorSets", fn := fun _ => fun
  | [d1, d2, d3] => { results := [.lit (.bool true)], args := [d1, d2, d3] }
  | _ => none }
def vectorSetsRow : OpenClaim := { program := "ytlpnbbjmcmjkpaa", sum := "37c29282fbe39eeff95c763e59a801384ff05703fc94fed611c460395a17a97a", func := "carabiner/carabinerlaw03.VectorSets", spec := "vectorSets", unfollowed := true, recurses := true, apart := false }
def VectorSetsSaid : Prop := vectorSetsRow.holds Try.pinned (OpenSpec.ofChange vectorSetsSpec)

/-- ITS FALSE NEIGHBOUR: 'it returns false'. Refute it at one input. -/
def vectorSetsWrong : ChangeSpec := { name := "vectorSets", fn := fun _ => fun
  | [d1, d2, d3] => { results := [.lit (.bool false)], args := [d1, d2, d3] }
  | _ => none }
def VectorSetsWrongFalsely : Prop := vectorSetsRow.holds Try.pinned (OpenSpec.ofChange vectorSetsWrong)

/-- 'carabinerlaw03.VectorRaises': WHATEVER THE INPUT: true; the input reads as it did. -/
def vectorRaisesSpec : ChangeSpec := { name := "vectorRaises", fn := fun _ => fun
  | [d1, d2, d3] => { results := [.lit (.bool true)], args := [d1, d2, d3] }
  | _ => none }
def vectorRaisesRow : OpenClaim := { program := "ytlpnbbjmcmjkpaa", sum := "37c29282fbe39eeff95c763e59a801384ff05703fc94fed611c460395a17a97a", func := "carabiner/carabinerlaw03.VectorRaises", spec := "vectorRaises", unfollowed := true, recurses := true, apart := false }
def VectorRaisesSaid : Prop := vectorRaisesRow.holds Try.pinned (OpenSpec.ofChange vectorRaisesSpec)

/-- ITS FALSE NEIGHBOUR: 'it returns false'. Refute it at one input. -/
def vectorRaisesWrong : ChangeSpec := { name := "vectorRaises", fn := fun _ => fun
  | [d1, d2, d3] => { results := [.lit (.bool false)], args := [d1, d2, d3] }
  | _ => none }
def VectorRaisesWrongFalsely : Prop := vectorRaisesRow.holds Try.pinned (OpenSpec.ofChange vectorRaisesWrong)

/-- 'carabinerlaw03.VectorMakes': WHATEVER THE INPUT: true; the input reads as it did. -/
def vectorMakesSpec : ChangeSpec := { name := "vectorMakes", fn := fun _ => fun
  | [d1, d2] => { results := [.lit (.bool true)], args := [d1, d2] }
  | _ => none }
def vectorMakesRow : OpenClaim := { program := "ytlpnbbjmcmjkpaa", sum := "37c29282fbe39eeff95c763e59a801384ff05703fc94fed611c460395a17a97a", func := "carabiner/carabinerlaw03.VectorMakes", spec := "vectorMakes", unfollowed := true, recurses := true, apart := false }
def VectorMakesSaid : Prop := vectorMakesRow.holds Try.pinned (OpenSpec.ofChange vectorMakesSpec)

/-- ITS FALSE NEIGHBOUR: 'it returns false'. Refute it at one input. -/
def vectorMakesWrong : ChangeSpec := { name := "vectorMakes", fn := fun _ => fun
  | [d1, d2] => { results := [.lit (.bool false)], args := [d1, d2] }
  | _ => none }
def VectorMakesWrongFalsely : Prop := vectorMakesRow.holds Try.pinned (OpenSpec.ofChange vectorMakesWrong)

/-- 'carabinerlaw03.VectorBytes': WHATEVER THE INPUT: true; the input reads as it did. -/
def vectorBytesSpec : ChangeSpec := { name := "vectorBytes", fn := fun _ => fun
  | [d1, d2] => { results := [.lit (.bool true)], args := [d1, d2] }
  | _ => none }
def vectorBytesRow : OpenClaim := { program := "ytlpnbbjmcmjkpaa", sum := "37c29282fbe39eeff95c763e59a801384ff05703fc94fed611c460395a17a97a", func := "carabiner/carabinerlaw03.VectorBytes", spec := "vectorBytes", unfollowed := true, recurses := true, apart := false }
def VectorBytesSaid : Prop := vectorBytesRow.holds Try.pinned (OpenSpec.ofChange vectorBytesSpec)

/-- ITS FALSE NEIGHBOUR: 'it returns false'. Refute it at one input. -/
def vectorBytesWrong : ChangeSpec := { name := "vectorBytes", fn := fun _ => fun
  | [d1, d2] => { results := [.lit (.bool false)], args := [d1, d2] }
  | _ => none }
def VectorBytesWrongFalsely : Prop := vectorBytesRow.holds Try.pinned (OpenSpec.ofChange vectorBytesWrong)

/- THE SECOND FORM. 'bulk': how many values and letters a reading holds, each counted each time it is reached (what is shared counts as often as it is met; a slice's spare places count too). A statement '..UptoSaid' is the law's where the arguments, and the package variables that the reading takes, are together of bulk at most 1048576: NARROWER than '..Said'. Prove '..Said' where nothing that the law and all that it calls make is longer than what came in: it says more and counts as full. Else prove '..UptoSaid'. A law counts once. -/
mutual
def uptoBulk {H : Type} : DataW H → Nat
  | .lit (.string bytes) => bytes.length + 1
  | .lit _ => 1
  | .nil => 1
  | .ptr d => uptoBulk d + 1
  | .slice elems spare => uptoBulkAll elems + uptoBulkAll spare + 1
  | .agg parts => uptoBulkAll parts + 1
  | .iface _ d => uptoBulk d + 1
  | .map entries => uptoBulkEntries entries + 1
  | .held _ => 1
def uptoBulkAll {H : Type} : List (DataW H) → Nat
  | [] => 0
  | d :: r => uptoBulk d + uptoBulkAll r
def uptoBulkEntries {H : Type} : List (Lit × DataW H) → Nat
  | [] => 0
  | x :: r => uptoBulkEntry x + uptoBulkEntries r
def uptoBulkEntry {H : Type} : Lit × DataW H → Nat
  | (.string bytes, d) => bytes.length + uptoBulk d + 1
  | (_, d) => uptoBulk d + 1
 end
def uptoSmall : (H : Type) → List (DataW H) → Bool := fun _ ds => decide (uptoBulkAll ds ≤ 1048576)
def OpenSpec.upto (s : _root_.Go.ChangeSpec) : _root_.Go.OpenSpec := { _root_.Go.OpenSpec.ofChange s with cond := some uptoSmall }

/-- 'carabinerlaw03.VectorQuorums', WHERE WHAT IT READS IS OF BULK AT MOST 1048576: true; the input reads as it did. -/
def vectorQuorumsUptoRow : OpenClaim := { program := "ytlpnbbjmcmjkpaa", sum := "37c29282fbe39eeff95c763e59a801384ff05703fc94fed611c460395a17a97a", func := "carabiner/carabinerlaw03.VectorQuorums", spec := "vectorQuorums", unfollowed := true, recurses := true, apart := false, narrowed := true }
def VectorQuorumsUptoSaid : Prop := vectorQuorumsUptoRow.holds Try.pinned (OpenSpec.upto vectorQuorumsSpec)

/-- 'carabinerlaw03.VectorAll', WHERE WHAT IT READS IS OF BULK AT MOST 1048576: true; the input reads as it did. -/
def vectorAllUptoRow : OpenClaim := { program := "ytlpnbbjmcmjkpaa", sum := "37c29282fbe39eeff95c763e59a801384ff05703fc94fed611c460395a17a97a", func := "carabiner/carabinerlaw03.VectorAll", spec := "vectorAll", unfollowed := true, recurses := true, apart := false, narrowed := true }
def VectorAllUptoSaid : Prop := vectorAllUptoRow.holds Try.pinned (OpenSpec.upto vectorAllSpec)

/-- 'carabinerlaw03.VectorThree', WHERE WHAT IT READS IS OF BULK AT MOST 1048576: true; the input reads as it did. -/
def vectorThreeUptoRow : OpenClaim := { program := "ytlpnbbjmcmjkpaa", sum := "37c29282fbe39eeff95c763e59a801384ff05703fc94fed611c460395a17a97a", func := "carabiner/carabinerlaw03.VectorThree", spec := "vectorThree", unfollowed := true, recurses := true, apart := false, narrowed := true }
def VectorThreeUptoSaid : Prop := vectorThreeUptoRow.holds Try.pinned (OpenSpec.upto vectorThreeSpec)

/-- 'carabinerlaw03.VectorBounds', WHERE WHAT IT READS IS OF BULK AT MOST 1048576: true; the input reads as it did. -/
def vectorBoundsUptoRow : OpenClaim := { program := "ytlpnbbjmcmjkpaa", sum := "37c29282fbe39eeff95c763e59a801384ff05703fc94fed611c460395a17a97a", func := "carabiner/carabinerlaw03.VectorBounds", spec := "vectorBounds", unfollowed := true, recurses := true, apart := false, narrowed := true }
def VectorBoundsUptoSaid : Prop := vectorBoundsUptoRow.holds Try.pinned (OpenSpec.upto vectorBoundsSpec)

/-- 'carabinerlaw03.VectorGains', WHERE WHAT IT READS IS OF BULK AT MOST 1048576: true; the input reads as it did. -/
def vectorGainsUptoRow : OpenClaim := { program := "ytlpnbbjmcmjkpaa", sum := "37c29282fbe39eeff95c763e59a801384ff05703fc94fed611c460395a17a97a", func := "carabiner/carabinerlaw03.VectorGains", spec := "vectorGains", unfollowed := true, recurses := true, apart := false, narrowed := true }
def VectorGainsUptoSaid : Prop := vectorGainsUptoRow.holds Try.pinned (OpenSpec.upto vectorGainsSpec)

/-- 'carabinerlaw03.VectorSets', WHERE WHAT IT READS IS OF BULK AT MOST 1048576: true; the input reads as it did. -/
def vectorSetsUptoRow : OpenClaim := { program := "ytlpnbbjmcmjkpaa", sum := "37c29282fbe39eeff95c763e59a801384ff05703fc94fed611c460395a17a97a", func := "carabiner/carabinerlaw03.VectorSets", spec := "vectorSets", unfollowed := true, recurses := true, apart := false, narrowed := true }
def VectorSetsUptoSaid : Prop := vectorSetsUptoRow.holds Try.pinned (OpenSpec.upto vectorSetsSpec)

/-- 'carabinerlaw03.VectorRaises', WHERE WHAT IT READS IS OF BULK AT MOST 1048576: true; the input reads as it did. -/
def vectorRaisesUptoRow : OpenClaim := { program := "ytlpnbbjmcmjkpaa", sum := "37c29282fbe39eeff95c763e59a801384ff05703fc94fed611c460395a17a97a", func := "carabiner/carabinerlaw03.VectorRaises", spec := "vectorRaises", unfollowed := true, recurses := true, apart := false, narrowed := true }
def VectorRaisesUptoSaid : Prop := vectorRaisesUptoRow.holds Try.pinned (OpenSpec.upto vectorRaisesSpec)

/-- 'carabinerlaw03.VectorMakes', WHERE WHAT IT READS IS OF BULK AT MOST 1048576: true; the input reads as it did. -/
def vectorMakesUptoRow : OpenClaim := { program := "ytlpnbbjmcmjkpaa", sum := "37c29282fbe39eeff95c763e59a801384ff05703fc94fed611c460395a17a97a", func := "carabiner/carabinerlaw03.VectorMakes", spec := "vectorMakes", unfollowed := true, recurses := true, apart := false, narrowed := true }
def VectorMakesUptoSaid : Prop := vectorMakesUptoRow.holds Try.pinned (OpenSpec.upto vectorMakesSpec)

/-- 'carabinerlaw03.VectorBytes', WHERE WHAT IT READS IS OF BULK AT MOST 1048576: true; the input reads as it did. -/
def vectorBytesUptoRow : OpenClaim := { program := "ytlpnbbjmcmjkpaa", sum := "37c29282fbe39eeff95c763e59a801384ff05703fc94fed611c460395a17a97a", func := "carabiner/carabinerlaw03.VectorBytes", spec := "vectorBytes", unfollowed := true, recurses := true, apart := false, narrowed := true }
def VectorBytesUptoSaid : Prop := vectorBytesUptoRow.holds Try.pinned (OpenSpec.upto vectorBytesSpec)

end Rows
end Go.Proofs.Ytlpnbbjmcmjkpaa
