/-
  No cell of these rows narrows 'for every input' (looked for: loops, veiled, ifaces, maps, wideKeys, modest, calm, conditions, laid).
  DERIVED. THE GIVEN ROWS OF THIS SEAT. 8 by the template 'for every input the law returns true; each argument reads behind the call as it read before'; 0 by the template 'total and deterministic' (their statements: YtnioljagmimojaaTotals.lean).
  GIVEN WITH THE SEED: the statements are not yours to turn. If you find one false, say at which input.
  Laid BY PROGRAM, IN A SANDBOX (cutbox-rows.mjs): the forced cells as the released guide's own fill.sh prints them over the translation e1bdc3029c776a9e… (all of the seat's roots in one cut). By AI agents, Wed Nov 11 2026. No macro, syntax, notation, axiom, sorry.
-/
import Derived.Test.YtnioljagmimojaaChecked
import GoSem.Claim
import GoSem.ClaimJoined
import GoSem.ClaimMapViews
import Derived.JoinedTies
import Derived.KernelRfl
namespace Go.Proofs.Ytnioljagmimojaa
/- THE CELL 'sum', in the pinned program and in every row, IS THE sha256 OF THE DUMP (.gsa) THAT YtnioljagmimojaaProg.lean LOADS. Nothing in Lean hashes anything: it is a label: what it is worth is what the hold of that sum in a sandbox is worth. -/
noncomputable def Try.pinned : Pinned := { name := "ytnioljagmimojaa", sum := "e1bdc3029c776a9e63707c6d96f7cfec425591f43fe9ae8c6324401ed9ca3fbf", checked := Try.checked }
namespace Rows
def none {H : Type} : Left H := { results := [], args := [] }

/-- 'carabinerlaw22.ObjectData': WHATEVER THE INPUT: true; the input reads as it did. -/
def objectDataSpec : ChangeSpec := { name := "objectData", fn := fun _ => fun
  | [d1, d2] => { results := [.lit (.bool true)], args := [d1, d2] }
  | _ => none }
def objectDataRow : OpenClaim := { program := "ytnioljagmimojaa", sum := "e1bdc3029c776a9e63707c6d96f7cfec425591f43fe9ae8c6324401ed9ca3fbf", func := "carabiner/carabinerlaw22.ObjectData", spec := "objectData", unfollowed := true, recurses := true, apart := false }
def ObjectDataSaid : Prop := objectDataRow.holds Try.pinned (OpenSpec.ofChange objectDataSpec)

/-- ITS FALSE NEIGHBOUR: 'it returns false'. Refute it at one input. -/
def objectDataWrong : ChangeSpec := { name := "objectData", fn := fun _ => fun
  | [d1, d2] => { results := [.lit (.bool false)], args := [d1, d2] }
  | _ => none }
def ObjectDataWrongFalsely : Prop := objectDataRow.holds Try.pinned (OpenSpec.ofChange objectDataWrong)

/-- 'carabinerlaw22.ObjectAsks': WHATEVER THE INPUT: true; the input reads as it did. -/
def objectAsksSpec : ChangeSpec := { name := "objectAsks", fn := fun _ => fun
  | [d1, d2] => { results := [.lit (.bool true)], args := [d1, d2] }
  | _ => none }
def objectAsksRow : OpenClaim := { program := "ytnioljagmimojaa", sum := "e1bdc3029c776a9e63707c6d96f7cfec425591f43fe9ae8c6324401ed9ca3fbf", func := "carabiner/carabinerlaw22.ObjectAsks", spec := "objectAsks", unfollowed := true, recurses := true, apart := false }
def ObjectAsksSaid : Prop := objectAsksRow.holds Try.pinned (OpenSpec.ofChange objectAsksSpec)

/-- ITS FALSE NEIGHBOUR: 'it returns false'. Refute it at one input. -/
def objectAsksWrong : ChangeSpec := { name := "objectAsks", fn := fun _ => fun
  | [d1, d2] => { results := [.lit (.bool false)], args := [d1, d2] }
  | _ => none }
def ObjectAsksWrongFalsely : Prop := objectAsksRow.holds Try.pinned (OpenSpec.ofChange objectAsksWrong)

/-- 'carabinerlaw22.ObjectCounts': WHATEVER THE INPUT: true; the input reads as it did. -/
def objectCountsSpec : ChangeSpec := { name := "objectCounts", fn := fun _ => fun
  | [d] => { results := [.lit (.bool true)], args := [d] }
  | _ => none }
def objectCountsRow : OpenClaim := { program := "ytnioljagmimojaa", sum := "e1bdc3029c776a9e63707c6d96f7cfec425591f43fe9ae8c6324401ed9ca3fbf", func := "carabiner/carabinerlaw22.ObjectCounts", spec := "objectCounts", unfollowed := true, recurses := true, apart := false }
def ObjectCountsSaid : Prop := objectCountsRow.holds Try.pinned (OpenSpec.ofChange objectCountsSpec)

/-- ITS FALSE NEIGHBOUR: 'it returns false'. Refute it at one input. -/
def objectCountsWrong : ChangeSpec := { name := "objectCounts", fn := fun _ => fun
  | [d] => { results := [.lit (.bool false)], args := [d] }
  | _ => none }
def ObjectCountsWrongFalsely : Prop := objectCountsRow.holds Try.pinned (OpenSpec.ofChange objectCountsWrong)

/-- 'carabinerlaw22.ObjectLates': WHATEVER THE INPUT: true; the input reads as it did. -/
def objectLatesSpec : ChangeSpec := { name := "objectLates", fn := fun _ => fun
  | [d1, d2] => { results := [.lit (.bool true)], args := [d1, d2] }
  | _ => none }
def objectLatesRow : OpenClaim := { program := "ytnioljagmimojaa", sum := "e1bdc3029c776a9e63707c6d96f7cfec425591f43fe9ae8c6324401ed9ca3fbf", func := "carabiner/carabinerlaw22.ObjectLates", spec := "objectLates", unfollowed := true, recurses := true, apart := false }
def ObjectLatesSaid : Prop := objectLatesRow.holds Try.pinned (OpenSpec.ofChange objectLatesSpec)

/-- ITS FALSE NEIGHBOUR: 'it returns false'. Refute it at one input. -/
def objectLatesWrong : ChangeSpec := { name := "objectLates", fn := fun _ => fun
  | [d1, d2] => { results := [.lit (.bool false)], args := [d1, d2] }
  | _ => none }
def ObjectLatesWrongFalsely : Prop := objectLatesRow.holds Try.pinned (OpenSpec.ofChange objectLatesWrong)

/-- 'carabinerlaw22.ObjectFolds': WHATEVER THE INPUT: true; the input reads as it did. -/
def objectFoldsSpec : ChangeSpec := { name := "objectFolds", fn := fun _ => fun
  | [d1, d2] => { results := [.lit (.bool true)], args := [d1, d2] }
  | _ => none }
def objectFoldsRow : OpenClaim := { program := "ytnioljagmimojaa", sum := "e1bdc3029c776a9e63707c6d96f7cfec425591f43fe9ae8c6324401ed9ca3fbf", func := "carabiner/carabinerlaw22.ObjectFolds", spec := "objectFolds", unfollowed := true, recurses := true, apart := false }
def ObjectFoldsSaid : Prop := objectFoldsRow.holds Try.pinned (OpenSpec.ofChange objectFoldsSpec)

/-- ITS FALSE NEIGHBOUR: 'it returns false'. Refute it at one input. -/
def objectFoldsWrong : ChangeSpec := { name := "objectFolds", fn := fun _ => fun
  | [d1, d2] => { results := [.lit (.bool false)], args := [d1, d2] }
  | _ => none }
def ObjectFoldsWrongFalsely : Prop := objectFoldsRow.holds Try.pinned (OpenSpec.ofChange objectFoldsWrong)

/-- 'carabinerlaw22.ObjectSerial': WHATEVER THE INPUT: true; the input reads as it did. -/
def objectSerialSpec : ChangeSpec := { name := "objectSerial", fn := fun _ => fun
  | [d] => { results := [.lit (.bool true)], args := [d] }
  | _ => none }
def objectSerialRow : OpenClaim := { program := "ytnioljagmimojaa", sum := "e1bdc3029c776a9e63707c6d96f7cfec425591f43fe9ae8c6324401ed9ca3fbf", func := "carabiner/carabinerlaw22.ObjectSerial", spec := "objectSerial", unfollowed := true, recurses := true, apart := false }
def ObjectSerialSaid : Prop := objectSerialRow.holds Try.pinned (OpenSpec.ofChange objectSerialSpec)

/-- ITS FALSE NEIGHBOUR: 'it returns false'. Refute it at one input. -/
def objectSerialWrong : ChangeSpec := { name := "objectSerial", fn := fun _ => fun
  | [d] => { results := [.lit (.bool false)], args := [d] }
  | _ => none }
def ObjectSerialWrongFalsely : Prop := objectSerialRow.holds Try.pinned (OpenSpec.ofChange objectSerialWrong)

/-- 'carabinerlaw22.ObjectTwice': WHATEVER THE INPUT: true; the input reads as it did. -/
def objectTwiceSpec : ChangeSpec := { name := "objectTwice", fn := fun _ => fun
  | [d] => { results := [.lit (.bool true)], args := [d] }
  | _ => none }
def objectTwiceRow : OpenClaim := { program := "ytnioljagmimojaa", sum := "e1bdc3029c776a9e63707c6d96f7cfec425591f43fe9ae8c6324401ed9ca3fbf", func := "carabiner/carabinerlaw22.ObjectTwice", spec := "objectTwice", unfollowed := true, recurses := true, apart := false }
def ObjectTwiceSaid : Prop := objectTwiceRow.holds Try.pinned (OpenSpec.ofChange objectTwiceSpec)

/-- ITS FALSE NEIGHBOUR: 'it returns false'. Refute it at one input. -/
def objectTwiceWrong : ChangeSpec := { name := "objectTwice", fn := fun _ => fun
  | [d] => { results := [.lit (.bool false)], args := [d] }
  | _ => none }
def ObjectTwiceWrongFalsely : Prop := objectTwiceRow.holds Try.pinned (OpenSpec.ofChange objectTwiceWrong)

/-- 'carabinerlaw22.ObjectBlind': WHATEVER THE INPUT: true; the input reads as it did. -/
def objectBlindSpec : ChangeSpec := { name := "objectBlind", fn := fun _ => fun
  | [d1, d2] => { results := [.lit (.bool true)], args := [d1, d2] }
  | _ => none }
def objectBlindRow : OpenClaim := { program := "ytnioljagmimojaa", sum := "e1bdc3029c776a9e63707c6d96f7cfec425591f43fe9ae8c6324401ed9ca3fbf", func := "carabiner/carabinerlaw22.ObjectBlind", spec := "objectBlind", unfollowed := true, recurses := true, apart := false }
def ObjectBlindSaid : Prop := objectBlindRow.holds Try.pinned (OpenSpec.ofChange objectBlindSpec)

/-- ITS FALSE NEIGHBOUR: 'it returns false'. Refute it at one input. -/
def objectBlindWrong : ChangeSpec := { name := "objectBlind", fn := fun _ => fun
  | [d1, d2] => { results := [.lit (.bool false)], args := [d1, d2] }
  | _ => none }
def ObjectBlindWrongFalsely : Prop := objectBlindRow.holds Try.pinned (OpenSpec.ofChange objectBlindWrong)

/- THE SECOND FORM. 'bulk': how many values and letters a reading holds, each counted each time it is reached (what is shared counts as often as it is met; a slice's spare places count too). A statement '..UptoSaid' is the law's where the arguments, and the package variables that the reading takes, are together of bulk at most 1048576: NARROWER than '..Said'. Prove '..Said' where nothing that the law and all that it calls make is longer than what came in: it says more and counts as full. Else prove '..UptoSaid'. A law counts once. -/
mutual
def uptoBulk {H : Type} : DataW H → Nat
  | .lit (.string bytes) => bytes.length + 1
  | .lit _ => 1
  | .nil => 1
  | .ptr d => uptoBulk d + 1
  | .slice elems spare => uptoBulkAll elems + uptoBulkAll spare + 1
  | .agg parts => uptoBulkAll parts + 1
  | .iface _ d => uptoBulk d + 1
  | .map entries => uptoBulkEntries entries + 1
  | .held _ => 1
def uptoBulkAll {H : Type} : List (DataW H) → Nat
  | [] => 0
  | d :: r => uptoBulk d + uptoBulkAll r
def uptoBulkEntries {H : Type} : List (Lit × DataW H) → Nat
  | [] => 0
  | x :: r => uptoBulkEntry x + uptoBulkEntries r
def uptoBulkEntry {H : Type} : Lit × DataW H → Nat
  | (.string bytes, d) => bytes.length + uptoBulk d + 1
  | (_, d) => uptoBulk d + 1
 end
def uptoSmall : (H : Type) → List (DataW H) → Bool := fun _ ds => decide (uptoBulkAll ds ≤ 1048576)
def OpenSpec.upto (s : _root_.Go.ChangeSpec) : _root_.Go.OpenSpec := { _root_.Go.OpenSpec.ofChange s with cond := some uptoSmall }

/-- 'carabinerlaw22.ObjectData', WHERE WHAT IT READS IS OF BULK AT MOST 1048576: true; the input reads as it did. -/
def objectDataUptoRow : OpenClaim := { program := "ytnioljagmimojaa", sum := "e1bdc3029c776a9e63707c6d96f7cfec425591f43fe9ae8c6324401ed9ca3fbf", func := "carabiner/carabinerlaw22.ObjectData", spec := "objectData", unfollowed := true, recurses := true, apart := false, narrowed := true }
def ObjectDataUptoSaid : Prop := objectDataUptoRow.holds Try.pinned (OpenSpec.upto objectDataSpec)

/-- 'carabinerlaw22.ObjectAsks', WHERE WHAT IT READS IS OF BULK AT MOST 1048576: true; the input reads as it did. -/
def objectAsksUptoRow : OpenClaim := { program := "ytnioljagmimojaa", sum := "e1bdc3029c776a9e63707c6d96f7cfec425591f43fe9ae8c6324401ed9ca3fbf", func := "carabiner/carabinerlaw22.ObjectAsks", spec := "objectAsks", unfollowed := true, recurses := true, apart := false, narrowed := true }
def ObjectAsksUptoSaid : Prop := objectAsksUptoRow.holds Try.pinned (OpenSpec.upto objectAsksSpec)

/-- 'carabinerlaw22.ObjectCounts', WHERE WHAT IT READS IS OF BULK AT MOST 1048576: true; the input reads as it did. -/
def objectCountsUptoRow : OpenClaim := { program := "ytnioljagmimojaa", sum := "e1bdc3029c776a9e63707c6d96f7cfec425591f43fe9ae8c6324401ed9ca3fbf", func := "carabiner/carabinerlaw22.ObjectCounts", spec := "objectCounts", unfollowed := true, recurses := true, apart := false, narrowed := true }
def ObjectCountsUptoSaid : Prop := objectCountsUptoRow.holds Try.pinned (OpenSpec.upto objectCountsSpec)

/-- 'carabinerlaw22.ObjectLates', WHERE WHAT IT READS IS OF BULK AT MOST 1048576: true; the input reads as it did. -/
def objectLatesUptoRow : OpenClaim := { program := "ytnioljagmimojaa", sum := "e1bdc3029c776a9e63707c6d96f7cfec425591f43fe9ae8c6324401ed9ca3fbf", func := "carabiner/carabinerlaw22.ObjectLates", spec := "objectLates", unfollowed := true, recurses := true, apart := false, narrowed := true }
def ObjectLatesUptoSaid : Prop := objectLatesUptoRow.holds Try.pinned (OpenSpec.upto objectLatesSpec)

/-- 'carabinerlaw22.ObjectFolds', WHERE WHAT IT READS IS OF BULK AT MOST 1048576: true; the input reads as it did. -/
def objectFoldsUptoRow : OpenClaim := { program := "ytnioljagmimojaa", sum := "e1bdc3029c776a9e63707c6d96f7cfec425591f43fe9ae8c6324401ed9ca3fbf", func := "carabiner/carabinerlaw22.ObjectFolds", spec := "objectFolds", unfollowed := true, recurses := true, apart := false, narrowed := true }
def ObjectFoldsUptoSaid : Prop := objectFoldsUptoRow.holds Try.pinned (OpenSpec.upto objectFoldsSpec)

/-- 'carabinerlaw22.ObjectSerial', WHERE WHAT IT READS IS OF BULK AT MOST 1048576: true; the input reads as it did. -/
def objectSerialUptoRow : OpenClaim := { program := "ytnioljagmimojaa", sum := "e1bdc3029c776a9e63707c6d96f7cfec425591f43fe9ae8c6324401ed9ca3fbf", func := "carabiner/carabinerlaw22.ObjectSerial", spec := "objectSerial", unfollowed := true, recurses := true, apart := false, narrowed := true }
def ObjectSerialUptoSaid : Prop := objectSerialUptoRow.holds Try.pinned (OpenSpec.upto objectSerialSpec)

/-- 'carabinerlaw22.ObjectTwice', WHERE WHAT IT READS IS OF BULK AT MOST 1048576: true; the input reads as it did. -/
def objectTwiceUptoRow : OpenClaim := { program := "ytnioljagmimojaa", sum := "e1bdc3029c776a9e63707c6d96f7cfec425591f43fe9ae8c6324401ed9ca3fbf", func := "carabiner/carabinerlaw22.ObjectTwice", spec := "objectTwice", unfollowed := true, recurses := true, apart := false, narrowed := true }
def ObjectTwiceUptoSaid : Prop := objectTwiceUptoRow.holds Try.pinned (OpenSpec.upto objectTwiceSpec)

/-- 'carabinerlaw22.ObjectBlind', WHERE WHAT IT READS IS OF BULK AT MOST 1048576: true; the input reads as it did. -/
def objectBlindUptoRow : OpenClaim := { program := "ytnioljagmimojaa", sum := "e1bdc3029c776a9e63707c6d96f7cfec425591f43fe9ae8c6324401ed9ca3fbf", func := "carabiner/carabinerlaw22.ObjectBlind", spec := "objectBlind", unfollowed := true, recurses := true, apart := false, narrowed := true }
def ObjectBlindUptoSaid : Prop := objectBlindUptoRow.holds Try.pinned (OpenSpec.upto objectBlindSpec)

end Rows
end Go.Proofs.Ytnioljagmimojaa
