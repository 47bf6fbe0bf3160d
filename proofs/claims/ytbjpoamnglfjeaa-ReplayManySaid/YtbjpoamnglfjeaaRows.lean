/-
  No cell of these rows narrows 'for every input' (looked for: loops, veiled, ifaces, maps, wideKeys, modest, calm, conditions, laid).
  DERIVED. THE GIVEN ROWS OF THIS SEAT. 11 by the template 'for every input the law returns true; each argument reads behind the call as it read before'; 0 by the template 'total and deterministic' (their statements: YtbjpoamnglfjeaaTotals.lean).
  GIVEN WITH THE SEED: the statements are not yours to turn. If you find one false, say at which input.
  Laid BY PROGRAM, IN A SANDBOX (cutbox-rows.mjs): the forced cells as the released guide's own fill.sh prints them over the translation 85aa44f9f98d9887… (all of the seat's roots in one cut). By AI agents, Wed Nov 11 2026. No macro, syntax, notation, axiom, sorry.
-/
import Derived.Test.YtbjpoamnglfjeaaChecked
import GoSem.Claim
import GoSem.ClaimJoined
import GoSem.ClaimMapViews
import Derived.JoinedTies
import Derived.KernelRfl
namespace Go.Proofs.Ytbjpoamnglfjeaa
/- THE CELL 'sum', in the pinned program and in every row, IS THE sha256 OF THE DUMP (.gsa) THAT YtbjpoamnglfjeaaProg.lean LOADS. Nothing in Lean hashes anything: it is a label: what it is worth is what the hold of that sum in a sandbox is worth. -/
noncomputable def Try.pinned : Pinned := { name := "ytbjpoamnglfjeaa", sum := "85aa44f9f98d9887117bf4651333bdab5dffa7cff49b7305ffae63a1c9e66e91", checked := Try.checked }
namespace Rows
def none {H : Type} : Left H := { results := [], args := [] }

/-- 'carabinerlaw15.OrderFinds': WHATEVER THE INPUT: true; the input reads as it did. -/
def orderFindsSpec : ChangeSpec := { name := "orderFinds", fn := fun _ => fun
  | [d1, d2, d3] => { results := [.lit (.bool true)], args := [d1, d2, d3] }
  | _ => none }
def orderFindsRow : OpenClaim := { program := "ytbjpoamnglfjeaa", sum := "85aa44f9f98d9887117bf4651333bdab5dffa7cff49b7305ffae63a1c9e66e91", func := "carabiner/carabinerlaw15.OrderFinds", spec := "orderFinds", unfollowed := true, recurses := true, apart := false }
def OrderFindsSaid : Prop := orderFindsRow.holds Try.pinned (OpenSpec.ofChange orderFindsSpec)

/-- ITS FALSE NEIGHBOUR: 'it returns false'. Refute it at one input. -/
def orderFindsWrong : ChangeSpec := { name := "orderFinds", fn := fun _ => fun
  | [d1, d2, d3] => { results := [.lit (.bool false)], args := [d1, d2, d3] }
  | _ => none }
def OrderFindsWrongFalsely : Prop := orderFindsRow.holds Try.pinned (OpenSpec.ofChange orderFindsWrong)

/-- 'carabinerlaw15.OrderKeeps': WHATEVER THE INPUT: true; the input reads as it did. -/
def orderKeepsSpec : ChangeSpec := { name := "orderKeeps", fn := fun _ => fun
  | [d1, d2, d3] => { results := [.lit (.bool true)], args := [d1, d2, d3] }
  | _ => none }
def orderKeepsRow : OpenClaim := { program := "ytbjpoamnglfjeaa", sum := "85aa44f9f98d9887117bf4651333bdab5dffa7cff49b7305ffae63a1c9e66e91", func := "carabiner/carabinerlaw15.OrderKeeps", spec := "orderKeeps", unfollowed := true, recurses := true, apart := false }
def OrderKeepsSaid : Prop := orderKeepsRow.holds Try.pinned (OpenSpec.ofChange orderKeepsSpec)

/-- ITS FALSE NEIGHBOUR: 'it returns false'. Refute it at one input. -/
def orderKeepsWrong : ChangeSpec := { name := "orderKeeps", fn := fun _ => fun
  | [d1, d2, d3] => { results := [.lit (.bool false)], args := [d1, d2, d3] }
  | _ => none }
def OrderKeepsWrongFalsely : Prop := orderKeepsRow.holds Try.pinned (OpenSpec.ofChange orderKeepsWrong)

/-- 'carabinerlaw15.OrderGrows': WHATEVER THE INPUT: true; the input reads as it did. -/
def orderGrowsSpec : ChangeSpec := { name := "orderGrows", fn := fun _ => fun
  | [d1, d2] => { results := [.lit (.bool true)], args := [d1, d2] }
  | _ => none }
def orderGrowsRow : OpenClaim := { program := "ytbjpoamnglfjeaa", sum := "85aa44f9f98d9887117bf4651333bdab5dffa7cff49b7305ffae63a1c9e66e91", func := "carabiner/carabinerlaw15.OrderGrows", spec := "orderGrows", unfollowed := true, recurses := true, apart := false }
def OrderGrowsSaid : Prop := orderGrowsRow.holds Try.pinned (OpenSpec.ofChange orderGrowsSpec)

/-- ITS FALSE NEIGHBOUR: 'it returns false'. Refute it at one input. -/
def orderGrowsWrong : ChangeSpec := { name := "orderGrows", fn := fun _ => fun
  | [d1, d2] => { results := [.lit (.bool false)], args := [d1, d2] }
  | _ => none }
def OrderGrowsWrongFalsely : Prop := orderGrowsRow.holds Try.pinned (OpenSpec.ofChange orderGrowsWrong)

/-- 'carabinerlaw15.OrderMany': WHATEVER THE INPUT: true; the input reads as it did. -/
def orderManySpec : ChangeSpec := { name := "orderMany", fn := fun _ => fun
  | [d1, d2] => { results := [.lit (.bool true)], args := [d1, d2] }
  | _ => none }
def orderManyRow : OpenClaim := { program := "ytbjpoamnglfjeaa", sum := "85aa44f9f98d9887117bf4651333bdab5dffa7cff49b7305ffae63a1c9e66e91", func := "carabiner/carabinerlaw15.OrderMany", spec := "orderMany", unfollowed := true, recurses := true, apart := false }
def OrderManySaid : Prop := orderManyRow.holds Try.pinned (OpenSpec.ofChange orderManySpec)

/-- ITS FALSE NEIGHBOUR: 'it returns false'. Refute it at one input. -/
def orderManyWrong : ChangeSpec := { name := "orderMany", fn := fun _ => fun
  | [d1, d2] => { results := [.lit (.bool false)], args := [d1, d2] }
  | _ => none }
def OrderManyWrongFalsely : Prop := orderManyRow.holds Try.pinned (OpenSpec.ofChange orderManyWrong)

/-- 'carabinerlaw14.RegisterFinds': WHATEVER THE INPUT: true; the input reads as it did. -/
def registerFindsSpec : ChangeSpec := { name := "registerFinds", fn := fun _ => fun
  | [d1, d2, d3] => { results := [.lit (.bool true)], args := [d1, d2, d3] }
  | _ => none }
def registerFindsRow : OpenClaim := { program := "ytbjpoamnglfjeaa", sum := "85aa44f9f98d9887117bf4651333bdab5dffa7cff49b7305ffae63a1c9e66e91", func := "carabiner/carabinerlaw14.RegisterFinds", spec := "registerFinds", unfollowed := true, recurses := true, apart := false }
def RegisterFindsSaid : Prop := registerFindsRow.holds Try.pinned (OpenSpec.ofChange registerFindsSpec)

/-- ITS FALSE NEIGHBOUR: 'it returns false'. Refute it at one input. -/
def registerFindsWrong : ChangeSpec := { name := "registerFinds", fn := fun _ => fun
  | [d1, d2, d3] => { results := [.lit (.bool false)], args := [d1, d2, d3] }
  | _ => none }
def RegisterFindsWrongFalsely : Prop := registerFindsRow.holds Try.pinned (OpenSpec.ofChange registerFindsWrong)

/-- 'carabinerlaw14.RegisterAll': WHATEVER THE INPUT: true; the input reads as it did. -/
def registerAllSpec : ChangeSpec := { name := "registerAll", fn := fun _ => fun
  | [d1, d2, d3] => { results := [.lit (.bool true)], args := [d1, d2, d3] }
  | _ => none }
def registerAllRow : OpenClaim := { program := "ytbjpoamnglfjeaa", sum := "85aa44f9f98d9887117bf4651333bdab5dffa7cff49b7305ffae63a1c9e66e91", func := "carabiner/carabinerlaw14.RegisterAll", spec := "registerAll", unfollowed := true, recurses := true, apart := false }
def RegisterAllSaid : Prop := registerAllRow.holds Try.pinned (OpenSpec.ofChange registerAllSpec)

/-- ITS FALSE NEIGHBOUR: 'it returns false'. Refute it at one input. -/
def registerAllWrong : ChangeSpec := { name := "registerAll", fn := fun _ => fun
  | [d1, d2, d3] => { results := [.lit (.bool false)], args := [d1, d2, d3] }
  | _ => none }
def RegisterAllWrongFalsely : Prop := registerAllRow.holds Try.pinned (OpenSpec.ofChange registerAllWrong)

/-- 'carabinerlaw14.RegisterStays': WHATEVER THE INPUT: true; the input reads as it did. -/
def registerStaysSpec : ChangeSpec := { name := "registerStays", fn := fun _ => fun
  | [d1, d2] => { results := [.lit (.bool true)], args := [d1, d2] }
  | _ => none }
def registerStaysRow : OpenClaim := { program := "ytbjpoamnglfjeaa", sum := "85aa44f9f98d9887117bf4651333bdab5dffa7cff49b7305ffae63a1c9e66e91", func := "carabiner/carabinerlaw14.RegisterStays", spec := "registerStays", unfollowed := true, recurses := true, apart := false }
def RegisterStaysSaid : Prop := registerStaysRow.holds Try.pinned (OpenSpec.ofChange registerStaysSpec)

/-- ITS FALSE NEIGHBOUR: 'it returns false'. Refute it at one input. -/
def registerStaysWrong : ChangeSpec := { name := "registerStays", fn := fun _ => fun
  | [d1, d2] => { results := [.lit (.bool false)], args := [d1, d2] }
  | _ => none }
def RegisterStaysWrongFalsely : Prop := registerStaysRow.holds Try.pinned (OpenSpec.ofChange registerStaysWrong)

/-- 'carabinerlaw14.RegisterRows': WHATEVER THE INPUT: true; the input reads as it did. -/
def registerRowsSpec : ChangeSpec := { name := "registerRows", fn := fun _ => fun
  | [d1, d2] => { results := [.lit (.bool true)], args := [d1, d2] }
  | _ => none }
def registerRowsRow : OpenClaim := { program := "ytbjpoamnglfjeaa", sum := "85aa44f9f98d9887117bf4651333bdab5dffa7cff49b7305ffae63a1c9e66e91", func := "carabiner/carabinerlaw14.RegisterRows", spec := "registerRows", unfollowed := true, recurses := true, apart := false }
def RegisterRowsSaid : Prop := registerRowsRow.holds Try.pinned (OpenSpec.ofChange registerRowsSpec)

/-- ITS FALSE NEIGHBOUR: 'it returns false'. Refute it at one input. -/
def registerRowsWrong : ChangeSpec := { name := "registerRows", fn := fun _ => fun
  | [d1, d2] => { results := [.lit (.bool false)], args := [d1, d2] }
  | _ => none }
def RegisterRowsWrongFalsely : Prop := registerRowsRow.holds Try.pinned (OpenSpec.ofChange registerRowsWrong)

/-- 'carabinerlaw16.ReplayFails': WHATEVER THE INPUT: true; the input reads as it did. -/
def replayFailsSpec : ChangeSpec := { name := "replayFails", fn := fun _ => fun
  | [d1, d2, d3] => { results := [.lit (.bool true)], args := [d1, d2, d3] }
  | _ => none }
def replayFailsRow : OpenClaim := { program := "ytbjpoamnglfjeaa", sum := "85aa44f9f98d9887117bf4651333bdab5dffa7cff49b7305ffae63a1c9e66e91", func := "carabiner/carabinerlaw16.ReplayFails", spec := "replayFails", unfollowed := true, recurses := true, apart := false }
def ReplayFailsSaid : Prop := replayFailsRow.holds Try.pinned (OpenSpec.ofChange replayFailsSpec)

/-- ITS FALSE NEIGHBOUR: 'it returns false'. Refute it at one input. -/
def replayFailsWrong : ChangeSpec := { name := "replayFails", fn := fun _ => fun
  | [d1, d2, d3] => { results := [.lit (.bool false)], args := [d1, d2, d3] }
  | _ => none }
def ReplayFailsWrongFalsely : Prop := replayFailsRow.holds Try.pinned (OpenSpec.ofChange replayFailsWrong)

/-- 'carabinerlaw16.ReplayMany': WHATEVER THE INPUT: true; the input reads as it did. -/
def replayManySpec : ChangeSpec := { name := "replayMany", fn := fun _ => fun
  | [d1, d2] => { results := [.lit (.bool true)], args := [d1, d2] }
  | _ => none }
def replayManyRow : OpenClaim := { program := "ytbjpoamnglfjeaa", sum := "85aa44f9f98d9887117bf4651333bdab5dffa7cff49b7305ffae63a1c9e66e91", func := "carabiner/carabinerlaw16.ReplayMany", spec := "replayMany", unfollowed := true, recurses := true, apart := false }
def ReplayManySaid : Prop := replayManyRow.holds Try.pinned (OpenSpec.ofChange replayManySpec)

/-- ITS FALSE NEIGHBOUR: 'it returns false'. Refute it at one input. -/
def replayManyWrong : ChangeSpec := { name := "replayMany", fn := fun _ => fun
  | [d1, d2] => { results := [.lit (.bool false)], args := [d1, d2] }
  | _ => none }
def ReplayManyWrongFalsely : Prop := replayManyRow.holds Try.pinned (OpenSpec.ofChange replayManyWrong)

/-- 'carabinerlaw16.ReplayTwo': WHATEVER THE INPUT: true; the input reads as it did. -/
def replayTwoSpec : ChangeSpec := { name := "replayTwo", fn := fun _ => fun
  | [d1, d2, d3] => { results := [.lit (.bool true)], args := [d1, d2, d3] }
  | _ => none }
def replayTwoRow : OpenClaim := { program := "ytbjpoamnglfjeaa", sum := "85aa44f9f98d9887117bf4651333bdab5dffa7cff49b7305ffae63a1c9e66e91", func := "carabiner/carabinerlaw16.ReplayTwo", spec := "replayTwo", unfollowed := true, recurses := true, apart := false }
def ReplayTwoSaid : Prop := replayTwoRow.holds Try.pinned (OpenSpec.ofChange replayTwoSpec)

/-- ITS FALSE NEIGHBOUR: 'it returns false'. Refute it at one input. -/
def replayTwoWrong : ChangeSpec := { name := "replayTwo", fn := fun _ => fun
  | [d1, d2, d3] => { results := [.lit (.bool false)], args := [d1, d2, d3] }
  | _ => none }
def ReplayTwoWrongFalsely : Prop := replayTwoRow.holds Try.pinned (OpenSpec.ofChange replayTwoWrong)

/- THE SECOND FORM. 'bulk': how many values and letters a reading holds, each counted each time it is reached (what is shared counts as often as it is met; a slice's spare places count too). A statement '..UptoSaid' is the law's where the arguments, and the package variables that the reading takes, are together of bulk at most 1048576: NARROWER than '..Said'. Prove '..Said' where nothing that the law and all that it calls make is longer than what came in: it says more and counts as full. Else prove '..UptoSaid'. A law counts once. -/
mutual
def uptoBulk {H : Type} : DataW H → Nat
  | .lit (.string bytes) => bytes.length + 1
  | .lit _ => 1
  | .nil => 1
  | .ptr d => uptoBulk d + 1
  | .slice elems spare => uptoBulkAll elems + uptoBulkAll spare + 1
  | .agg parts => uptoBulkAll parts + 1
  | .iface _ d => uptoBulk d + 1
  | .map entries => uptoBulkEntries entries + 1
  | .held _ => 1
def uptoBulkAll {H : Type} : List (DataW H) → Nat
  | [] => 0
  | d :: r => uptoBulk d + uptoBulkAll r
def uptoBulkEntries {H : Type} : List (Lit × DataW H) → Nat
  | [] => 0
  | x :: r => uptoBulkEntry x + uptoBulkEntries r
def uptoBulkEntry {H : Type} : Lit × DataW H → Nat
  | (.string bytes, d) => bytes.length + uptoBulk d + 1
  | (_, d) => uptoBulk d + 1
 end
def uptoSmall : (H : Type) → List (DataW H) → Bool := fun _ ds => decide (uptoBulkAll ds ≤ 1048576)
def OpenSpec.upto (s : _root_.Go.ChangeSpec) : _root_.Go.OpenSpec := { _root_.Go.OpenSpec.ofChange s with cond := some uptoSmall }

/-- 'carabinerlaw15.OrderFinds', WHERE WHAT IT READS IS OF BULK AT MOST 1048576: true; the input reads as it did. -/
def orderFindsUptoRow : OpenClaim := { program := "ytbjpoamnglfjeaa", sum := "85aa44f9f98d9887117bf4651333bdab5dffa7cff49b7305ffae63a1c9e66e91", func := "carabiner/carabinerlaw15.OrderFinds", spec := "orderFinds", unfollowed := true, recurses := true, apart := false, narrowed := true }
def OrderFindsUptoSaid : Prop := orderFindsUptoRow.holds Try.pinned (OpenSpec.upto orderFindsSpec)

/-- 'carabinerlaw15.OrderKeeps', WHERE WHAT IT READS IS OF BULK AT MOST 1048576: true; the input reads as it did. -/
def orderKeepsUptoRow : OpenClaim := { program := "ytbjpoamnglfjeaa", sum := "85aa44f9f98d9887117bf4651333bdab5dffa7cff49b7305ffae63a1c9e66e91", func := "carabiner/carabinerlaw15.OrderKeeps", spec := "orderKeeps", unfollowed := true, recurses := true, apart := false, narrowed := true }
def OrderKeepsUptoSaid : Prop := orderKeepsUptoRow.holds Try.pinned (OpenSpec.upto orderKeepsSpec)

/-- 'carabinerlaw15.OrderGrows', WHERE WHAT IT READS IS OF BULK AT MOST 1048576: true; the input reads as it did. -/
def orderGrowsUptoRow : OpenClaim := { program := "ytbjpoamnglfjeaa", sum := "85aa44f9f98d9887117bf4651333bdab5dffa7cff49b7305ffae63a1c9e66e91", func := "carabiner/carabinerlaw15.OrderGrows", spec := "orderGrows", unfollowed := true, recurses := true, apart := false, narrowed := true }
def OrderGrowsUptoSaid : Prop := orderGrowsUptoRow.holds Try.pinned (OpenSpec.upto orderGrowsSpec)

/-- 'carabinerlaw15.OrderMany', WHERE WHAT IT READS IS OF BULK AT MOST 1048576: true; the input reads as it did. -/
def orderManyUptoRow : OpenClaim := { program := "ytbjpoamnglfjeaa", sum := "85aa44f9f98d9887117bf4651333bdab5dffa7cff49b7305ffae63a1c9e66e91", func := "carabiner/carabinerlaw15.OrderMany", spec := "orderMany", unfollowed := true, recurses := true, apart := false, narrowed := true }
def OrderManyUptoSaid : Prop := orderManyUptoRow.holds Try.pinned (OpenSpec.upto orderManySpec)

/-- 'carabinerlaw14.RegisterFinds', WHERE WHAT IT READS IS OF BULK AT MOST 1048576: true; the input reads as it did. -/
def registerFindsUptoRow : OpenClaim := { program := "ytbjpoamnglfjeaa", sum := "85aa44f9f98d9887117bf4651333bdab5dffa7cff49b7305ffae63a1c9e66e91", func := "carabiner/carabinerlaw14.RegisterFinds", spec := "registerFinds", unfollowed := true, recurses := true, apart := false, narrowed := true }
def RegisterFindsUptoSaid : Prop := registerFindsUptoRow.holds Try.pinned (OpenSpec.upto registerFindsSpec)

/-- 'carabinerlaw14.RegisterAll', WHERE WHAT IT READS IS OF BULK AT MOST 1048576: true; the input reads as it did. -/
def registerAllUptoRow : OpenClaim := { program := "ytbjpoamnglfjeaa", sum := "85aa44f9f98d9887117bf4651333bdab5dffa7cff49b7305ffae63a1c9e66e91", func := "carabiner/carabinerlaw14.RegisterAll", spec := "registerAll", unfollowed := true, recurses := true, apart := false, narrowed := true }
def RegisterAllUptoSaid : Prop := registerAllUptoRow.holds Try.pinned (OpenSpec.upto registerAllSpec)

/-- 'carabinerlaw14.RegisterStays', WHERE WHAT IT READS IS OF BULK AT MOST 1048576: true; the input reads as it did. -/
def registerStaysUptoRow : OpenClaim := { program := "ytbjpoamnglfjeaa", sum := "85aa44f9f98d9887117bf4651333bdab5dffa7cff49b7305ffae63a1c9e66e91", func := "carabiner/carabinerlaw14.RegisterStays", spec := "registerStays", unfollowed := true, recurses := true, apart := false, narrowed := true }
def RegisterStaysUptoSaid : Prop := registerStaysUptoRow.holds Try.pinned (OpenSpec.upto registerStaysSpec)

/-- 'carabinerlaw14.RegisterRows', WHERE WHAT IT READS IS OF BULK AT MOST 1048576: true; the input reads as it did. -/
def registerRowsUptoRow : OpenClaim := { program := "ytbjpoamnglfjeaa", sum := "85aa44f9f98d9887117bf4651333bdab5dffa7cff49b7305ffae63a1c9e66e91", func := "carabiner/carabinerlaw14.RegisterRows", spec := "registerRows", unfollowed := true, recurses := true, apart := false, narrowed := true }
def RegisterRowsUptoSaid : Prop := registerRowsUptoRow.holds Try.pinned (OpenSpec.upto registerRowsSpec)

/-- 'carabinerlaw16.ReplayFails', WHERE WHAT IT READS IS OF BULK AT MOST 1048576: true; the input reads as it did. -/
def replayFailsUptoRow : OpenClaim := { program := "ytbjpoamnglfjeaa", sum := "85aa44f9f98d9887117bf4651333bdab5dffa7cff49b7305ffae63a1c9e66e91", func := "carabiner/carabinerlaw16.ReplayFails", spec := "replayFails", unfollowed := true, recurses := true, apart := false, narrowed := true }
def ReplayFailsUptoSaid : Prop := replayFailsUptoRow.holds Try.pinned (OpenSpec.upto replayFailsSpec)

/-- 'carabinerlaw16.ReplayMany', WHERE WHAT IT READS IS OF BULK AT MOST 1048576: true; the input reads as it did. -/
def replayManyUptoRow : OpenClaim := { program := "ytbjpoamnglfjeaa", sum := "85aa44f9f98d9887117bf4651333bdab5dffa7cff49b7305ffae63a1c9e66e91", func := "carabiner/carabinerlaw16.ReplayMany", spec := "replayMany", unfollowed := true, recurses := true, apart := false, narrowed := true }
def ReplayManyUptoSaid : Prop := replayManyUptoRow.holds Try.pinned (OpenSpec.upto replayManySpec)

/-- 'carabinerlaw16.ReplayTwo', WHERE WHAT IT READS IS OF BULK AT MOST 1048576: true; the input reads as it did. -/
def replayTwoUptoRow : OpenClaim := { program := "ytbjpoamnglfjeaa", sum := "85aa44f9f98d9887117bf4651333bdab5dffa7cff49b7305ffae63a1c9e66e91", func := "carabiner/carabinerlaw16.ReplayTwo", spec := "replayTwo", unfollowed := true, recurses := true, apart := false, narrowed := true }
def ReplayTwoUptoSaid : Prop := replayTwoUptoRow.holds Try.pinned (OpenSpec.upto replayTwoSpec)

end Rows
end Go.Proofs.Ytbjpoamnglfjeaa
