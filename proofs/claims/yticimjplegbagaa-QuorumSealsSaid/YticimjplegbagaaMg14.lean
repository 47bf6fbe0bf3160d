/- Texts RowK. -/
import Derived.Test.YticimjplegbagaaMg13
import Derived.Test.YticimjplegbagaaRows
import Derived.ProofKit
/- What all rows of this seat need. -/
set_option linter.unusedVariables false
namespace Go.Proofs.Yticimjplegbagaa
open Go.ChangeShapes Go.WideShapes Go.ChangeAt Go.RowKit Cb
open Go.ChangeMaps (open_string shut_string)

theorem own_knob : ownKnob Try.prog.godebug = none := by kernel_rfl
theorem laidOut : laidOutB Try.prog = true := by kernel_rfl
end Go.Proofs.Yticimjplegbagaa

