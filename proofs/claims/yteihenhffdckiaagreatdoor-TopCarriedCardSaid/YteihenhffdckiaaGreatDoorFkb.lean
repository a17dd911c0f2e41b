/- Closed facts of the row and the program, each in a theorem of its own. -/
import Derived.Test.YteihenhffdckiaaGreatDoorJ26
namespace Go.Proofs.YteihenhffdckiaaGreatDoor.topCarriedDone
open Go Go.Abs Go.Abs.Ltop Go.ChangeShapes Go.WideShapes Go.ChangeAt Go.RowKit
set_option linter.unusedVariables false
set_option maxRecDepth 100000
set_option maxHeartbeats 0
theorem k12 : (Rows.topCarriedRow.recurses == Tryz.pinned.checked.prog.recurses 3) = true := by kernel_rfl
theorem k13 : (Rows.topCarriedRow.named == Tryz.pinned.checked.prog.varsNamed 3) = true := by kernel_rfl
end Go.Proofs.YteihenhffdckiaaGreatDoor.topCarriedDone
