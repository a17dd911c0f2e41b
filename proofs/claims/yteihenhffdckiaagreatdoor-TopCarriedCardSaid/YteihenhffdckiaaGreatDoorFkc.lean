/- Closed facts of the row and the program, each in a theorem of its own. -/
import Derived.Test.YteihenhffdckiaaGreatDoorJ26
namespace Go.Proofs.YteihenhffdckiaaGreatDoor.topCarriedDone
open Go Go.Abs Go.Abs.Ltop Go.ChangeShapes Go.WideShapes Go.ChangeAt Go.RowKit
set_option linter.unusedVariables false
set_option maxRecDepth 100000
set_option maxHeartbeats 0
theorem k2 : laidOutB Tryz.pinned.checked.prog = true := by kernel_rfl
theorem k3 : mapsRowed Tryz.pinned.checked.prog = true := by kernel_rfl
theorem k22 : (Rows.topCarriedRow.plainKeys == Tryz.pinned.checked.prog.plainKeys) = true := by kernel_rfl
theorem k23b : Tryz.pinned.checked.prog.stopsHeard = true := by kernel_rfl
theorem k24 : Tryz.pinned.checked.prog.mayEnter = true := by kernel_rfl
end Go.Proofs.YteihenhffdckiaaGreatDoor.topCarriedDone
