import Derived.Test.YtpfmbblnhjpclaaGreatDoorJ45
set_option linter.unusedVariables false
set_option linter.unusedSimpArgs false
set_option maxRecDepth 100000
namespace Go.Proofs.YtpfmbblnhjpclaaGreatDoor.topOnlyOpensDone
open Go Go.an Go.an.ax Go.an.ax.G Go.ChangeShapes Go.WideShapes Go.ChangeAt Go.RowKit
set_option maxHeartbeats 0
theorem k12:(Rows.topOnlyOpensRow.recurses==Tryz.pinned.checked.prog.recurses 3)=true:=by kernel_rfl
theorem k13:(Rows.topOnlyOpensRow.named==Tryz.pinned.checked.prog.varsNamed 3)=true:=by kernel_rfl
end Go.Proofs.YtpfmbblnhjpclaaGreatDoor.topOnlyOpensDone
