import Derived.Test.YtpfmbblnhjpclaaGreatDoorJ45
set_option linter.unusedVariables false
set_option linter.unusedSimpArgs false
set_option maxRecDepth 100000
namespace Go.Proofs.YtpfmbblnhjpclaaGreatDoor.topOnlyOpensDone
open Go Go.an Go.an.ax Go.an.ax.G Go.ChangeShapes Go.WideShapes Go.ChangeAt Go.RowKit
set_option maxHeartbeats 0
theorem k10:(Rows.topOnlyOpensRow.inPlace==Tryz.pinned.checked.prog.inPlace 3)=true:=by kernel_rfl
theorem k11:(Rows.topOnlyOpensRow.unfollowed==Tryz.pinned.checked.prog.unfollowed 3)=true:=by kernel_rfl
end Go.Proofs.YtpfmbblnhjpclaaGreatDoor.topOnlyOpensDone
