import Derived.Test.YtpfmbblnhjpclaaGreatDoorJ45
set_option linter.unusedVariables false
set_option linter.unusedSimpArgs false
set_option maxRecDepth 100000
namespace Go.Proofs.YtpfmbblnhjpclaaGreatDoor.topOnlyOpensDone
open Go Go.an Go.an.ax Go.an.ax.G Go.ChangeShapes Go.WideShapes Go.ChangeAt Go.RowKit
theorem amV:Tryz.pinned.checked.prog.funcs.any Func.goes=false:=by kernel_rfl
theorem UT{P:Program}(h:P.funcs.any Func.goes=false)(f:FuncId):P.goes f=false:=by
 have hs:∀g:FuncId,(P.funcs[g]?).any Func.goes=false:=by
  intro g
  cases hg:P.funcs[g]? with
  |none=>rfl
  |some fn=>
   have hm:=Array.mem_of_getElem? hg;rw[Array.any_eq_false']at h;simpa using h fn hm
 unfold Program.goes;rw[h,Bool.and_false,Bool.or_false,List.any_eq_false];intro g _;rw[hs g];decide
theorem goesBy:false=Rows.topOnlyOpensRow.goesBy Tryz.pinned.checked.prog:=by
 have h:Rows.topOnlyOpensRow.start=.entering:=rfl;unfold OpenClaim.goesBy Program.goesAt Program.goesFrom;rw[h]
 cases Tryz.pinned.checked.prog.funcNamed Rows.topOnlyOpensRow.func with
 |none=>rfl
 |some f=>simp only[Option.any_some,UT amV f,Bool.or_false]
end Go.Proofs.YtpfmbblnhjpclaaGreatDoor.topOnlyOpensDone
