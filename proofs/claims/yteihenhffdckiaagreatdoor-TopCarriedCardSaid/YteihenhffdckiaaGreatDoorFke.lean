/- No function of the program starts a goroutine, so the row's call starts none. -/
import Derived.Test.YteihenhffdckiaaGreatDoorJ26
namespace Go.Proofs.YteihenhffdckiaaGreatDoor.topCarriedDone
open Go Go.Abs Go.Abs.Ltop Go.ChangeShapes Go.WideShapes Go.ChangeAt Go.RowKit
set_option linter.unusedVariables false
set_option maxRecDepth 100000
theorem noGo : Tryz.pinned.checked.prog.funcs.any Func.goes = false := by kernel_rfl
theorem goes_of {P : Program} (h : P.funcs.any Func.goes = false) (f : FuncId) : P.goes f = false := by
  have hs : ∀ g : FuncId, (P.funcs[g]?).any Func.goes = false := by
    intro g
    cases hg : P.funcs[g]? with
    | none => rfl
    | some fn =>
      have hm := Array.mem_of_getElem? hg
      rw [Array.any_eq_false'] at h
      simpa using h fn hm
  unfold Program.goes
  rw [h, Bool.and_false, Bool.or_false, List.any_eq_false]
  intro g _
  rw [hs g]; decide
theorem goesBy : false = Rows.topCarriedRow.goesBy Tryz.pinned.checked.prog := by
  have h : Rows.topCarriedRow.start = .entering := rfl
  unfold OpenClaim.goesBy Program.goesAt Program.goesFrom
  rw [h]
  cases Tryz.pinned.checked.prog.funcNamed Rows.topCarriedRow.func with
  | none => rfl
  | some f => simp only [Option.any_some, goes_of noGo f, Bool.or_false]
end Go.Proofs.YteihenhffdckiaaGreatDoor.topCarriedDone
