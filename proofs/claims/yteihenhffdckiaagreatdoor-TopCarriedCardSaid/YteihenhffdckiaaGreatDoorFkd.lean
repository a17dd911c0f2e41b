/- Closed facts of the row and the program, each in a theorem of its own. -/
import Derived.Test.YteihenhffdckiaaGreatDoorFka
import Derived.Test.YteihenhffdckiaaGreatDoorFkb
import Derived.Test.YteihenhffdckiaaGreatDoorFkc
namespace Go.Proofs.YteihenhffdckiaaGreatDoor.topCarriedDone
open Go Go.Abs Go.Abs.Ltop Go.ChangeShapes Go.WideShapes Go.ChangeAt Go.RowKit
set_option linter.unusedVariables false
set_option maxRecDepth 100000
set_option maxHeartbeats 0
theorem k1 : Rows.topCarriedRow.wf (OpenSpec.ofChange Rows.topCarriedSpec) = true := by kernel_rfl
theorem k4 : Tryz.f3.params.all (Tryz.pinned.checked.prog.readableRec ·) = true := by kernel_rfl
theorem k5 : namedTie Tryz.pinned.checked.prog Rows.topCarriedRow.named Rows.topCarriedSpec.vars = true := by kernel_rfl
theorem k6 : (Rows.topCarriedRow.stops == []) = true := by kernel_rfl
theorem k7 : (Tryz.pinned.checked.prog.stops == []) = true := by kernel_rfl
theorem k8 : (Rows.topCarriedRow.knobs == []) = true := by kernel_rfl
theorem k9 : (Tryz.pinned.checked.prog.stopKnobs == []) = true := by kernel_rfl
theorem k14 : (Rows.topCarriedRow.maps == (Tryz.f3.params.toList ++ Rows.topCarriedSpec.plain.varTypes Tryz.pinned.checked.prog).any (Tryz.pinned.checked.prog.mapsRec ·)) = true := by kernel_rfl
theorem k15 : (Rows.topCarriedRow.ifaces == (Tryz.f3.params.toList ++ Rows.topCarriedSpec.plain.varTypes Tryz.pinned.checked.prog).any (Tryz.pinned.checked.prog.ifacesRec ·)) = true := by kernel_rfl
theorem k16 : (Rows.topCarriedRow.mapsOut == Tryz.pinned.checked.prog.mapsAmong Tryz.f3.resultTypes.toList) = true := by kernel_rfl
theorem k17 : (Rows.topCarriedRow.loops == (Tryz.f3.params.toList ++ Rows.topCarriedSpec.plain.varTypes Tryz.pinned.checked.prog).any (Tryz.pinned.checked.prog.loopsFrom ·)) = true := by kernel_rfl
theorem k17b : (Rows.topCarriedRow.wideKeys == (Tryz.f3.params.toList ++ Rows.topCarriedSpec.plain.varTypes Tryz.pinned.checked.prog ++ Tryz.f3.resultTypes.toList).any (Tryz.pinned.checked.prog.wideKeysFrom ·)) = true := by kernel_rfl
theorem k18 : Rows.topCarriedSpec.vars.all (Tryz.pinned.checked.prog.varReadable ·) = true := by kernel_rfl
theorem k19 : Tryz.f3.resultTypes.all (fun t => Tryz.pinned.checked.prog.readableRec t && decide (t < Tryz.pinned.checked.prog.types.size)) = true := by kernel_rfl
theorem k20 : (Rows.topCarriedRow.ifacesOut == Tryz.f3.resultTypes.toList.any (Tryz.pinned.checked.prog.ifacesRec ·)) = true := by kernel_rfl
theorem k21 : (Rows.topCarriedRow.loopsOut == Tryz.f3.resultTypes.toList.any (Tryz.pinned.checked.prog.loopsFrom ·)) = true := by kernel_rfl
theorem k23 : Rows.topCarriedRow.shortTexts.isNone = true := by kernel_rfl
theorem k24b : (Rows.topCarriedRow.lifted == Tryz.pinned.checked.prog.liftsFinal) = true := by kernel_rfl
theorem k24c : (Tryz.pinned.checked.prog.make == some Rows.topCarriedRow.make) = true := by kernel_rfl
theorem k25 : (Rows.topCarriedRow.kinds == (if Rows.topCarriedRow.domain.isEmpty then [] else Tryz.f3.params.toList.map fun t => match Tryz.pinned.checked.prog.underlying t with | some (.int k) => some k | _ => none)) = true := by kernel_rfl
theorem k26 : (Rows.topCarriedRow.pinned == Rows.topCarriedRow.pinnedBy) = true := by kernel_rfl
theorem k27 : (Rows.topCarriedRow.veiled == (Tryz.f3.params.toList ++ Rows.topCarriedSpec.plain.varTypes Tryz.pinned.checked.prog ++ Tryz.f3.resultTypes.toList).any (Tryz.pinned.checked.prog.veiledRec ·)) = true := by kernel_rfl
theorem k28 : Rows.topCarriedRow.veiledFits Tryz.pinned.checked.prog Tryz.f3.params.toList (Tryz.f3.params.toList ++ Rows.topCarriedSpec.plain.varTypes Tryz.pinned.checked.prog ++ Tryz.f3.resultTypes.toList) = true := by kernel_rfl
theorem closed : joinedFacts Tryz.pinned.checked.prog 3 Tryz.f3 Rows.topCarriedSpec Rows.topCarriedRow = true := by
  unfold joinedFacts
  simp only [Bool.and_eq_true]
  exact ⟨⟨⟨⟨⟨⟨⟨⟨⟨⟨⟨⟨⟨⟨⟨⟨⟨⟨⟨⟨⟨⟨⟨⟨⟨⟨⟨⟨⟨⟨⟨k1, k2⟩, k3⟩, k4⟩, k5⟩, k6⟩, k7⟩, k8⟩, k9⟩, k10⟩, k11⟩, k12⟩, k13⟩, k14⟩, k15⟩, k16⟩, k17⟩, k17b⟩, k18⟩, k19⟩, k20⟩, k21⟩, k22⟩, k23⟩, k23b⟩, k24⟩, k24b⟩, k24c⟩, k25⟩, k26⟩, k27⟩, k28⟩
end Go.Proofs.YteihenhffdckiaaGreatDoor.topCarriedDone
