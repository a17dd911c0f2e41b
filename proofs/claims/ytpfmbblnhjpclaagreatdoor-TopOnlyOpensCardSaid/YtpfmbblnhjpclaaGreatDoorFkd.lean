import Derived.Test.YtpfmbblnhjpclaaGreatDoorFka
import Derived.Test.YtpfmbblnhjpclaaGreatDoorFkb
import Derived.Test.YtpfmbblnhjpclaaGreatDoorFkc
set_option linter.unusedVariables false
set_option linter.unusedSimpArgs false
set_option maxRecDepth 100000
namespace Go.Proofs.YtpfmbblnhjpclaaGreatDoor.topOnlyOpensDone
open Go Go.an Go.an.ax Go.an.ax.G Go.ChangeShapes Go.WideShapes Go.ChangeAt Go.RowKit
set_option maxHeartbeats 0
theorem k1:Rows.topOnlyOpensRow.wf (OpenSpec.ofChange Rows.topOnlyOpensSpec)=true:=by kernel_rfl
theorem k4:Tryz.f3.params.all (Tryz.pinned.checked.prog.readableRec ·)=true:=by kernel_rfl
theorem k5:namedTie Tryz.pinned.checked.prog Rows.topOnlyOpensRow.named Rows.topOnlyOpensSpec.vars=true:=by kernel_rfl
theorem k6:(Rows.topOnlyOpensRow.stops==[])=true:=by kernel_rfl
theorem k7:(Tryz.pinned.checked.prog.stops==[])=true:=by kernel_rfl
theorem k8:(Rows.topOnlyOpensRow.knobs==[])=true:=by kernel_rfl
theorem k9:(Tryz.pinned.checked.prog.stopKnobs==[])=true:=by kernel_rfl
theorem k14:(Rows.topOnlyOpensRow.maps==(Tryz.f3.params.toList++Rows.topOnlyOpensSpec.plain.varTypes Tryz.pinned.checked.prog).any (Tryz.pinned.checked.prog.mapsRec ·))=true:=by kernel_rfl
theorem k15:(Rows.topOnlyOpensRow.ifaces==(Tryz.f3.params.toList++Rows.topOnlyOpensSpec.plain.varTypes Tryz.pinned.checked.prog).any (Tryz.pinned.checked.prog.ifacesRec ·))=true:=by kernel_rfl
theorem k16:(Rows.topOnlyOpensRow.mapsOut==Tryz.pinned.checked.prog.mapsAmong Tryz.f3.resultTypes.toList)=true:=by kernel_rfl
theorem k17:(Rows.topOnlyOpensRow.loops==(Tryz.f3.params.toList++Rows.topOnlyOpensSpec.plain.varTypes Tryz.pinned.checked.prog).any (Tryz.pinned.checked.prog.loopsFrom ·))=true:=by kernel_rfl
theorem amS:(Rows.topOnlyOpensRow.wideKeys==(Tryz.f3.params.toList++Rows.topOnlyOpensSpec.plain.varTypes Tryz.pinned.checked.prog++Tryz.f3.resultTypes.toList).any (Tryz.pinned.checked.prog.wideKeysFrom ·))=true:=by kernel_rfl
theorem k18:Rows.topOnlyOpensSpec.vars.all (Tryz.pinned.checked.prog.varReadable ·)=true:=by kernel_rfl
theorem k19:Tryz.f3.resultTypes.all (λt=>Tryz.pinned.checked.prog.readableRec t&&decide (t<Tryz.pinned.checked.prog.types.size))=true:=by kernel_rfl
theorem k20:(Rows.topOnlyOpensRow.ifacesOut==Tryz.f3.resultTypes.toList.any (Tryz.pinned.checked.prog.ifacesRec ·))=true:=by kernel_rfl
theorem k21:(Rows.topOnlyOpensRow.loopsOut==Tryz.f3.resultTypes.toList.any (Tryz.pinned.checked.prog.loopsFrom ·))=true:=by kernel_rfl
theorem k23:Rows.topOnlyOpensRow.shortTexts.isNone=true:=by kernel_rfl
theorem amT:(Rows.topOnlyOpensRow.lifted==Tryz.pinned.checked.prog.liftsFinal)=true:=by kernel_rfl
theorem amU:(Tryz.pinned.checked.prog.make==some Rows.topOnlyOpensRow.make)=true:=by kernel_rfl
theorem k25:(Rows.topOnlyOpensRow.kinds==(if Rows.topOnlyOpensRow.domain.isEmpty then[]else Tryz.f3.params.toList.map λt=>match Tryz.pinned.checked.prog.underlying t with|some (.int k)=>some k|_=>none))=true:=by kernel_rfl
theorem k26:(Rows.topOnlyOpensRow.pinned==Rows.topOnlyOpensRow.pinnedBy)=true:=by kernel_rfl
theorem k27:(Rows.topOnlyOpensRow.veiled==(Tryz.f3.params.toList++Rows.topOnlyOpensSpec.plain.varTypes Tryz.pinned.checked.prog++Tryz.f3.resultTypes.toList).any (Tryz.pinned.checked.prog.veiledRec ·))=true:=by kernel_rfl
theorem k28:Rows.topOnlyOpensRow.veiledFits Tryz.pinned.checked.prog Tryz.f3.params.toList (Tryz.f3.params.toList++Rows.topOnlyOpensSpec.plain.varTypes Tryz.pinned.checked.prog++Tryz.f3.resultTypes.toList)=true:=by kernel_rfl
theorem closed:joinedFacts Tryz.pinned.checked.prog 3 Tryz.f3 Rows.topOnlyOpensSpec Rows.topOnlyOpensRow=true:=by
 unfold joinedFacts;simp only[Bool.and_eq_true];exact⟨⟨⟨⟨⟨⟨⟨⟨⟨⟨⟨⟨⟨⟨⟨⟨⟨⟨⟨⟨⟨⟨⟨⟨⟨⟨⟨⟨⟨⟨⟨k1,k2⟩,k3⟩,k4⟩,k5⟩,k6⟩,k7⟩,k8⟩,k9⟩,k10⟩,k11⟩,k12⟩,k13⟩,k14⟩,k15⟩,k16⟩,k17⟩,amS⟩,k18⟩,k19⟩,k20⟩,k21⟩,k22⟩,k23⟩,amR⟩,k24⟩,amT⟩,amU⟩,k25⟩,k26⟩,k27⟩,k28⟩
end Go.Proofs.YtpfmbblnhjpclaaGreatDoor.topOnlyOpensDone
