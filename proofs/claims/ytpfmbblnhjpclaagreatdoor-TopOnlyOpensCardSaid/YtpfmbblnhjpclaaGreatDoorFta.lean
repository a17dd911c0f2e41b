/- For every list of rows, every list of events and every two numbers the law TopOnlyOpens returns true, and its arguments read as before; the listed variables are tied to the program. -/
import Derived.Test.YtpfmbblnhjpclaaGreatDoorFkd
import Derived.Test.YtpfmbblnhjpclaaGreatDoorFke
set_option linter.unusedVariables false
set_option linter.unusedSimpArgs false
set_option maxRecDepth 100000
namespace Go.Proofs.YtpfmbblnhjpclaaGreatDoor.topOnlyOpensDone
open Go Go.an Go.an.ax Go.an.ax.G Go.ChangeShapes Go.WideShapes Go.ChangeAt Go.RowKit
theorem spec{H:Type}:∀ds:List (DataW H),ds.length=3->Rows.topOnlyOpensSpec.fn H ds={results:=[.lit (.bool true)],args:=ds}
 |[_,_,_],_=>rfl
 |[],h=>by cases h
 |[_],h=>by cases h
 |[_,_],h=>by cases h
 |_::_::_::_::_,h=>by simp at h
theorem law:∀us,Ma Tryz.prog 6 Tryz.f3.params.toList us->Go.an.Fn Tryz.prog 3 us (.bool true):=by
 intro us h;exact l3 us h
theorem lifted(os:Os)(started:os.Started)(H:Type)(enc:TypeId×Value->H):
  ReturnsInHanded {} Tryz.checked os 3 .any (λw args=>(Rows.topOnlyOpensSpec.pre enc Tryz.prog Tryz.f3 Rows.topOnlyOpensRow.domain false w args/\laidMetH Tryz.prog L3 w)/\sizedMet enc Tryz.prog Tryz.f3 (OpenSpec.ofChange Rows.topOnlyOpensSpec) false w args) (Rows.topOnlyOpensSpec.post enc Tryz.prog Tryz.f3 false true false false):=
 BI (C:=Tryz.checked) (d:=6) own started (by kernel_rfl) Tryz.func3
  (ChangeSpec.witness_shaped (enc:=enc) (C:=Tryz.checked) (os:=os) (X:=λw _=>laidMetH Tryz.prog L3 w) false (World.doorLaid Tryz.prog 400 os) #[.slice none 0 0,.slice none 0 0,.agg #[.int .i64 0,.int .i64 0]] 8 rfl (World.shaped_of_RefB (by kernel_rfl) (by kernel_rfl)) (by kernel_rfl) (by kernel_rfl) (by kernel_rfl) (Rp os _))
  laidOut (by kernel_rfl) (by kernel_rfl) rfl Tryz.underlying4 rfl spec ahs law
theorem over:Rows.topOnlyOpensRow.holds Tryz.pinned (OpenSpec.ofChange Rows.topOnlyOpensSpec):=
 OpenClaim.holds_of_wide 3 Tryz.f3 rfl rfl rfl rfl rfl rfl rfl ⟨rfl,rfl,rfl,rfl,rfl⟩ rfl rfl rfl rfl rfl (by kernel_rfl) Tryz.func3 closed
  (of_decide_eq_true (by kernel_rfl)) (by unfold Func.isWrapper;first|(rw[if_pos (by decide+kernel)];kernel_rfl)|(rw[if_neg (by decide+kernel)];exact⟨rfl,rfl⟩))
  (λos started H enc _=>lifted os started H enc)
theorem proved:Rows.TopOnlyOpensCardSaid:=
 Claim7.holds_tied_plain_at .later [] [.data,.data,.data] true _ false
  over (λ_ h=>by cases h) (by kernel_rfl) (λ_ h=>by cases h) topOnlyOpens_row_tie rfl ⟨rfl,rfl⟩ (by kernel_rfl) rfl
  (λf fn hf FB=>by
   obtain rfl:f=3:=Option.some.inj ((show Tryz.prog.funcNamed Rows.topOnlyOpensRow.func=some 3 by kernel_rfl).symm.trans hf)|>.symm
   obtain rfl:fn=Tryz.f3:=(Option.some.inj (Tryz.func3.symm.trans FB)).symm;exact⟨by kernel_rfl,λj t ht=>by
    rw[Tryz.params3]at ht;have hm:t∈ [22,23,24]:=by simpa using Array.mem_of_getElem? ht
    have tX:([22,23,24].all λu=> !Tryz.prog.wantsStandIn u)=true:=by kernel_rfl
    exact(show Tryz.prog.wantsStandIn t=false by simpa using List.all_eq_true.1 tX t hm)⟩)
  goesBy
end Go.Proofs.YtpfmbblnhjpclaaGreatDoor.topOnlyOpensDone
