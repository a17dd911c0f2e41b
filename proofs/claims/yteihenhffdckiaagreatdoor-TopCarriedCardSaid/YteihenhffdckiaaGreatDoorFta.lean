/- For every list of shelves, every list of boxes and every three lists of numbers the law TopCarried returns true, and its arguments read as before; the listed variables are tied to the program. -/
import Derived.Test.YteihenhffdckiaaGreatDoorFkd
import Derived.Test.YteihenhffdckiaaGreatDoorFke
namespace Go.Proofs.YteihenhffdckiaaGreatDoor.topCarriedDone
open Go Go.Abs Go.Abs.Ltop Go.ChangeShapes Go.WideShapes Go.ChangeAt Go.RowKit
set_option linter.unusedVariables false
set_option maxRecDepth 100000
theorem spec {H : Type} : ∀ ds : List (DataW H), ds.length = 3 → Rows.topCarriedSpec.fn H ds = { results := [.lit (.bool true)], args := ds }
  | [_, _, _], _ => rfl
  | [], h => by cases h
  | [_], h => by cases h
  | [_, _], h => by cases h
  | _ :: _ :: _ :: _ :: _, h => by simp at h
theorem law : ∀ us, RdVs Tryz.prog 6 Tryz.f3.params.toList us → Go.Abs.Fn Tryz.prog 3 us (.bool true) := by
  intro us h
  exact l3 us h
theorem lifted (os : Os) (started : os.Started) (H : Type) (enc : TypeId × Value → H) :
    ReturnsInHanded {} Tryz.checked os 3 .any (fun w args => (Rows.topCarriedSpec.pre enc Tryz.prog Tryz.f3 Rows.topCarriedRow.domain false w args ∧ laidMetH Tryz.prog L3 w) ∧ sizedMet enc Tryz.prog Tryz.f3 (OpenSpec.ofChange Rows.topCarriedSpec) false w args) (Rows.topCarriedSpec.post enc Tryz.prog Tryz.f3 false true false false) :=
  law_laid (C := Tryz.checked) (d := 6) own started (by kernel_rfl) Tryz.func3
    (ChangeSpec.witness_shaped (enc := enc) (C := Tryz.checked) (os := os) (X := fun w _ => laidMetH Tryz.prog L3 w) false (World.doorLaid Tryz.prog 400 os) #[.slice none 0 0, .slice none 0 0, .agg #[.slice none 0 0, .slice none 0 0, .slice none 0 0]] 8 rfl (World.shaped_of_RefB (by kernel_rfl) (by kernel_rfl)) (by kernel_rfl) (by kernel_rfl) (by kernel_rfl) (door_met os _))
    laidOut (by kernel_rfl) (by kernel_rfl) rfl Tryz.underlying4 rfl spec (fun _ _ => trivial) law
theorem over : Rows.topCarriedRow.holds Tryz.pinned (OpenSpec.ofChange Rows.topCarriedSpec) :=
  OpenClaim.holds_of_wide 3 Tryz.f3 rfl rfl rfl rfl rfl rfl rfl ⟨rfl, rfl, rfl, rfl, rfl⟩ rfl rfl rfl rfl rfl (by kernel_rfl) Tryz.func3 closed
    (of_decide_eq_true (by kernel_rfl)) (by unfold Func.isWrapper; first | (rw [if_pos (by decide +kernel)]; kernel_rfl) | (rw [if_neg (by decide +kernel)]; exact ⟨rfl, rfl⟩))
    (fun os started H enc _ => lifted os started H enc)
theorem proved : Rows.TopCarriedCardSaid :=
  Claim7.holds_tied_plain_at .later [] [.data, .data, .data] true _ false
    over (fun _ h => by cases h) (by kernel_rfl) (fun _ h => by cases h) topCarried_row_tie rfl ⟨rfl, rfl⟩ (by kernel_rfl) rfl
    (fun f fn hf hfn => by
      obtain rfl : f = 3 := Option.some.inj ((show Tryz.prog.funcNamed Rows.topCarriedRow.func = some 3 by kernel_rfl).symm.trans hf) |>.symm
      obtain rfl : fn = Tryz.f3 := (Option.some.inj (Tryz.func3.symm.trans hfn)).symm
      exact ⟨by kernel_rfl, fun j t ht => by
        rw [Tryz.params3] at ht
        have hm : t ∈ [22, 23, 25] := by simpa using Array.mem_of_getElem? ht
        have hall : ([22, 23, 25].all fun u => !Tryz.prog.wantsStandIn u) = true := by kernel_rfl
        exact (show Tryz.prog.wantsStandIn t = false by simpa using List.all_eq_true.1 hall t hm)⟩)
    goesBy
end Go.Proofs.YteihenhffdckiaaGreatDoor.topCarriedDone
