/- For every table the law AssignProves returns true, and its argument reads as before; no conditions. -/
import Derived.Test.YtjpcpnakcapojaaL38d
import Derived.Test.YtjpcpnakcapojaaRows
namespace Go.Proofs.Ytjpcpnakcapojaa.assignProvesDone
open Go Go.Abs Go.Abs.L38 Go.ChangeShapes Go.WideShapes Go.ChangeAt Go.RowKit
set_option linter.unusedVariables false
set_option maxRecDepth 100000
theorem own : ownKnob Try.prog.godebug = none := by kernel_rfl
theorem laidOut : laidOutB Try.prog = true := by kernel_rfl
theorem spec {H : Type} : ∀ ds : List (DataW H), ds.length = 1 → Rows.assignProvesSpec.fn H ds = { results := [.lit (.bool true)], args := ds }
  | [_], _ => rfl
  | [], h => by cases h
  | _ :: _ :: _, h => by simp at h
theorem law : ∀ us, RdVs Try.prog 6 Try.f9.params.toList us → Go.Abs.Fn Try.prog 9 us (.bool true) := by
  intro us h
  obtain ⟨u0, rfl, h0⟩ := rdvs1 h
  obtain ⟨T, rfl, hT, hTb⟩ := rd22 h0
  exact k9 T hT (fun b hb => (hTb b hb).1)
theorem lifted (os : Os) (started : os.Started) (H : Type) (enc : TypeId × Value → H) :
    ReturnsInHanded {} Try.checked os 9 .any (Rows.assignProvesSpec.pre6 enc Try.prog Try.f9 Rows.assignProvesRow.domain false) (Rows.assignProvesSpec.post enc Try.prog Try.f9 false true false false) :=
  law_lifted (C := Try.checked) (d := 6) own started (by kernel_rfl) Try.func9
    (ChangeSpec.witness6 (enc := enc) (C := Try.checked) false ⟨#[], #[.slice none 0 0], []⟩ 8 (by kernel_rfl) (by kernel_rfl) (by kernel_rfl) (by kernel_rfl))
    laidOut (by kernel_rfl) (by kernel_rfl) rfl Try.underlying4 rfl spec (fun _ => trivial) law
theorem over : Rows.assignProvesRow.holds Try.pinned (OpenSpec.ofChange Rows.assignProvesSpec) :=
  OpenClaim.holds_of_wide 9 Try.f9 rfl rfl rfl rfl rfl rfl rfl ⟨rfl, rfl, rfl, rfl, rfl⟩ rfl rfl rfl rfl rfl (by kernel_rfl) Try.func9 (by kernel_rfl)
    (of_decide_eq_true (by kernel_rfl)) (by unfold Func.isWrapper; first | (rw [if_pos (by decide +kernel)]; kernel_rfl) | (rw [if_neg (by decide +kernel)]; exact ⟨rfl, rfl⟩))
    (fun os started H enc _ => lifted os started H enc)
theorem proved : Rows.AssignProvesSaid := over
end Go.Proofs.Ytjpcpnakcapojaa.assignProvesDone
