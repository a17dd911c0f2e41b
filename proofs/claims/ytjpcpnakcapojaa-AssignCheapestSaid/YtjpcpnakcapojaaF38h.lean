/- For every table the law AssignCheapest returns true, and its argument reads as before; no conditions. -/
import Derived.Test.YtjpcpnakcapojaaL38h
import Derived.Test.YtjpcpnakcapojaaRows
namespace Go.Proofs.Ytjpcpnakcapojaa.assignCheapestDone
open Go Go.Abs Go.Abs.L38 Go.ChangeShapes Go.WideShapes Go.ChangeAt Go.RowKit
set_option linter.unusedVariables false
set_option maxRecDepth 100000
theorem own : ownKnob Try.prog.godebug = none := by kernel_rfl
theorem laidOut : laidOutB Try.prog = true := by kernel_rfl
theorem spec {H : Type} : ∀ ds : List (DataW H), ds.length = 1 → Rows.assignCheapestSpec.fn H ds = { results := [.lit (.bool true)], args := ds }
  | [_], _ => rfl
  | [], h => by cases h
  | _ :: _ :: _, h => by simp at h
theorem law : ∀ us, RdVs Try.prog 6 Try.f3.params.toList us → Go.Abs.Fn Try.prog 3 us (.bool true) := by
  intro us h
  obtain ⟨u0, rfl, h0⟩ := rdvs1 h
  obtain ⟨T, rfl, hT, hTb⟩ := rd22 h0
  exact k3 T hT (fun b hb => (hTb b hb).1)
theorem lifted (os : Os) (started : os.Started) (H : Type) (enc : TypeId × Value → H) :
    ReturnsInHanded {} Try.checked os 3 .any (Rows.assignCheapestSpec.pre6 enc Try.prog Try.f3 Rows.assignCheapestRow.domain false) (Rows.assignCheapestSpec.post enc Try.prog Try.f3 false true false false) :=
  law_lifted (C := Try.checked) (d := 6) own started (by kernel_rfl) Try.func3
    (ChangeSpec.witness6 (enc := enc) (C := Try.checked) false ⟨#[], #[.slice none 0 0], []⟩ 8 (by kernel_rfl) (by kernel_rfl) (by kernel_rfl) (by kernel_rfl))
    laidOut (by kernel_rfl) (by kernel_rfl) rfl Try.underlying4 rfl spec (fun _ => trivial) law
theorem over : Rows.assignCheapestRow.holds Try.pinned (OpenSpec.ofChange Rows.assignCheapestSpec) :=
  OpenClaim.holds_of_wide 3 Try.f3 rfl rfl rfl rfl rfl rfl rfl ⟨rfl, rfl, rfl, rfl, rfl⟩ rfl rfl rfl rfl rfl (by kernel_rfl) Try.func3 (by kernel_rfl)
    (of_decide_eq_true (by kernel_rfl)) (by unfold Func.isWrapper; first | (rw [if_pos (by decide +kernel)]; kernel_rfl) | (rw [if_neg (by decide +kernel)]; exact ⟨rfl, rfl⟩))
    (fun os started H enc _ => lifted os started H enc)
theorem proved : Rows.AssignCheapestSaid := over
end Go.Proofs.Ytjpcpnakcapojaa.assignCheapestDone
