/- For every table and every further column the law AssignWider returns true, and its arguments read as before; no conditions. -/
import Derived.Test.YtjpcpnakcapojaaL38i
import Derived.Test.YtjpcpnakcapojaaRows
namespace Go.Proofs.Ytjpcpnakcapojaa.assignWiderDone
open Go Go.Abs Go.Abs.L38 Go.ChangeShapes Go.WideShapes Go.ChangeAt Go.RowKit
set_option linter.unusedVariables false
set_option maxRecDepth 100000
theorem own : ownKnob Try.prog.godebug = none := by kernel_rfl
theorem laidOut : laidOutB Try.prog = true := by kernel_rfl
theorem spec {H : Type} : ∀ ds : List (DataW H), ds.length = 2 → Rows.assignWiderSpec.fn H ds = { results := [.lit (.bool true)], args := ds }
  | [_, _], _ => rfl
  | [], h => by cases h
  | [_], h => by cases h
  | _ :: _ :: _ :: _, h => by simp at h
theorem law : ∀ us, RdVs Try.prog 6 Try.f5.params.toList us → Go.Abs.Fn Try.prog 5 us (.bool true) := by
  intro us h
  obtain ⟨u0, u1, rfl, h0, h1⟩ := rdvs2 h
  obtain ⟨T, rfl, hT, hTb⟩ := rd22 h0
  obtain ⟨s, rfl, hs, _⟩ := rd25 h1
  exact k5 T s hT (fun b hb => (hTb b hb).1) hs
theorem lifted (os : Os) (started : os.Started) (H : Type) (enc : TypeId × Value → H) :
    ReturnsInHanded {} Try.checked os 5 .any (Rows.assignWiderSpec.pre6 enc Try.prog Try.f5 Rows.assignWiderRow.domain false) (Rows.assignWiderSpec.post enc Try.prog Try.f5 false true false false) :=
  law_lifted (C := Try.checked) (d := 6) own started (by kernel_rfl) Try.func5
    (ChangeSpec.witness6 (enc := enc) (C := Try.checked) false ⟨#[], #[.slice none 0 0, .slice none 0 0], []⟩ 8 (by kernel_rfl) (by kernel_rfl) (by kernel_rfl) (by kernel_rfl))
    laidOut (by kernel_rfl) (by kernel_rfl) rfl Try.underlying4 rfl spec (fun _ => trivial) law
theorem over : Rows.assignWiderRow.holds Try.pinned (OpenSpec.ofChange Rows.assignWiderSpec) :=
  OpenClaim.holds_of_wide 5 Try.f5 rfl rfl rfl rfl rfl rfl rfl ⟨rfl, rfl, rfl, rfl, rfl⟩ rfl rfl rfl rfl rfl (by kernel_rfl) Try.func5 (by kernel_rfl)
    (of_decide_eq_true (by kernel_rfl)) (by unfold Func.isWrapper; first | (rw [if_pos (by decide +kernel)]; kernel_rfl) | (rw [if_neg (by decide +kernel)]; exact ⟨rfl, rfl⟩))
    (fun os started H enc _ => lifted os started H enc)
theorem proved : Rows.AssignWiderSaid := over
end Go.Proofs.Ytjpcpnakcapojaa.assignWiderDone
