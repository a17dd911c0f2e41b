/- For every table and every list of columns the law AssignChecks returns true, and its arguments read as before; no conditions. -/
import Derived.Test.YtjpcpnakcapojaaL38c
import Derived.Test.YtjpcpnakcapojaaRows
namespace Go.Proofs.Ytjpcpnakcapojaa.assignChecksDone
open Go Go.Abs Go.Abs.L38 Go.ChangeShapes Go.WideShapes Go.ChangeAt Go.RowKit
set_option linter.unusedVariables false
set_option maxRecDepth 100000
theorem own : ownKnob Try.prog.godebug = none := by kernel_rfl
theorem laidOut : laidOutB Try.prog = true := by kernel_rfl
theorem spec {H : Type} : ∀ ds : List (DataW H), ds.length = 2 → Rows.assignChecksSpec.fn H ds = { results := [.lit (.bool true)], args := ds }
  | [_, _], _ => rfl
  | [], h => by cases h
  | [_], h => by cases h
  | _ :: _ :: _ :: _, h => by simp at h
theorem law : ∀ us, RdVs Try.prog 6 Try.f8.params.toList us → Go.Abs.Fn Try.prog 8 us (.bool true) := by
  intro us h
  obtain ⟨u0, u1, rfl, h0, h1⟩ := rdvs2 h
  obtain ⟨T, rfl, hT, hTb⟩ := rd22 h0
  obtain ⟨p, rfl, hp, _⟩ := rd25 h1
  exact k8 T p hT (fun b hb => (hTb b hb).1) hp
theorem lifted (os : Os) (started : os.Started) (H : Type) (enc : TypeId × Value → H) :
    ReturnsInHanded {} Try.checked os 8 .any (Rows.assignChecksSpec.pre6 enc Try.prog Try.f8 Rows.assignChecksRow.domain false) (Rows.assignChecksSpec.post enc Try.prog Try.f8 false true false false) :=
  law_lifted (C := Try.checked) (d := 6) own started (by kernel_rfl) Try.func8
    (ChangeSpec.witness6 (enc := enc) (C := Try.checked) false ⟨#[], #[.slice none 0 0, .slice none 0 0], []⟩ 8 (by kernel_rfl) (by kernel_rfl) (by kernel_rfl) (by kernel_rfl))
    laidOut (by kernel_rfl) (by kernel_rfl) rfl Try.underlying4 rfl spec (fun _ => trivial) law
theorem over : Rows.assignChecksRow.holds Try.pinned (OpenSpec.ofChange Rows.assignChecksSpec) :=
  OpenClaim.holds_of_wide 8 Try.f8 rfl rfl rfl rfl rfl rfl rfl ⟨rfl, rfl, rfl, rfl, rfl⟩ rfl rfl rfl rfl rfl (by kernel_rfl) Try.func8 (by kernel_rfl)
    (of_decide_eq_true (by kernel_rfl)) (by unfold Func.isWrapper; first | (rw [if_pos (by decide +kernel)]; kernel_rfl) | (rw [if_neg (by decide +kernel)]; exact ⟨rfl, rfl⟩))
    (fun os started H enc _ => lifted os started H enc)
theorem proved : Rows.AssignChecksSaid := over
end Go.Proofs.Ytjpcpnakcapojaa.assignChecksDone
