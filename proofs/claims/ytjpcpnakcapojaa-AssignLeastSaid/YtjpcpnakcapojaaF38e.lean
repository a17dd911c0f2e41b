/- For every table, every list of columns and every two lists of numbers the law AssignLeast returns true, and its arguments read as before; no conditions. -/
import Derived.Test.YtjpcpnakcapojaaL38e
import Derived.Test.YtjpcpnakcapojaaRows
namespace Go.Proofs.Ytjpcpnakcapojaa.assignLeastDone
open Go Go.Abs Go.Abs.L38 Go.ChangeShapes Go.WideShapes Go.ChangeAt Go.RowKit
set_option linter.unusedVariables false
set_option maxRecDepth 100000
theorem own : ownKnob Try.prog.godebug = none := by kernel_rfl
theorem laidOut : laidOutB Try.prog = true := by kernel_rfl
theorem spec {H : Type} : ∀ ds : List (DataW H), ds.length = 3 → Rows.assignLeastSpec.fn H ds = { results := [.lit (.bool true)], args := ds }
  | [_, _, _], _ => rfl
  | [], h => by cases h
  | [_], h => by cases h
  | [_, _], h => by cases h
  | _ :: _ :: _ :: _ :: _, h => by simp at h
theorem law : ∀ us, RdVs Try.prog 6 Try.f10.params.toList us → Go.Abs.Fn Try.prog 10 us (.bool true) := by
  intro us h
  obtain ⟨u0, u1, u2, rfl, h0, h1, h2⟩ := rdvs3 h
  obtain ⟨T, rfl, hT, hTb⟩ := rd22 h0
  obtain ⟨p, rfl, hp, _⟩ := rd25 h1
  obtain ⟨r, k, rfl, hr, hk⟩ := rd32 h2
  exact k10 T p r k hT (fun b hb => (hTb b hb).1) hp hr hk
theorem lifted (os : Os) (started : os.Started) (H : Type) (enc : TypeId × Value → H) :
    ReturnsInHanded {} Try.checked os 10 .any (Rows.assignLeastSpec.pre6 enc Try.prog Try.f10 Rows.assignLeastRow.domain false) (Rows.assignLeastSpec.post enc Try.prog Try.f10 false true false false) :=
  law_lifted (C := Try.checked) (d := 6) own started (by kernel_rfl) Try.func10
    (ChangeSpec.witness6 (enc := enc) (C := Try.checked) false ⟨#[], #[.slice none 0 0, .slice none 0 0, .agg #[.slice none 0 0, .slice none 0 0]], []⟩ 8 (by kernel_rfl) (by kernel_rfl) (by kernel_rfl) (by kernel_rfl))
    laidOut (by kernel_rfl) (by kernel_rfl) rfl Try.underlying4 rfl spec (fun _ => trivial) law
theorem over : Rows.assignLeastRow.holds Try.pinned (OpenSpec.ofChange Rows.assignLeastSpec) :=
  OpenClaim.holds_of_wide 10 Try.f10 rfl rfl rfl rfl rfl rfl rfl ⟨rfl, rfl, rfl, rfl, rfl⟩ rfl rfl rfl rfl rfl (by kernel_rfl) Try.func10 (by kernel_rfl)
    (of_decide_eq_true (by kernel_rfl)) (by unfold Func.isWrapper; first | (rw [if_pos (by decide +kernel)]; kernel_rfl) | (rw [if_neg (by decide +kernel)]; exact ⟨rfl, rfl⟩))
    (fun os started H enc _ => lifted os started H enc)
theorem proved : Rows.AssignLeastSaid := over
end Go.Proofs.Ytjpcpnakcapojaa.assignLeastDone
