/- For every list of persons and every number the law PersonChecks returns true, and its arguments read as before; no conditions. -/
import Derived.Test.YtncihdldkhkajaaR32
namespace Go.Proofs.Ytncihdldkhkajaa.personChecksDone
open Go Go.Abs Go.Abs.Day Go.Abs.L32 Go.ChangeShapes Go.WideShapes Go.ChangeAt Go.RowKit
set_option linter.unusedVariables false
set_option maxRecDepth 100000
theorem spec {H : Type} : ∀ ds : List (DataW H), ds.length = 2 → Rows.personChecksSpec.fn H ds = { results := [.lit (.bool true)], args := ds }
  | [_, _], _ => rfl
  | [], h => by cases h
  | [_], h => by cases h
  | _ :: _ :: _ :: _, h => by simp at h
theorem law : ∀ us, RdVs Try.prog 6 Try.f6.params.toList us → Go.Abs.Fn Try.prog 6 us (.bool true) := by
  intro us h
  obtain ⟨u0, u1, rfl, h0, h1⟩ := rdvs2 h
  obtain ⟨l, rfl, hl, hz⟩ := rd22 h0
  obtain ⟨id, rfl, _⟩ := rd3 h1
  exact l6 l hl hz id
theorem lifted (os : Os) (started : os.Started) (H : Type) (enc : TypeId × Value → H) :
    ReturnsInHanded {} Try.checked os 6 .any (Rows.personChecksSpec.pre6 enc Try.prog Try.f6 Rows.personChecksRow.domain false) (Rows.personChecksSpec.post enc Try.prog Try.f6 false true false false) :=
  law_shaped (C := Try.checked) (d := 6) own started (by kernel_rfl) Try.func6
    (ChangeSpec.witness6 (enc := enc) (C := Try.checked) false ⟨#[], #[.slice none 0 0, .int .i64 0], []⟩ 8 (by kernel_rfl) (by kernel_rfl) (by kernel_rfl) (by kernel_rfl))
    laidOut (by kernel_rfl) (by kernel_rfl) rfl Try.underlying4 rfl spec wi_of law
theorem over : Rows.personChecksRow.holds Try.pinned (OpenSpec.ofChange Rows.personChecksSpec) :=
  OpenClaim.holds_of_wide 6 Try.f6 rfl rfl rfl rfl rfl rfl rfl ⟨rfl, rfl, rfl, rfl, rfl⟩ rfl rfl rfl rfl rfl (by kernel_rfl) Try.func6 (by kernel_rfl)
    (of_decide_eq_true (by kernel_rfl)) (by unfold Func.isWrapper; first | (rw [if_pos (by decide +kernel)]; kernel_rfl) | (rw [if_neg (by decide +kernel)]; exact ⟨rfl, rfl⟩))
    (fun os started H enc _ => lifted os started H enc)
theorem proved : Rows.PersonChecksSaid := over
end Go.Proofs.Ytncihdldkhkajaa.personChecksDone
