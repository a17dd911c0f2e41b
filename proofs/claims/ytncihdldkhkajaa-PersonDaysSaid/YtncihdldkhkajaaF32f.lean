/- For every person, every dating and every two numbers the law PersonDays returns true, and its arguments read as before; no conditions. -/
import Derived.Test.YtncihdldkhkajaaR32
namespace Go.Proofs.Ytncihdldkhkajaa.personDaysDone
open Go Go.Abs Go.Abs.Day Go.Abs.L32 Go.ChangeShapes Go.WideShapes Go.ChangeAt Go.RowKit
set_option linter.unusedVariables false
set_option maxRecDepth 100000
theorem spec {H : Type} : ∀ ds : List (DataW H), ds.length = 3 → Rows.personDaysSpec.fn H ds = { results := [.lit (.bool true)], args := ds }
  | [_, _, _], _ => rfl
  | [], h => by cases h
  | [_], h => by cases h
  | [_, _], h => by cases h
  | _ :: _ :: _ :: _ :: _, h => by simp at h
theorem law : ∀ us, RdVs Try.prog 6 Try.f8.params.toList us → Go.Abs.Fn Try.prog 8 us (.bool true) := by
  intro us h
  obtain ⟨u0, u1, u2, rfl, h0, h1, h2⟩ := rdvs3 h
  obtain ⟨p, rfl, hp⟩ := rd35 h0
  obtain ⟨d, rfl⟩ := rd28 h1
  obtain ⟨x, y, rfl⟩ := rd54 h2
  exact l8 p hp d x y
theorem lifted (os : Os) (started : os.Started) (H : Type) (enc : TypeId × Value → H) :
    ReturnsInHanded {} Try.checked os 8 .any (Rows.personDaysSpec.pre6 enc Try.prog Try.f8 Rows.personDaysRow.domain false) (Rows.personDaysSpec.post enc Try.prog Try.f8 false true false false) :=
  law_shaped (C := Try.checked) (d := 6) own started (by kernel_rfl) Try.func8
    (ChangeSpec.witness6 (enc := enc) (C := Try.checked) false ⟨#[], #[.agg #[.int .i64 0, .string ⟨#[]⟩, .int .i64 0, .int .i64 0, .int .i64 0, .int .i64 0], .agg #[.int .i64 0, .int .i64 0], .agg #[.int .i64 0, .int .i64 0]], []⟩ 8 (by kernel_rfl) (by kernel_rfl) (by kernel_rfl) (by kernel_rfl))
    laidOut (by kernel_rfl) (by kernel_rfl) rfl Try.underlying4 rfl spec wi_of law
theorem over : Rows.personDaysRow.holds Try.pinned (OpenSpec.ofChange Rows.personDaysSpec) :=
  OpenClaim.holds_of_wide 8 Try.f8 rfl rfl rfl rfl rfl rfl rfl ⟨rfl, rfl, rfl, rfl, rfl⟩ rfl rfl rfl rfl rfl (by kernel_rfl) Try.func8 (by kernel_rfl)
    (of_decide_eq_true (by kernel_rfl)) (by unfold Func.isWrapper; first | (rw [if_pos (by decide +kernel)]; kernel_rfl) | (rw [if_neg (by decide +kernel)]; exact ⟨rfl, rfl⟩))
    (fun os started H enc _ => lifted os started H enc)
theorem proved : Rows.PersonDaysSaid := over
end Go.Proofs.Ytncihdldkhkajaa.personDaysDone
