/- For every list of persons, every four datings and every number the law PersonOrder returns true, and its arguments read as before; no conditions. -/
import Derived.Test.YtncihdldkhkajaaR32
namespace Go.Proofs.Ytncihdldkhkajaa.personOrderDone
open Go Go.Abs Go.Abs.Day Go.Abs.L32 Go.ChangeShapes Go.WideShapes Go.ChangeAt Go.RowKit
set_option linter.unusedVariables false
set_option maxRecDepth 100000
theorem spec {H : Type} : ∀ ds : List (DataW H), ds.length = 3 → Rows.personOrderSpec.fn H ds = { results := [.lit (.bool true)], args := ds }
  | [_, _, _], _ => rfl
  | [], h => by cases h
  | [_], h => by cases h
  | [_, _], h => by cases h
  | _ :: _ :: _ :: _ :: _, h => by simp at h
theorem law : ∀ us, RdVs Try.prog 6 Try.f4.params.toList us → Go.Abs.Fn Try.prog 4 us (.bool true) := by
  intro us h
  obtain ⟨u0, u1, u2, rfl, h0, h1, h2⟩ := rdvs3 h
  obtain ⟨l, rfl, hl, hz⟩ := rd22 h0
  obtain ⟨a, b, c, d, e, f, g, k, rfl⟩ := rd39 h1
  obtain ⟨id, rfl, _⟩ := rd3 h2
  exact l4 l hl hz a b c d e f g k id
theorem lifted (os : Os) (started : os.Started) (H : Type) (enc : TypeId × Value → H) :
    ReturnsInHanded {} Try.checked os 4 .any (Rows.personOrderSpec.pre6 enc Try.prog Try.f4 Rows.personOrderRow.domain false) (Rows.personOrderSpec.post enc Try.prog Try.f4 false true false false) :=
  law_shaped (C := Try.checked) (d := 6) own started (by kernel_rfl) Try.func4
    (ChangeSpec.witness6 (enc := enc) (C := Try.checked) false ⟨#[], #[.slice none 0 0, .agg #[.int .i64 0, .int .i64 0, .int .i64 0, .int .i64 0, .int .i64 0, .int .i64 0, .int .i64 0, .int .i64 0], .int .i64 0], []⟩ 8 (by kernel_rfl) (by kernel_rfl) (by kernel_rfl) (by kernel_rfl))
    laidOut (by kernel_rfl) (by kernel_rfl) rfl Try.underlying4 rfl spec wi_of law
theorem over : Rows.personOrderRow.holds Try.pinned (OpenSpec.ofChange Rows.personOrderSpec) :=
  OpenClaim.holds_of_wide 4 Try.f4 rfl rfl rfl rfl rfl rfl rfl ⟨rfl, rfl, rfl, rfl, rfl⟩ rfl rfl rfl rfl rfl (by kernel_rfl) Try.func4 (by kernel_rfl)
    (of_decide_eq_true (by kernel_rfl)) (by unfold Func.isWrapper; first | (rw [if_pos (by decide +kernel)]; kernel_rfl) | (rw [if_neg (by decide +kernel)]; exact ⟨rfl, rfl⟩))
    (fun os started H enc _ => lifted os started H enc)
theorem proved : Rows.PersonOrderSaid := over
end Go.Proofs.Ytncihdldkhkajaa.personOrderDone
