/- For every list of numbers and every room the law PackExact returns true, and its arguments read as before; no conditions. -/
import Derived.Test.YtnmpnlhlbjemeaaL39o
import Derived.Test.YtnmpnlhlbjemeaaRows
namespace Go.Proofs.Ytnmpnlhlbjemeaa.packExactDone
open Go Go.Abs Go.Abs.L39 Go.ChangeShapes Go.WideShapes Go.ChangeAt Go.RowKit
set_option linter.unusedVariables false
set_option maxRecDepth 100000
theorem own : ownKnob Try.prog.godebug = none := by kernel_rfl
theorem laidOut : laidOutB Try.prog = true := by kernel_rfl
theorem spec {H : Type} : ∀ ds : List (DataW H), ds.length = 2 → Rows.packExactSpec.fn H ds = { results := [.lit (.bool true)], args := ds }
  | [_, _], _ => rfl
  | [], h => by cases h
  | [_], h => by cases h
  | _ :: _ :: _ :: _, h => by simp at h
theorem law : ∀ us, RdVs Try.prog 6 Try.f4.params.toList us → Go.Abs.Fn Try.prog 4 us (.bool true) := by
  intro us h
  obtain ⟨u0, u1, rfl, h0, h1⟩ := rdvs2 h
  obtain ⟨l, rfl, hl, _⟩ := rd22 h0
  obtain ⟨room, rfl, _⟩ := rd3 h1
  exact l4 l hl room
theorem lifted (os : Os) (started : os.Started) (H : Type) (enc : TypeId × Value → H) :
    ReturnsInHanded {} Try.checked os 4 .any (Rows.packExactSpec.pre6 enc Try.prog Try.f4 Rows.packExactRow.domain false) (Rows.packExactSpec.post enc Try.prog Try.f4 false true false false) :=
  law_lifted (C := Try.checked) (d := 6) own started (by kernel_rfl) Try.func4
    (ChangeSpec.witness6 (enc := enc) (C := Try.checked) false ⟨#[], #[.slice none 0 0, .int .i64 0], []⟩ 8 (by kernel_rfl) (by kernel_rfl) (by kernel_rfl) (by kernel_rfl))
    laidOut (by kernel_rfl) (by kernel_rfl) rfl Try.underlying4 rfl spec (fun _ => trivial) law
theorem over : Rows.packExactRow.holds Try.pinned (OpenSpec.ofChange Rows.packExactSpec) :=
  OpenClaim.holds_of_wide 4 Try.f4 rfl rfl rfl rfl rfl rfl rfl ⟨rfl, rfl, rfl, rfl, rfl⟩ rfl rfl rfl rfl rfl (by kernel_rfl) Try.func4 (by kernel_rfl)
    (of_decide_eq_true (by kernel_rfl)) (by unfold Func.isWrapper; first | (rw [if_pos (by decide +kernel)]; kernel_rfl) | (rw [if_neg (by decide +kernel)]; exact ⟨rfl, rfl⟩))
    (fun os started H enc _ => lifted os started H enc)
theorem proved : Rows.PackExactSaid := over
end Go.Proofs.Ytnmpnlhlbjemeaa.packExactDone
