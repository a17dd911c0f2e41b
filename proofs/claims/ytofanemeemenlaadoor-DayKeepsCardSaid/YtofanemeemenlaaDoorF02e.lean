/- For all numbers the law DayKeeps returns true, and its arguments read as before; no conditions beyond the card's. -/
import Derived.Test.YtofanemeemenlaaDoorR02
namespace Go.Proofs.YtofanemeemenlaaDoor.dayKeepsDone
open Go Go.Abs Go.Abs.Day Go.Abs.L02 Go.ChangeShapes Go.WideShapes Go.ChangeAt Go.RowKit
set_option linter.unusedVariables false
set_option maxRecDepth 100000
theorem spec {H : Type} : ∀ ds : List (DataW H), ds.length = 4 → Rows.dayKeepsSpec.fn H ds = { results := [.lit (.bool true)], args := ds }
  | [_, _, _, _], _ => rfl
  | [], h => by cases h
  | [_], h => by cases h
  | [_, _], h => by cases h
  | [_, _, _], h => by cases h
  | _ :: _ :: _ :: _ :: _ :: _, h => by simp at h
theorem law : ∀ us, RdVs Tryd.prog 6 Tryd.f7.params.toList us → Go.Abs.Fn Tryd.prog 7 us (.bool true) := by
  intro us h
  obtain ⟨u0, u1, u2, u3, rfl, h0, h1, h2, h3⟩ := rdvs4 h
  obtain ⟨a, rfl, _⟩ := rd3 h0
  obtain ⟨b, rfl, _⟩ := rd3 h1
  obtain ⟨c, rfl, c0, c1⟩ := rd5 h2
  obtain ⟨d, rfl, d0, d1⟩ := rd5 h3
  exact l7 a b c d c0 c1 d0 d1
theorem lifted (os : Os) (started : os.Started) (H : Type) (enc : TypeId × Value → H) :
    ReturnsInHanded {} Tryd.checked os 7 .any (fun w args => (Rows.dayKeepsSpec.pre enc Tryd.prog Tryd.f7 Rows.dayKeepsRow.domain false w args ∧ laidMetH Tryd.prog L3 w) ∧ sizedMet enc Tryd.prog Tryd.f7 (OpenSpec.ofChange Rows.dayKeepsSpec) false w args) (Rows.dayKeepsSpec.post enc Tryd.prog Tryd.f7 false true false false) :=
  law_laid (C := Tryd.checked) (d := 6) own started (by kernel_rfl) Tryd.func7
    (ChangeSpec.witness_shaped (enc := enc) (C := Tryd.checked) (os := os) (X := fun w _ => laidMetH Tryd.prog L3 w) false (World.doorLaid Tryd.prog 400 os) #[.int .i64 0, .int .i64 0, .int .u8 0, .int .u8 0] 8 rfl (World.shaped_of_RefB (by kernel_rfl) (by kernel_rfl)) (by kernel_rfl) (by kernel_rfl) (by kernel_rfl) (door_met os _))
    laidOut (by kernel_rfl) (by kernel_rfl) rfl Tryd.underlying4 rfl spec wi_of law
theorem over : Rows.dayKeepsRow.holds Tryd.pinned (OpenSpec.ofChange Rows.dayKeepsSpec) :=
  OpenClaim.holds_of_wide 7 Tryd.f7 rfl rfl rfl rfl rfl rfl rfl ⟨rfl, rfl, rfl, rfl, rfl⟩ rfl rfl rfl rfl rfl (by kernel_rfl) Tryd.func7 (by kernel_rfl)
    (of_decide_eq_true (by kernel_rfl)) (by unfold Func.isWrapper; first | (rw [if_pos (by decide +kernel)]; kernel_rfl) | (rw [if_neg (by decide +kernel)]; exact ⟨rfl, rfl⟩))
    (fun os started H enc _ => lifted os started H enc)
theorem proved : Rows.DayKeepsCardSaid :=
  Claim7.holds_tied_plain_at .later [] [.data, .data, .data] true _ false
    over (fun _ h => by cases h) (by kernel_rfl) (fun _ h => by cases h) dayKeeps_row_tie rfl ⟨rfl, rfl⟩ (by kernel_rfl) rfl
    (fun f fn hf hfn => by
      obtain rfl : f = 7 := Option.some.inj ((show Tryd.prog.funcNamed Rows.dayKeepsRow.func = some 7 by kernel_rfl).symm.trans hf) |>.symm
      obtain rfl : fn = Tryd.f7 := (Option.some.inj (Tryd.func7.symm.trans hfn)).symm
      exact ⟨by kernel_rfl, fun j t ht => by
        rw [Tryd.params7] at ht
        have hm : t ∈ [3, 5] := by simpa using Array.mem_of_getElem? ht
        have hall : ([3, 5].all fun u => !Tryd.prog.wantsStandIn u) = true := by kernel_rfl
        exact (show Tryd.prog.wantsStandIn t = false by simpa using List.all_eq_true.1 hall t hm)⟩)
    (by kernel_rfl)
end Go.Proofs.YtofanemeemenlaaDoor.dayKeepsDone
