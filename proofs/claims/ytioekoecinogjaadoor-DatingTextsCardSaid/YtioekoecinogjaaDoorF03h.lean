/- For every dating and every text the law DatingTexts returns true, and its arguments read as before; the listed variables are tied to the program. -/
import Derived.Test.YtioekoecinogjaaDoorR03
import Derived.Test.YtioekoecinogjaaDoorL03e
namespace Go.Proofs.YtioekoecinogjaaDoor.datingTextsDone
open Go Go.Abs Go.Abs.Day Go.Abs.L03 Go.ChangeShapes Go.WideShapes Go.ChangeAt Go.RowKit
set_option linter.unusedVariables false
set_option maxRecDepth 100000
theorem spec {H : Type} : ∀ ds : List (DataW H), ds.length = 2 → Rows.datingTextsSpec.fn H ds = { results := [.lit (.bool true)], args := ds }
  | [_, _], _ => rfl
  | [], h => by cases h
  | [_], h => by cases h
  | _ :: _ :: _ :: _, h => by simp at h
theorem law : ∀ us, RdVs Tryd.prog 6 Tryd.f3.params.toList us → Go.Abs.Fn Tryd.prog 3 us (.bool true) := by
  intro us h
  obtain ⟨u0, u1, rfl, h0, h1⟩ := rdvs2 h
  obtain ⟨a, rfl, _⟩ := rd23 h0
  obtain ⟨l, rfl, hl⟩ := rd9 h1
  exact l3 a l hl
theorem lifted (os : Os) (started : os.Started) (H : Type) (enc : TypeId × Value → H) :
    ReturnsInHanded {} Tryd.checked os 3 .any (fun w args => (Rows.datingTextsSpec.pre enc Tryd.prog Tryd.f3 Rows.datingTextsRow.domain false w args ∧ laidMetH Tryd.prog L3 w) ∧ sizedMet enc Tryd.prog Tryd.f3 (OpenSpec.ofChange Rows.datingTextsSpec) false w args) (Rows.datingTextsSpec.post enc Tryd.prog Tryd.f3 false true false false) :=
  law_laidShaped (C := Tryd.checked) (d := 6) own started (by kernel_rfl) Tryd.func3
    (ChangeSpec.witness_shaped (enc := enc) (C := Tryd.checked) (os := os) (X := fun w _ => laidMetH Tryd.prog L3 w) false (World.doorLaid Tryd.prog 400 os) #[.agg #[.int .i64 0, .int .i64 0], .string ⟨#[]⟩] 8 rfl (World.shaped_of_RefB (by kernel_rfl) (by kernel_rfl)) (by kernel_rfl) (by kernel_rfl) (by kernel_rfl) (door_met os _))
    laidOut (by kernel_rfl) (by kernel_rfl) rfl Tryd.underlying4 rfl spec wi_of law
theorem over : Rows.datingTextsRow.holds Tryd.pinned (OpenSpec.ofChange Rows.datingTextsSpec) :=
  OpenClaim.holds_of_wide 3 Tryd.f3 rfl rfl rfl rfl rfl rfl rfl ⟨rfl, rfl, rfl, rfl, rfl⟩ rfl rfl rfl rfl rfl (by kernel_rfl) Tryd.func3 (by kernel_rfl)
    (of_decide_eq_true (by kernel_rfl)) (by unfold Func.isWrapper; first | (rw [if_pos (by decide +kernel)]; kernel_rfl) | (rw [if_neg (by decide +kernel)]; exact ⟨rfl, rfl⟩))
    (fun os started H enc _ => lifted os started H enc)
theorem proved : Rows.DatingTextsCardSaid :=
  Claim7.holds_tied_plain_at .later [] [.data, .data, .data] true _ false
    over (fun _ h => by cases h) (by kernel_rfl) (fun _ h => by cases h) datingTexts_row_tie rfl ⟨rfl, rfl⟩ (by kernel_rfl) rfl
    (fun f fn hf hfn => by
      obtain rfl : f = 3 := Option.some.inj ((show Tryd.prog.funcNamed Rows.datingTextsRow.func = some 3 by kernel_rfl).symm.trans hf) |>.symm
      obtain rfl : fn = Tryd.f3 := (Option.some.inj (Tryd.func3.symm.trans hfn)).symm
      exact ⟨by kernel_rfl, fun j t ht => by
        rw [Tryd.params3] at ht
        have hm : t ∈ [23, 9] := by simpa using Array.mem_of_getElem? ht
        have hall : ([23, 9].all fun u => !Tryd.prog.wantsStandIn u) = true := by kernel_rfl
        exact (show Tryd.prog.wantsStandIn t = false by simpa using List.all_eq_true.1 hall t hm)⟩)
    (by kernel_rfl)
end Go.Proofs.YtioekoecinogjaaDoor.datingTextsDone
