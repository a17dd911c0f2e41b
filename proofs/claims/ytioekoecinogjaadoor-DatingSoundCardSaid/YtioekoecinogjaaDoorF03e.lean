/- For every two datings and every two uint32 the law DatingSound returns true, and its arguments read as before; the listed variables are tied to the program. -/
import Derived.Test.YtioekoecinogjaaDoorR03
import Derived.Test.YtioekoecinogjaaDoorL03c
namespace Go.Proofs.YtioekoecinogjaaDoor.datingSoundDone
open Go Go.Abs Go.Abs.Day Go.Abs.L03 Go.ChangeShapes Go.WideShapes Go.ChangeAt Go.RowKit
set_option linter.unusedVariables false
set_option maxRecDepth 100000
theorem spec {H : Type} : ∀ ds : List (DataW H), ds.length = 4 → Rows.datingSoundSpec.fn H ds = { results := [.lit (.bool true)], args := ds }
  | [_, _, _, _], _ => rfl
  | [], h => by cases h
  | [_], h => by cases h
  | [_, _], h => by cases h
  | [_, _, _], h => by cases h
  | _ :: _ :: _ :: _ :: _ :: _, h => by simp at h
theorem law : ∀ us, RdVs Tryd.prog 6 Tryd.f6.params.toList us → Go.Abs.Fn Tryd.prog 6 us (.bool true) := by
  intro us h
  obtain ⟨u0, u1, u2, u3, rfl, h0, h1, h2, h3⟩ := rdvs4 h
  obtain ⟨a, rfl, _⟩ := rd23 h0
  obtain ⟨b, rfl, _⟩ := rd23 h1
  obtain ⟨x, rfl, x0, x1⟩ := rd35 h2
  obtain ⟨y, rfl, y0, y1⟩ := rd35 h3
  exact l6 a b x y x0 x1 y0 y1
theorem lifted (os : Os) (started : os.Started) (H : Type) (enc : TypeId × Value → H) :
    ReturnsInHanded {} Tryd.checked os 6 .any (fun w args => (Rows.datingSoundSpec.pre enc Tryd.prog Tryd.f6 Rows.datingSoundRow.domain false w args ∧ laidMetH Tryd.prog L3 w) ∧ sizedMet enc Tryd.prog Tryd.f6 (OpenSpec.ofChange Rows.datingSoundSpec) false w args) (Rows.datingSoundSpec.post enc Tryd.prog Tryd.f6 false true false false) :=
  law_laidShaped (C := Tryd.checked) (d := 6) own started (by kernel_rfl) Tryd.func6
    (ChangeSpec.witness_shaped (enc := enc) (C := Tryd.checked) (os := os) (X := fun w _ => laidMetH Tryd.prog L3 w) false (World.doorLaid Tryd.prog 400 os) #[.agg #[.int .i64 0, .int .i64 0], .agg #[.int .i64 0, .int .i64 0], .int .u32 0, .int .u32 0] 8 rfl (World.shaped_of_RefB (by kernel_rfl) (by kernel_rfl)) (by kernel_rfl) (by kernel_rfl) (by kernel_rfl) (door_met os _))
    laidOut (by kernel_rfl) (by kernel_rfl) rfl Tryd.underlying4 rfl spec wi_of law
theorem over : Rows.datingSoundRow.holds Tryd.pinned (OpenSpec.ofChange Rows.datingSoundSpec) :=
  OpenClaim.holds_of_wide 6 Tryd.f6 rfl rfl rfl rfl rfl rfl rfl ⟨rfl, rfl, rfl, rfl, rfl⟩ rfl rfl rfl rfl rfl (by kernel_rfl) Tryd.func6 (by kernel_rfl)
    (of_decide_eq_true (by kernel_rfl)) (by unfold Func.isWrapper; first | (rw [if_pos (by decide +kernel)]; kernel_rfl) | (rw [if_neg (by decide +kernel)]; exact ⟨rfl, rfl⟩))
    (fun os started H enc _ => lifted os started H enc)
theorem proved : Rows.DatingSoundCardSaid :=
  Claim7.holds_tied_plain_at .later [] [.data, .data, .data] true _ false
    over (fun _ h => by cases h) (by kernel_rfl) (fun _ h => by cases h) datingSound_row_tie rfl ⟨rfl, rfl⟩ (by kernel_rfl) rfl
    (fun f fn hf hfn => by
      obtain rfl : f = 6 := Option.some.inj ((show Tryd.prog.funcNamed Rows.datingSoundRow.func = some 6 by kernel_rfl).symm.trans hf) |>.symm
      obtain rfl : fn = Tryd.f6 := (Option.some.inj (Tryd.func6.symm.trans hfn)).symm
      exact ⟨by kernel_rfl, fun j t ht => by
        rw [Tryd.params6] at ht
        have hm : t ∈ [23, 23, 35, 35] := by simpa using Array.mem_of_getElem? ht
        have hall : ([23, 23, 35, 35].all fun u => !Tryd.prog.wantsStandIn u) = true := by kernel_rfl
        exact (show Tryd.prog.wantsStandIn t = false by simpa using List.all_eq_true.1 hall t hm)⟩)
    (by kernel_rfl)
end Go.Proofs.YtioekoecinogjaaDoor.datingSoundDone
