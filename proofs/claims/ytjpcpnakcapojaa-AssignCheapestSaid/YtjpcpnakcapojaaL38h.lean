import Derived.Test.YtjpcpnakcapojaaL38d
import Derived.Test.YtjpcpnakcapojaaQ3
namespace Go.Abs.L38
open Go Go.Abs Go.Proofs
set_option linter.unusedVariables false
set_option maxRecDepth 20000
theorem c15 (T : List (List Int)) (hT : T.length ≤ 9223372036854775807) (hTb : ∀ b ∈ T, b.length ≤ 9223372036854775807) : Fn Try.prog 15 [AA T] (.tup [A (chpL T), I (chpC T), I (prvE T)]) := by
  by_cases hc : chkE T ≠ 0
  · have hp : prvE T = 1 := by rw [prvE, if_pos hc]
    obtain ⟨e1, e2, _, _⟩ := no_chp (T := T) (by rw [hp]; decide)
    rw [e1, e2, hp]
    refine fn_nil_rsl (mk15 rfl ⟨_, c27 T hT hTb, fun h => ⟨_, _, rfl, .inl rfl, rfl, rfl, rfl, rfl, trivial⟩, fun h => ?_⟩)
    simp at h; exact absurd h hc
  have hc : chkE T = 0 := by simpa using hc
  obtain ⟨t0, R⟩ := chk_ok hc
  by_cases he : prvE T = 0
  · have ho := (prv_of hc R).1.1 he
    obtain ⟨g, C⟩ := chp_spec he R
    have eH : colsN T = t0.length := by rw [colsN, headD_of R]
    rw [he]
    refine c15w hT hTb R C hc ho ?_
    rw [leaC, if_pos ho, chpC, if_neg (by rw [he]; simp), eH]
  · have he2 : prvE T = 24 := (prv_of hc R).2.resolve_left he
    obtain ⟨e1, e2, _, _⟩ := no_chp he
    have ho : okP T (freeL T) T.length t0.length = false := by
      have : ¬ okP T (freeL T) T.length t0.length = true := fun h => he ((prv_of hc R).1.2 h)
      simpa only [Bool.not_eq_true] using this
    rw [e1, e2, he2]
    have kc := c27 T hT hTb
    rw [hc] at kc
    have k34 := c34 (tb_of R (F := freeL T) (by simp))
    rw [ho] at k34
    exact fn_nil_rsl (mk15 rfl ⟨_, kc, fun h => (by cases h), fun _ => ⟨_, k34, fun _ => ⟨_, _, rfl, .inl rfl, rfl, rfl, rfl, rfl, trivial⟩, fun h => (by cases h)⟩⟩)
theorem k3 (T : List (List Int)) (hT : T.length ≤ 9223372036854775807) (hTb : ∀ b ∈ T, b.length ≤ 9223372036854775807) : Fn Try.prog 3 [AA T] (.bool true) := by
  refine mk3 rfl ⟨_, k11, fun h => (by cases h), fun _ => ?_⟩
  by_cases hf : fewB T = true
  case neg =>
    have hf : fewB T = false := by simpa using hf
    exact ⟨_, c12 T hT, fun _ => ⟨rfl, rfl, rfl⟩, fun h => (by rw [hf] at h; cases h)⟩
  obtain ⟨h1, h2⟩ := few_len hf
  refine ⟨_, c12 T hT, fun h => (by rw [hf] at h; cases h), fun _ => ?_⟩
  have h13 := c13 T hT hTb
  have h15 := c15 T hT hTb
  have hl : (chpL T).length ≤ 9223372036854775807 := by
    by_cases he : prvE T = 0
    · obtain ⟨t0, R⟩ := chk_ok (chk_of_prv he)
      obtain ⟨g, C⟩ := chp_spec he R
      rw [C.list]; simp; omega
    · obtain ⟨e1, _⟩ := no_chp he
      rw [e1]; simp
  generalize chpL T = L at *
  generalize chpC T = c at *
  generalize prvE T = e at *
  refine ⟨_, c14 T h1 h2, true, _, h13, true, _, h15, ?_⟩
  exact ⟨[(3, true), (8, true)], _, c16 L L hl, by simp, by simp, rfl, rfl, by show AV.bool true = AV.bool (e == e); simp⟩
end Go.Abs.L38
