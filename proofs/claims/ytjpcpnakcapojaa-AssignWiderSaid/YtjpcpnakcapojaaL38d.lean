import Derived.Test.YtjpcpnakcapojaaL38c
import Derived.Test.YtjpcpnakcapojaaP1
namespace Go.Abs.L38
open Go Go.Abs Go.Proofs
set_option linter.unusedVariables false
set_option maxRecDepth 20000
theorem no_chp {T : List (List Int)} (h : prvE T ≠ 0) : chpL T = [] ∧ chpC T = 0 ∧ prvU T = [] ∧ prvV T = [] := by
  rw [chpL, chpC, prvU, prvV, if_pos h, if_pos h, if_pos h, if_pos h]; exact ⟨rfl, rfl, rfl, rfl⟩
theorem k9 (T : List (List Int)) (hT : T.length ≤ 9223372036854775807) (hTb : ∀ b ∈ T, b.length ≤ 9223372036854775807) : Fn Try.prog 9 [AA T] (.bool true) := by
  refine mk9 rfl ⟨_, k11, fun h => (by cases h), fun _ => ?_⟩
  by_cases hf : fewB T = true
  case neg =>
    have hf : fewB T = false := by simpa using hf
    exact ⟨_, c12 T hT, fun _ => ⟨rfl, rfl, rfl⟩, fun h => (by rw [hf] at h; cases h)⟩
  obtain ⟨h1, h2⟩ := few_len hf
  refine ⟨_, c12 T hT, fun h => (by rw [hf] at h; cases h), fun _ => ?_⟩
  have h13 := c13 T hT hTb
  have h28 := c28 T hT hTb
  by_cases he : prvE T ≠ 0
  · obtain ⟨e1, e2, e3, e4⟩ := no_chp he
    rw [e1, e2] at h13
    rw [e3, e4] at h28
    have d : (prvE T != 0) = true := by simpa using he
    refine ⟨_, c14 T h1 h2, true, _, h28, _, c14 T h1 h2, true, _, h13, true, [(3, false)], by simp, fun _ => ?_, fun h => (by rw [show _ = true from d] at h; cases h)⟩
    exact ⟨[(3, true), (8, true)], by simp, rfl, rfl, rfl, rfl⟩
  have he : prvE T = 0 := by simpa using he
  rw [he] at h13 h28
  obtain ⟨t0, R⟩ := chk_ok (chk_of_prv he)
  obtain ⟨g, C⟩ := chp_spec he R
  obtain ⟨d1, d2⟩ := duals he R
  have hcs : cstE T (chpL T) = (chpC T, 0) := by rw [C.list, cst_of (chk_of_prv he) R C.feas, C.cost]
  have h17 := c17 T hT hTb (prvU T) (prvV T)
  rw [d1, d2] at h17
  have lc : (chpL T).length ≤ 10000 := by rw [C.list]; simp; have := R.n; omega
  have h25 := c25 T hT hTb (chpL T) (by omega)
  rw [hcs] at h25
  refine ⟨_, c14 T h1 h2, true, _, h28, _, c14 T h1 h2, true, _, h13, true, [(3, false)], rfl, fun h => (by cases h), fun _ => ?_⟩
  refine ⟨_, c14 T h1 h2, true, _, h17, _, c14 T h1 h2, true, _, c18 (chpL T) lc, true, _, h25, ?_⟩
  exact ⟨[(2, true), (6, true), (11, true)], rfl, rfl, by simp, rfl, rfl, by show AV.bool true = AV.bool (_ && (chpC T == chpC T)); simp⟩
end Go.Abs.L38
