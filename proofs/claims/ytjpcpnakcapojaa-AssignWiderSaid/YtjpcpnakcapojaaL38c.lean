import Derived.Test.YtjpcpnakcapojaaL38b
import Derived.Test.YtjpcpnakcapojaaC38y
namespace Go.Abs.L38
open Go Go.Abs Go.Proofs
set_option linter.unusedVariables false
set_option maxRecDepth 20000
theorem k8 (T : List (List Int)) (p : List Int) (hT : T.length ≤ 9223372036854775807) (hTb : ∀ b ∈ T, b.length ≤ 9223372036854775807) (hp : p.length ≤ 9223372036854775807) : Fn Try.prog 8 [AA T, A p] (.bool true) := by
  refine mk8 rfl ⟨_, k11, fun h => (by cases h), fun _ => ?_⟩
  by_cases hf : fewB T = true
  case neg =>
    have hf : fewB T = false := by simpa using hf
    exact ⟨[(3, true)], _, c12 T hT, by rw [hf]; rfl, fun _ => ⟨rfl, rfl, rfl⟩, fun h => (by cases h)⟩
  obtain ⟨h1, h2⟩ := few_len hf
  by_cases hr20 : p.length > 20
  · have d : decide ((p.length : Int) > 20) = true := by simp; omega
    exact ⟨[(3, false)], _, c12 T hT, by rw [hf]; rfl, fun _ => ⟨rfl, rfl, rfl⟩, fun h => (by rw [show _ = true from d] at h; cases h)⟩
  have d1 : decide ((p.length : Int) > 20) = false := by simp; omega
  refine ⟨[(3, false)], _, c12 T hT, by rw [hf]; rfl, fun h => (by rw [show _ = false from d1] at h; cases h), fun _ => ?_⟩
  refine ⟨_, c14 T h1 h2, true, _, c18 p (by omega), true, _, c25 T hT hTb p hp, _, c26 T hT hTb p hp, ?_⟩
  refine ⟨[(6, true), (11, true)], _, c14 T h1 h2, true, _, c24 T hT hTb, _, c27 T hT hTb, by simp, by simp, ?_⟩
  exact ⟨rfl, rfl, by show AV.bool true = AV.bool (_ && ((cstE T p).2 == (cstE T p).2)); simp⟩
end Go.Abs.L38
