import Derived.Test.YtjpcpnakcapojaaL38c
import Derived.Test.YtjpcpnakcapojaaP2
namespace Go.Abs.L38
open Go Go.Abs Go.Proofs
set_option linter.unusedVariables false
set_option maxRecDepth 20000
theorem k7 (T : List (List Int)) (s : List Int) (hT : T.length ≤ 9223372036854775807) (hTb : ∀ b ∈ T, b.length ≤ 9223372036854775807) (hs : s.length ≤ 9223372036854775807) : Fn Try.prog 7 [AA T, A s] (.bool true) := by
  refine mk7 rfl ⟨_, k11, fun h => (by cases h), fun _ => ?_⟩
  by_cases hf : fewB T = true
  case neg =>
    have hf : fewB T = false := by simpa using hf
    exact ⟨[(3, true), (8, true)], _, c12 T hT, by rw [hf]; rfl, rfl, fun _ => ⟨rfl, rfl, rfl⟩, fun h => (by cases h)⟩
  obtain ⟨h1, h2⟩ := few_len hf
  by_cases hr20 : s.length > 20
  · have d : decide ((s.length : Int) > 20) = true := by simp; omega
    exact ⟨[(3, false), (8, true)], _, c12 T hT, by rw [hf]; rfl, d, fun _ => ⟨rfl, rfl, rfl⟩, fun h => (by cases h)⟩
  have d1 : decide ((s.length : Int) > 20) = false := by simp; omega
  have h24 := c24 T hT hTb
  by_cases hc : chkE T ≠ 0
  · have d : (chkE T != 0) = true := by simpa using hc
    exact ⟨[(3, false), (8, false)], _, c12 T hT, by rw [hf]; rfl, d1, _, c14 T h1 h2, true, _, h24, fun _ => ⟨rfl, rfl, rfl⟩, fun h => (by rw [show _ = true from d] at h; cases h)⟩
  have hc : chkE T = 0 := by simpa using hc
  rw [hc] at h24
  refine ⟨[(3, false), (8, false)], _, c12 T hT, by rw [hf]; rfl, d1, _, c14 T h1 h2, true, _, h24, fun h => (by cases h), fun _ => ?_⟩
  have h13 := c13 T hT hTb
  have h20 := c20 T hT hTb
  obtain ⟨t0, R⟩ := chk_ok hc
  by_cases he : prvE T = 0
  · rw [he] at h13
    rw [nar_none he] at h20
    have h22 := c22 T hT hTb s hs
    rw [ref_none he s] at h22
    refine ⟨_, c14 T h1 h2, true, _, h13, true, _, c14 T h1 h2, true, _, h20, fun _ => ?_, fun h => (by cases h)⟩
    exact ⟨[(2, true)], rfl, _, c14 T h1 h2, true, _, c18 s (by omega), true, _, h22, rfl, rfl, rfl⟩
  · have he2 : prvE T = 24 := (prv_of hc R).2.resolve_left he
    obtain ⟨S, e1, e2, e3⟩ := nar_some hc he
    rw [he2] at h13
    rw [e1] at h20
    have h22 := c22 T hT hTb S (by omega)
    rw [e2] at h22
    refine ⟨_, c14 T h1 h2, true, _, h13, true, _, c14 T h1 h2, true, _, h20, fun h => (by cases h), fun _ => ?_⟩
    exact ⟨[(2, true), (6, true)], rfl, rfl, _, c14 T h1 h2, true, _, c18 S (by omega), true, _, h22, rfl, rfl, rfl⟩
end Go.Abs.L38
