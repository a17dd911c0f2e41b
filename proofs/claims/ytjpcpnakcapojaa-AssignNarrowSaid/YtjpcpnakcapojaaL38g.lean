import Derived.Test.YtjpcpnakcapojaaL38f
import Derived.Test.YtjpcpnakcapojaaQ2
namespace Go.Abs.L38
open Go Go.Abs Go.Proofs
set_option linter.unusedVariables false
set_option maxRecDepth 20000
theorem nar_len (T : List (List Int)) : (narE T).1.length ≤ 16 := by
  by_cases hc : chkE T ≠ 0
  · rw [narE, if_pos hc]; simp
  have hc : chkE T = 0 := by simpa using hc
  by_cases h : prvE T = 0
  · rw [nar_none h]; simp
  · obtain ⟨S, e1, _, e3⟩ := nar_some hc h
    rw [e1]; exact e3
theorem k6 (T : List (List Int)) (s : List Int) (hT : T.length ≤ 9223372036854775807) (hTb : ∀ b ∈ T, b.length ≤ 9223372036854775807) (hs : s.length ≤ 9223372036854775807) : Fn Try.prog 6 [AA T, A s] (.bool true) := by
  refine mk6 rfl ⟨_, k11, fun h => (by cases h), fun _ => ?_⟩
  by_cases hf : fewB T = true
  case neg =>
    have hf : fewB T = false := by simpa using hf
    exact ⟨[(3, true)], _, c12 T hT, by rw [hf]; rfl, fun _ => ⟨rfl, rfl, rfl⟩, fun h => (by cases h)⟩
  obtain ⟨h1, h2⟩ := few_len hf
  by_cases hr20 : s.length > 20
  · have d : decide ((s.length : Int) > 20) = true := by simp; omega
    exact ⟨[(3, false)], _, c12 T hT, by rw [hf]; rfl, fun _ => ⟨rfl, rfl, rfl⟩, fun h => (by rw [show _ = true from d] at h; cases h)⟩
  have d1 : decide ((s.length : Int) > 20) = false := by simp; omega
  have h20 := c20 T hT hTb
  have h21 := c21 T hT hTb
  have hl := nar_len T
  generalize narE T = N at *
  refine ⟨[(3, false)], _, c12 T hT, by rw [hf]; rfl, fun h => (by rw [show _ = false from d1] at h; cases h), fun _ => ?_⟩
  refine ⟨_, c14 T h1 h2, true, _, h20, _, h21, ?_⟩
  exact ⟨[(3, true), (8, true)], _, c16 N.1 N.1 (by omega), by simp, by simp, _, c14 T h1 h2, true, _, c18 s (by omega), true, _, c22 T hT hTb s hs, _, c23 T hT hTb s hs, rfl, rfl, by show AV.bool true = AV.bool (refB T s == refB T s); simp⟩
end Go.Abs.L38
