import Derived.Test.YtjpcpnakcapojaaL38a
namespace Go.Abs.L38
open Go Go.Abs Go.Proofs
set_option linter.unusedVariables false
set_option maxRecDepth 20000
theorem few_len {T : List (List Int)} (h : fewB T = true) : T.length ≤ 10000 ∧ ∀ b ∈ T, b.length ≤ 10000 := by
  simp only [fewB, Bool.and_eq_true, decide_eq_true_eq, List.all_eq_true] at h
  exact ⟨by omega, fun b hb => by have := h.1 b hb; omega⟩
theorem k4 (T : List (List Int)) (r k : List Int) (hT : T.length ≤ 9223372036854775807) (hTb : ∀ b ∈ T, b.length ≤ 9223372036854775807) (hr : r.length ≤ 9223372036854775807) (hk : k.length ≤ 9223372036854775807) : Fn Try.prog 4 [AA T, .agg [A r, A k]] (.bool true) := by
  refine mk4 rfl ⟨_, k11, fun h => (by cases h), fun _ => ?_⟩
  by_cases hf : fewB T = true
  case neg =>
    have hf : fewB T = false := by simpa using hf
    exact ⟨[(3, true), (9, true)], _, c12 T hT, by rw [hf]; rfl, rfl, fun _ => ⟨rfl, rfl, rfl⟩, fun h => (by cases h)⟩
  obtain ⟨h1, h2⟩ := few_len hf
  by_cases hr20 : r.length > 20
  · have d : decide ((r.length : Int) > 20) = true := by simp; omega
    exact ⟨[(3, false), (9, true)], _, c12 T hT, by rw [hf]; rfl, d, fun _ => ⟨rfl, rfl, rfl⟩, fun h => (by cases h)⟩
  have d1 : decide ((r.length : Int) > 20) = false := by simp; omega
  by_cases hk20 : k.length > 20
  · have d : decide ((k.length : Int) > 20) = true := by simp; omega
    refine ⟨[(3, false), (9, false)], _, c12 T hT, by rw [hf]; rfl, d1, fun _ => ⟨rfl, rfl, rfl⟩, fun h => (by rw [show _ = true from d] at h; cases h)⟩
  have d2 : decide ((k.length : Int) > 20) = false := by simp; omega
  refine ⟨[(3, false), (9, false)], _, c12 T hT, by rw [hf]; rfl, d1, fun h => (by rw [show _ = false from d2] at h; cases h), fun _ => ?_⟩
  refine ⟨_, c14 T h1 h2, true, _, c18 r (by omega), true, _, c18 k (by omega), true, _, c17 T hT hTb r k, _, c19 T hT hTb r k, [(3, true)], by simp, ?_⟩
  exact ⟨rfl, rfl, by show AV.bool true = AV.bool (_ && (bndC T r k == bndC T r k)); simp⟩
end Go.Abs.L38
