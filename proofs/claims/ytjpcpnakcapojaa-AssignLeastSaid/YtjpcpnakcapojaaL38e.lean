import Derived.Test.YtjpcpnakcapojaaL38d
import Derived.Test.YtjpcpnakcapojaaP38e
namespace Go.Abs.L38
open Go Go.Abs Go.Proofs
set_option linter.unusedVariables false
set_option maxRecDepth 20000
theorem k10 (T : List (List Int)) (p r k : List Int) (hT : T.length ≤ 9223372036854775807) (hTb : ∀ b ∈ T, b.length ≤ 9223372036854775807) (hp : p.length ≤ 9223372036854775807) (hr : r.length ≤ 9223372036854775807) (hk : k.length ≤ 9223372036854775807) : Fn Try.prog 10 [AA T, A p, .agg [A r, A k]] (.bool true) := by
  refine mk10 rfl ⟨_, k11, fun h => (by cases h), fun _ => ?_⟩
  by_cases hf : fewB T = true
  case neg =>
    have hf : fewB T = false := by simpa using hf
    exact ⟨[(3, true), (8, true), (14, true)], _, c12 T hT, by rw [hf]; rfl, rfl, rfl, fun _ => ⟨rfl, rfl, rfl⟩, fun h => (by cases h)⟩
  obtain ⟨h1, h2⟩ := few_len hf
  by_cases hp20 : p.length > 20
  · have d : decide ((p.length : Int) > 20) = true := by simp; omega
    exact ⟨[(3, false), (8, true), (14, true)], _, c12 T hT, by rw [hf]; rfl, d, rfl, fun _ => ⟨rfl, rfl, rfl⟩, fun h => (by cases h)⟩
  have d0 : decide ((p.length : Int) > 20) = false := by simp; omega
  by_cases hr20 : r.length > 20
  · have d : decide ((r.length : Int) > 20) = true := by simp; omega
    exact ⟨[(3, false), (8, false), (14, true)], _, c12 T hT, by rw [hf]; rfl, d0, d, fun _ => ⟨rfl, rfl, rfl⟩, fun h => (by cases h)⟩
  have d1 : decide ((r.length : Int) > 20) = false := by simp; omega
  by_cases hk20 : k.length > 20
  · have d : decide ((k.length : Int) > 20) = true := by simp; omega
    exact ⟨[(3, false), (8, false), (14, false)], _, c12 T hT, by rw [hf]; rfl, d0, d1, fun _ => ⟨rfl, rfl, rfl⟩, fun h => (by rw [show _ = true from d] at h; cases h)⟩
  have d2 : decide ((k.length : Int) > 20) = false := by simp; omega
  refine ⟨[(3, false), (8, false), (14, false)], _, c12 T hT, by rw [hf]; rfl, d0, d1, fun h => (by rw [show _ = false from d2] at h; cases h), fun _ => ?_⟩
  refine ⟨_, c14 T h1 h2, true, _, c18 p (by omega), true, _, c25 T hT hTb p hp, fun h => ?_, fun h => ?_⟩
  · have h : (cstE T p).2 ≠ 0 := by simpa using h
    have := cst_no h
    exact ⟨rfl, rfl, by show AV.bool true = AV.bool ((cstE T p).1 == 0); rw [this]; rfl⟩
  have h : (cstE T p).2 = 0 := by simpa using h
  obtain ⟨hprv, hle, hb, hc, lc⟩ := least_law (r := r) (k := k) h
  have h13 := c13 T hT hTb
  rw [hprv] at h13
  have h17 := c17 T hT hTb r k
  generalize cstE T p = X at *
  generalize chpC T = C at *
  generalize bndE T r k = B at *
  generalize bndC T r k = e at *
  have a1 : decide (C ≤ X.1) = true := by simpa using hle
  refine ⟨_, c14 T h1 h2, true, _, h13, true, _, c14 T h1 h2, true, _, c18 r (by omega), true, _, c18 k (by omega), true, _, h17, ?_⟩
  by_cases he : e = 0
  · have b1 : (e != 0) = false := by simpa using he
    have b2 : decide (B ≤ C) = true := by
      rcases hb with hb | hb
      · exact absurd he hb
      · simpa using hb
    by_cases hlt : C < X.1
    · have c1 : decide (C < X.1) = true := by simpa using hlt
      refine ⟨[(2, true), (7, true), (10, false), (16, true), (20, true)], rfl, a1, b1, by rw [b2]; rfl, c1, rfl, rfl, rfl⟩
    · have c1 : decide (C < X.1) = false := by simpa using hlt
      have c2 : decide (cmpL (chpL T) p ≤ 0) = true := by
        rcases hc with hc | hc
        · exact absurd hc hlt
        · simpa using hc
      refine ⟨[(2, true), (7, true), (10, false), (16, true), (20, false)], rfl, a1, b1, by rw [b2]; rfl, c1, _, c29 (chpL T) p (by omega) hp, rfl, rfl, by show AV.bool true = AV.bool (_ && (_ || decide (cmpL (chpL T) p ≤ 0))); rw [c2]; rfl⟩
  · have b1 : (e != 0) = true := by simpa using he
    by_cases hlt : C < X.1
    · have c1 : decide (C < X.1) = true := by simpa using hlt
      refine ⟨[(2, true), (7, true), (10, true), (16, true), (20, true)], rfl, a1, b1, rfl, c1, rfl, rfl, rfl⟩
    · have c1 : decide (C < X.1) = false := by simpa using hlt
      have c2 : decide (cmpL (chpL T) p ≤ 0) = true := by
        rcases hc with hc | hc
        · exact absurd hc hlt
        · simpa using hc
      refine ⟨[(2, true), (7, true), (10, true), (16, true), (20, false)], rfl, a1, b1, rfl, c1, _, c29 (chpL T) p (by omega) hp, rfl, rfl, by show AV.bool true = AV.bool (_ && (_ || decide (cmpL (chpL T) p ≤ 0))); rw [c2]; rfl⟩
end Go.Abs.L38
