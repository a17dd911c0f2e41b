import Derived.Test.YtioekoecinogjaaDoorC03e
import Derived.Test.YtioekoecinogjaaDoorDat
namespace Go.Abs.L03
open Go Go.Abs Go.Abs.Day Go.Proofs Go.RowKit
set_option linter.unusedVariables false
set_option maxRecDepth 20000
theorem c_dCheck (d : Dat) : Fn Tryd.prog 16 [.agg (encD d)] (I (chkD d)) := by
  refine mk16 rfl ⟨[], fun h => ?_, fun h => ?_⟩
  · have : okD d = false := by
      rw [Bool.eq_false_iff, Ne, okD_iff]
      simp at h; omega
    rw [chkD, if_neg (by rw [this]; simp)]
    exact ⟨rfl, rfl, rfl⟩
  · have : okD d = true := by
      rw [okD_iff]
      simp at h; omega
    rw [chkD, if_pos this]
    exact ⟨rfl, rfl, rfl⟩
theorem c_rdGood (d : Dat) : Fn Tryd.prog 34 [.agg (encD d)] (.bool (okD d)) := mk34 rfl ⟨[], rfl, rfl, rfl⟩
theorem c_rdCheck (d : Dat) : Fn Tryd.prog 21 [.agg (encD d)] (I (chkD d)) := by
  refine mk21 rfl ⟨_, c_rdGood d, fun h => ?_, fun h => ?_⟩
  · have : okD d = false := by simpa using h
    rw [chkD, if_neg (by rw [this]; simp)]
    exact ⟨rfl, rfl, rfl⟩
  · have : okD d = true := by simpa using h
    rw [chkD, if_pos this]
    exact ⟨rfl, rfl, rfl⟩
theorem c_dboth (a b : Dat) : Fn Tryd.prog 52 [.agg (encD a), .agg (encD b)] (.bool (okD a && okD b)) := by
  refine mk52 rfl ⟨[], _, c_dCheck a, _, c_dCheck b, rfl, rfl, ?_⟩
  rw [← chk_beq, ← chk_beq]; rfl
theorem c_Meet (a b : Dat) : Fn Tryd.prog 22 [.agg (encD a), .agg (encD b)] (.tup [.agg (encD (meetE a b).1), .bool (meetE a b).2]) := by
  refine mk22 rfl ⟨[], _, c_dboth a b, fun h => ?_, fun h => ?_⟩
  · have : ¬ (okD a = true ∧ okD b = true ∧ maxI a.lo b.lo ≤ minI a.hi b.hi) := by
      rintro ⟨h1, h2, h3⟩
      rw [h1, h2] at h
      simp at h; omega
    rw [meetE, if_neg this]
    exact ⟨_, _, rfl, ⟨rfl, rfl⟩, rfl, rfl, trivial⟩
  · have : okD a = true ∧ okD b = true ∧ maxI a.lo b.lo ≤ minI a.hi b.hi := by
      simp at h; exact ⟨h.1.1, h.1.2, h.2⟩
    rw [meetE, if_pos this]
    exact ⟨_, _, rfl, ⟨rfl, rfl⟩, rfl, rfl, trivial⟩
end Go.Abs.L03
