import Derived.Test.YtncihdldkhkajaaC32c
import Derived.Test.YtncihdldkhkajaaDat
namespace Go.Abs.L32
open Go Go.Abs Go.Abs.Day Go.Proofs Go.RowKit
set_option linter.unusedVariables false
set_option maxRecDepth 20000
theorem c_dCheck (d : Dat) : Fn Try.prog 32 [.agg (encD d)] (I (chkD d)) := by
  refine mk32 rfl ⟨[], fun h => ?_, fun h => ?_⟩
  · have : okD d = false := by
      rw [Bool.eq_false_iff, Ne, okD_iff]
      simp at h; omega
    rw [chkD, if_neg (by rw [this]; simp)]
    exact ⟨rfl, rfl, rfl⟩
  · have : okD d = true := by
      rw [okD_iff]
      simp at h; omega
    rw [chkD, if_pos this]
    exact ⟨rfl, rfl, rfl⟩
theorem c_rdGood (d : Dat) : Fn Try.prog 48 [.agg (encD d)] (.bool (okD d)) := mk48 rfl ⟨[], rfl, rfl, rfl⟩
theorem c_rdCheck (d : Dat) : Fn Try.prog 35 [.agg (encD d)] (I (chkD d)) := by
  refine mk35 rfl ⟨_, c_rdGood d, fun h => ?_, fun h => ?_⟩
  · have : okD d = false := by simpa using h
    rw [chkD, if_neg (by rw [this]; simp)]
    exact ⟨rfl, rfl, rfl⟩
  · have : okD d = true := by simpa using h
    rw [chkD, if_pos this]
    exact ⟨rfl, rfl, rfl⟩
theorem c_dboth (a b : Dat) : Fn Try.prog 61 [.agg (encD a), .agg (encD b)] (.bool (okD a && okD b)) := by
  refine mk61 rfl ⟨[], _, c_dCheck a, _, c_dCheck b, rfl, rfl, ?_⟩
  rw [← chk_beq, ← chk_beq]; rfl
theorem c_Meet (a b : Dat) : Fn Try.prog 49 [.agg (encD a), .agg (encD b)] (.tup [.agg (encD (meetE a b).1), .bool (meetE a b).2]) := by
  refine mk49 rfl ⟨[], _, c_dboth a b, fun h => ?_, fun h => ?_⟩
  · have : ¬ (okD a = true ∧ okD b = true ∧ maxI a.lo b.lo ≤ minI a.hi b.hi) := by
      rintro ⟨h1, h2, h3⟩
      rw [h1, h2] at h
      simp at h; omega
    rw [meetE, if_neg this]
    exact ⟨_, _, rfl, ⟨rfl, rfl⟩, rfl, rfl, trivial⟩
  · have : okD a = true ∧ okD b = true ∧ maxI a.lo b.lo ≤ minI a.hi b.hi := by
      simp at h; exact ⟨h.1.1, h.1.2, h.2⟩
    rw [meetE, if_pos this]
    exact ⟨_, _, rfl, ⟨rfl, rfl⟩, rfl, rfl, trivial⟩
end Go.Abs.L32
