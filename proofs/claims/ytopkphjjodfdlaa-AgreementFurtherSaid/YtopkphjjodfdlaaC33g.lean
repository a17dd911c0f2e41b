import Derived.Test.YtopkphjjodfdlaaC33f
namespace Go.Abs.L33
open Go Go.Abs Go.Proofs
set_option linter.unusedVariables false
set_option maxRecDepth 20000
def a0 : Agr := ⟨2, 5, 1000, false, 10, 1048576⟩
def a1 : Agr := ⟨3, 0, 600, true, 0, 0⟩
def m0 : List Agr := [⟨2, 5, 1000, false, 10, 500⟩, ⟨3, 5, 600, true, 500, 1048576⟩]
theorem e1 : groundsE [a0] 5 999 = [⟨3, 2, 0, 1000⟩] := by decide
theorem e2 : amendE [a0] 2 500 a1 = (m0, 0) := by decide
theorem o1 : openDay [a0] 5 10 = 1000 := by
  refine (openDay_spec _ _ _).uniq ⟨by omega, by decide, fun k h1 h2 => ⟨a0, by simp, ?_⟩⟩
  rw [closes_iff]
  refine ⟨by decide, by decide, ?_, ?_, ?_⟩ <;> simp [a0] <;> omega
theorem o2 : openDay m0 5 10 = 600 := by
  refine (openDay_spec _ _ _).uniq ⟨by omega, by decide, fun k h1 h2 => ?_⟩
  by_cases h : k < 500
  · refine ⟨⟨2, 5, 1000, false, 10, 500⟩, by simp [m0], ?_⟩
    rw [closes_iff]
    refine ⟨by decide, by decide, ?_, ?_, ?_⟩ <;> simp <;> omega
  · refine ⟨⟨3, 5, 600, true, 500, 1048576⟩, by simp [m0], ?_⟩
    rw [closes_iff]
    refine ⟨by decide, by decide, ?_, ?_, ?_⟩ <;> simp <;> omega
theorem e3 : opensR [a0] 5 10 = (1000, 0) := by
  rw [opensR, if_neg (by decide), if_neg (by decide), o1, if_neg (by decide)]
theorem e4 : opensR m0 5 10 = (600, 0) := by
  rw [opensR, if_neg (by decide), if_neg (by decide), o2, if_neg (by decide)]
theorem e5 : strictE m0 3 = true := by decide
theorem c10 : Fn Try.prog 10 [] (.bool true) := by
  have h1 := c22 [a0] 5 999
  have h2 := c19 [a0] 5 10
  have h3 := c24 [a0] 2 500 a1
  have h4 := c19 m0 5 10
  have h5 := c17 m0 (by decide) 3
  have h6 := c21 [⟨3, 2, 0, 1000⟩] [⟨3, 2, 0, 1000⟩] (by decide)
  rw [e1] at h1
  rw [e3] at h2
  rw [e2] at h3
  rw [e4] at h4
  rw [e5] at h5
  rw [decide_eq_true rfl] at h6
  refine mk10 rfl ⟨_, h1, _, h2, _, h3, _, h4, [], _, h6, _, h5, _, rfl, _, rfl, rfl, rfl, rfl⟩
end Go.Abs.L33
