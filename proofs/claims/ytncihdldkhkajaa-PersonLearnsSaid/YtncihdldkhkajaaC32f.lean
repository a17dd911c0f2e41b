import Derived.Test.YtncihdldkhkajaaC32e
namespace Go.Abs.L32
open Go Go.Abs Go.Abs.Day Go.Proofs Go.RowKit
set_option linter.unusedVariables false
set_option maxRecDepth 20000
structure Per where
  id : Int
  name : List UInt8
  b : Dat
  d : Dat
  deriving DecidableEq
def encP (p : Per) : List AV := [I p.id, .str (bs p.name), I p.b.lo, I p.b.hi, I p.d.lo, I p.d.hi]
def Per.sz (p : Per) : Prop := p.name.length ≤ 9223372036854775807
def faultE (p : Per) : Int := if p.id < 1 ∨ p.id > 1073741824 then 2 else if nameB p.name = false then 4 else if okD p.b = false ∨ okD p.d = false then 1 else if p.b.lo > p.d.hi then 10 else 0
theorem c37 (p : Per) (hp : p.sz) : Fn Try.prog 37 [.agg (encP p)] (I (faultE p)) := by
  refine mk37 rfl ⟨[], fun h => ?_, fun h => ?_⟩
  · have h : p.id < 1 ∨ p.id > 1073741824 := by simpa using h
    rw [faultE, if_pos h]
    exact ⟨rfl, rfl, rfl⟩
  · have h : ¬ (p.id < 1 ∨ p.id > 1073741824) := by simpa using h
    rw [faultE, if_neg h]
    refine ⟨_, c50 p.name hp, fun h => ?_, fun h => ?_⟩
    · rw [if_pos (by simpa using h)]
      exact ⟨rfl, rfl, rfl⟩
    · rw [if_neg (by simpa using h)]
      refine ⟨[], _, c_dCheck p.b, _, c_dCheck p.d, fun h => ?_, fun h => ?_⟩
      · have h : ((chkD p.b != 0) || (chkD p.d != 0)) = true := h
        rw [chk_bne, chk_bne] at h
        rw [if_pos (by simpa using h)]
        exact ⟨rfl, rfl, rfl⟩
      · have h : ((chkD p.b != 0) || (chkD p.d != 0)) = false := h
        rw [chk_bne, chk_bne] at h
        rw [if_neg (by simpa using h)]
        refine ⟨fun h => ?_, fun h => ?_⟩
        · rw [if_pos (by simpa using h)]
          exact ⟨rfl, rfl, rfl⟩
        · rw [if_neg (by simpa using h)]
          exact ⟨rfl, rfl, rfl⟩
end Go.Abs.L32
