import Derived.Test.YtioekoecinogjaaDoorDay2
namespace Go.Abs.Day
open Go Go.Abs
set_option linter.unusedVariables false
/-! ### datings -/
structure Dat where
  lo : Int
  hi : Int
  deriving DecidableEq
def encD (d : Dat) : List AV := [.int .i64 d.lo, .int .i64 d.hi]
def okD (d : Dat) : Bool := decide (0 ≤ d.lo) && decide (d.lo ≤ d.hi) && decide (d.hi ≤ 1048575)
def chkD (d : Dat) : Int := if okD d = true then 0 else 1
theorem okD_iff {d : Dat} : okD d = true ↔ 0 ≤ d.lo ∧ d.lo ≤ d.hi ∧ d.hi ≤ 1048575 := by simp [okD, and_assoc]
theorem chk_iff {d : Dat} : chkD d = 0 ↔ okD d = true := by
  unfold chkD; cases okD d <;> simp
theorem chk_bne (d : Dat) : (chkD d != 0) = !okD d := by unfold chkD; cases okD d <;> rfl
theorem chk_beq (d : Dat) : (chkD d == 0) = okD d := by unfold chkD; cases okD d <;> rfl
def meetE (a b : Dat) : Dat × Bool := if okD a = true ∧ okD b = true ∧ maxI a.lo b.lo ≤ minI a.hi b.hi then (⟨maxI a.lo b.lo, minI a.hi b.hi⟩, true) else (⟨0, 0⟩, false)
theorem meet_ok {a b : Dat} (h : (meetE a b).2 = true) : okD a = true ∧ okD b = true ∧ (meetE a b).1 = ⟨maxI a.lo b.lo, minI a.hi b.hi⟩ ∧ maxI a.lo b.lo ≤ minI a.hi b.hi ∧ okD (meetE a b).1 = true := by
  unfold meetE at h ⊢
  split at h
  · rename_i hc
    rw [if_pos hc]
    obtain ⟨h1, h2, h3⟩ := hc
    refine ⟨h1, h2, rfl, h3, ?_⟩
    rw [okD_iff] at *
    have := maxI_ge a.lo b.lo; have := minI_le a.hi b.hi
    dsimp only; omega
  · cases h
theorem eqL_D (a b : Dat) : eqL (encD a) (encD b) = decide (a = b) := by
  cases a; cases b
  simp [encD, eqL, eqC]; rfl
end Go.Abs.Day
