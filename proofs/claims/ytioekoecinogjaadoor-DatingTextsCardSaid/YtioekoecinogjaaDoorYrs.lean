import Derived.Test.YtioekoecinogjaaDoorDat
namespace Go.Abs.Day
open Go Go.Abs
set_option linter.unusedVariables false
/-! ### so many years later, as a function of the day -/
open Classical in
noncomputable def yrs (d k : Int) : Int := if h : ∃ y m n, IsDate d y m n then yearsE h.choose h.choose_spec.choose h.choose_spec.choose_spec.choose k else 0
theorem yrs_eq {d y m n k : Int} (h : IsDate d y m n) : yrs d k = yearsE y m n k := by
  have hx : ∃ y m n, IsDate d y m n := ⟨y, m, n, h⟩
  unfold yrs
  rw [dif_pos hx]
  have := hx.choose_spec.choose_spec.choose_spec
  obtain ⟨e1, e2, e3⟩ := this.uniq h
  exact congr (congr (congr (congrArg yearsE e1) e2) e3) rfl
theorem yrs_good {d k : Int} (h : good d) (k0 : 0 ≤ k) : good (yrs d k) ∧ d ≤ yrs d k := by
  obtain ⟨y, m, n, hD⟩ := date_ex h.1 h.2
  rw [yrs_eq hD]
  have := years_range hD h.2 k0
  have := h.1
  exact ⟨⟨by omega, by omega⟩, by omega⟩
theorem yrs_mono {a b k : Int} (ha : good a) (hb : good b) (hab : a ≤ b) (k0 : 0 ≤ k) : yrs a k ≤ yrs b k := by
  obtain ⟨y, m, n, hD⟩ := date_ex ha.1 ha.2
  obtain ⟨y', m', n', hD'⟩ := date_ex hb.1 hb.2
  rw [yrs_eq hD, yrs_eq hD']
  exact years_mono hD hD' hab k0
end Go.Abs.Day
