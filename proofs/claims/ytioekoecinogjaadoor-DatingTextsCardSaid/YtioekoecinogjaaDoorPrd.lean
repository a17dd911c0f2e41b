import Derived.Test.YtioekoecinogjaaDoorYrs
import Derived.Test.YtioekoecinogjaaDoorTxt
namespace Go.Abs.Day
open Go Go.Abs
set_option linter.unusedVariables false
/-! ### periods -/
open Classical in
noncomputable def dOf (d : Int) : Int × Int × Int := if h : ∃ y m n, IsDate d y m n then (h.choose, h.choose_spec.choose, h.choose_spec.choose_spec.choose) else (0, 0, 0)
theorem dOf_eq {d y m n : Int} (h : IsDate d y m n) : dOf d = (y, m, n) := by
  have hx : ∃ y m n, IsDate d y m n := ⟨y, m, n, h⟩
  unfold dOf
  rw [dif_pos hx]
  have := hx.choose_spec.choose_spec.choose_spec
  obtain ⟨e1, e2, e3⟩ := this.uniq h
  exact Prod.ext e1 (Prod.ext e2 e3)
def yearD (y : Int) : Dat := ⟨beg y, endE y⟩
def monthD (y m : Int) : Dat := ⟨beg y + cum y m, minI (beg y + cum y m + lenM y m - 1) 1048575⟩
noncomputable def perE (d k : Int) : Dat := if k = 4 then yearD (dOf d).1 else if k = 7 then monthD (dOf d).1 (dOf d).2.1 else ⟨d, d⟩
noncomputable def tx (d : Int) : List UInt8 := txt (dOf d).1 (dOf d).2.1 (dOf d).2.2
theorem tx_eq {d y m n : Int} (h : IsDate d y m n) : tx d = txt y m n := by unfold tx; rw [dOf_eq h]
theorem per4 {d y m n : Int} (h : IsDate d y m n) : perE d 4 = yearD y := by unfold perE; rw [if_pos rfl, dOf_eq h]
theorem per7 {d y m n : Int} (h : IsDate d y m n) : perE d 7 = monthD y m := by unfold perE; rw [if_neg (by decide), if_pos rfl, dOf_eq h]
theorem perX {d k : Int} (h4 : k ≠ 4) (h7 : k ≠ 7) : perE d k = ⟨d, d⟩ := by unfold perE; rw [if_neg h4, if_neg h7]
theorem tx_len (d : Int) : (tx d).length = 10 := txt_len _ _ _
theorem first_year {y : Int} (y1 : 1600 ≤ y) (y2 : y ≤ 4470) : IsDate (beg y) y 1 1 := by
  have := lenM_ge y1 y2 (m := 1) (by decide) (by decide)
  have hc := cum_one y
  exact ⟨y1, y2, by decide, by decide, by decide, by omega, by omega⟩
theorem beg_max {y : Int} (y2 : y ≤ 4470) : beg y ≤ 1048247 := by
  have := beg_mono y2
  rw [beg_last] at this; exact this
theorem first_month {d y m n : Int} (h : IsDate d y m n) : IsDate (beg y + cum y m) y m 1 := by
  have := lenM_ge h.y1 h.y2 h.m1 h.m2
  exact ⟨h.y1, h.y2, h.m1, h.m2, by decide, by omega, by omega⟩
theorem cum_zero {y m : Int} (h1 : 1 ≤ m) (h2 : m ≤ 12) (y1 : 1600 ≤ y) (y2 : y ≤ 4470) (h : cum y m = 0) : m = 1 := by
  by_cases hm : m = 1
  · exact hm
  · have := cum_lt y1 y2 (m := 1) (m' := m) (by decide) (by omega) (by omega)
    have := lenM_ge y1 y2 (m := 1) (by decide) (by decide)
    have := cum_one y
    omega
theorem lo4 {d y m n : Int} (h : IsDate d y m n) : (yearD y).lo = d ↔ m = 1 ∧ n = 1 := by
  have e := h.eq
  have c := cum_range h.y1 h.y2 h.m1 h.m2
  have n1 := h.n1
  show beg y = d ↔ _
  constructor
  · intro hd
    exact ⟨cum_zero h.m1 h.m2 h.y1 h.y2 (by omega), by omega⟩
  · rintro ⟨rfl, rfl⟩
    have := cum_one y
    omega
theorem lo7 {d y m n : Int} (h : IsDate d y m n) : (monthD y m).lo = d ↔ n = 1 := by
  have e := h.eq
  show beg y + cum y m = d ↔ _
  omega
theorem ok4 {y : Int} (y1 : 1600 ≤ y) (y2 : y ≤ 4470) : okD (yearD y) = true := by
  rw [okD_iff]
  have h := first_year y1 y2
  have hm := beg_max y2
  have := year_end h (by omega)
  have := h.lo
  show 0 ≤ beg y ∧ beg y ≤ endE y ∧ endE y ≤ 1048575
  omega
theorem ok7 {d y m n : Int} (h : IsDate d y m n) (hd : d ≤ 1048575) : okD (monthD y m) = true := by
  rw [okD_iff]
  have e := h.eq
  have n1 := h.n1
  have := (first_month h).lo
  have := lenM_ge h.y1 h.y2 h.m1 h.m2
  have := minI_le (beg y + cum y m + lenM y m - 1) 1048575
  show 0 ≤ beg y + cum y m ∧ beg y + cum y m ≤ minI (beg y + cum y m + lenM y m - 1) 1048575 ∧ minI (beg y + cum y m + lenM y m - 1) 1048575 ≤ 1048575
  omega
theorem okP {d k : Int} (hd : good d) : okD (perE d k) = true := by
  obtain ⟨y, m, n, hD⟩ := date_ex hd.1 hd.2
  by_cases h4 : k = 4
  · subst h4; rw [per4 hD]; exact ok4 hD.y1 hD.y2
  · by_cases h7 : k = 7
    · subst h7; rw [per7 hD]; exact ok7 hD hd.2
    · rw [perX h4 h7, okD_iff]
      have := hd.1; have := hd.2
      dsimp only; omega
/-- the text of the first of the three periods for which p holds -/
noncomputable def textE (d : Int) (p : Dat → Bool) : List UInt8 := if p (perE d 4) = true then (tx d).take 4 else if p (perE d 7) = true then (tx d).take 7 else if p (perE d 10) = true then tx d else []
noncomputable def begT (d : Int) : List UInt8 := textE d (fun p => p.lo == d)
noncomputable def endT (d : Int) : List UInt8 := textE d (fun p => p.hi == d)
def beforeL : List UInt8 := [98, 101, 102, 111, 114, 101, 32]
def afterL : List UInt8 := [97, 102, 116, 101, 114, 32]
def unknownL : List UInt8 := [117, 110, 107, 110, 111, 119, 110]
noncomputable def fmtE (x : Dat) : List UInt8 × Int :=
  if okD x = false then ([], 1)
  else if x = ⟨0, 1048575⟩ then (unknownL, 0)
  else if perE x.lo 4 = x then ((tx x.lo).take 4, 0)
  else if perE x.lo 7 = x then ((tx x.lo).take 7, 0)
  else if x.lo = x.hi then (tx x.lo, 0)
  else if x.lo = 0 then (beforeL ++ begT (x.hi + 1), 0)
  else if x.hi = 1048575 then (afterL ++ endT (x.lo - 1), 0)
  else (begT x.lo ++ [47] ++ endT x.hi, 0)
theorem ext_take (l : List UInt8) (k : Nat) : (bs l).extract 0 k = bs (l.take k) := by rw [bs_ext]; simp
theorem ext_drop (l : List UInt8) (k : Nat) : (bs l).extract k (bs l).size = bs (l.drop k) := by rw [bs_ext, bs_size]; simp
theorem text_len (d : Int) (p : Dat → Bool) : (textE d p).length ≤ 10 := by
  have := tx_len d
  unfold textE
  split
  · simp [this]
  · split
    · simp [this]
    · split
      · omega
      · simp
end Go.Abs.Day
