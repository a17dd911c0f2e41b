import Derived.Test.YtioekoecinogjaaDoorA3
namespace Go.Abs.Day
open Go Go.Abs
set_option linter.unusedVariables false
/-! ### days and dates, in plain integers -/
def leapB (y : Int) : Bool := decide (y % 4 = 0) && (!decide (y % 100 = 0) || decide (y % 400 = 0))
def mlen (m : Int) : Int := if m = 2 then 28 else if m = 4 ∨ m = 6 ∨ m = 9 ∨ m = 11 then 30 else 31
def lenM (y m : Int) : Int := if y < 1600 ∨ 4470 < y ∨ m < 1 ∨ 12 < m then 0 else if m = 2 ∧ leapB y = true then 29 else mlen m
def beg (y : Int) : Int := 365 * (y - 1600) + (y - 1600 + 3) / 4 - (y - 1600 + 99) / 100 + (y - 1600 + 399) / 400
def cumT (m : Int) : Int := if m = 1 then 0 else if m = 2 then 31 else if m = 3 then 59 else if m = 4 then 90 else if m = 5 then 120 else if m = 6 then 151 else if m = 7 then 181 else if m = 8 then 212 else if m = 9 then 243 else if m = 10 then 273 else if m = 11 then 304 else if m = 12 then 334 else 365
def cum (y m : Int) : Int := cumT m + if 2 < m ∧ leapB y = true then 1 else 0
def ylen (y : Int) : Int := if leapB y = true then 366 else 365
theorem leap_iff (y : Int) : leapB y = true ↔ y % 4 = 0 ∧ (y % 100 ≠ 0 ∨ y % 400 = 0) := by
  simp [leapB]
theorem ylen_cases (y : Int) : (leapB y = true ∧ ylen y = 366) ∨ (leapB y = false ∧ ylen y = 365) := by
  unfold ylen; cases leapB y <;> simp
theorem beg_succ (y : Int) : beg (y + 1) = beg y + ylen y := by
  have h := leap_iff y
  unfold beg
  rcases ylen_cases y with ⟨h1, h2⟩ | ⟨h1, h2⟩
  · rw [h2]; have := h.1 h1; omega
  · rw [h2]
    have : ¬ (y % 4 = 0 ∧ (y % 100 ≠ 0 ∨ y % 400 = 0)) := fun k => by rw [h.2 k] at h1; cases h1
    omega
theorem ylen_pos (y : Int) : 365 ≤ ylen y ∧ ylen y ≤ 366 := by rcases ylen_cases y with ⟨_, h⟩ | ⟨_, h⟩ <;> omega
theorem beg_lt {y z : Int} (h : y < z) : beg y + 365 ≤ beg z := by
  unfold beg; omega
theorem beg_mono {y z : Int} (h : y ≤ z) : beg y ≤ beg z := by
  unfold beg; omega
theorem beg_step (y n : Int) (h : 0 ≤ n) : beg y + 365 * n ≤ beg (y + n) ∧ beg (y + n) ≤ beg y + 366 * n := by
  unfold beg; omega
theorem beg_lo : beg 1600 = 0 := by decide
theorem beg_hi : beg 4471 = 1048612 := by decide
theorem beg_last : beg 4470 = 1048247 := by decide
theorem beg_cycle (y : Int) : beg (y + 400) = beg y + 146097 := by unfold beg; omega
theorem leap_cycle (y : Int) : leapB (y + 400) = leapB y := by
  rw [Bool.eq_iff_iff, leap_iff, leap_iff]; omega
theorem lenM_in {y m : Int} (h1 : 1600 ≤ y) (h2 : y ≤ 4470) (h3 : 1 ≤ m) (h4 : m ≤ 12) : lenM y m = if m = 2 ∧ leapB y = true then 29 else mlen m := by
  unfold lenM; rw [if_neg (by omega)]
theorem lenM_out {y m : Int} (h : y < 1600 ∨ 4470 < y ∨ m < 1 ∨ 12 < m) : lenM y m = 0 := by
  unfold lenM; rw [if_pos h]
theorem lenM_pos {y m n : Int} (h1 : 1 ≤ n) (h2 : n ≤ lenM y m) : 1600 ≤ y ∧ y ≤ 4470 ∧ 1 ≤ m ∧ m ≤ 12 := by
  unfold lenM at h2; split at h2 <;> omega
theorem mlen_range (m : Int) : 28 ≤ mlen m ∧ mlen m ≤ 31 := by unfold mlen; split <;> (try split) <;> omega
theorem lenM_range (y m : Int) : 0 ≤ lenM y m ∧ lenM y m ≤ 31 := by
  have := mlen_range m
  unfold lenM; split <;> (try split) <;> omega
theorem lenM_ge {y m : Int} (h1 : 1600 ≤ y) (h2 : y ≤ 4470) (h3 : 1 ≤ m) (h4 : m ≤ 12) : 28 ≤ lenM y m := by
  have := mlen_range m
  rw [lenM_in h1 h2 h3 h4]; split <;> omega
theorem months {m : Int} (h3 : 1 ≤ m) (h4 : m ≤ 12) : m = 1 ∨ m = 2 ∨ m = 3 ∨ m = 4 ∨ m = 5 ∨ m = 6 ∨ m = 7 ∨ m = 8 ∨ m = 9 ∨ m = 10 ∨ m = 11 ∨ m = 12 := by omega
theorem cum_succ {y m : Int} (h1 : 1600 ≤ y) (h2 : y ≤ 4470) (h3 : 1 ≤ m) (h4 : m ≤ 12) : cum y (m + 1) = cum y m + lenM y m := by
  rw [lenM_in h1 h2 h3 h4]
  unfold cum
  cases hl : leapB y <;> rcases months h3 h4 with rfl | rfl | rfl | rfl | rfl | rfl | rfl | rfl | rfl | rfl | rfl | rfl <;> decide
theorem cum_one (y : Int) : cum y 1 = 0 := by unfold cum; cases leapB y <;> decide
theorem cum_end (y : Int) : cum y 13 = ylen y := by unfold cum ylen; cases leapB y <;> decide
theorem cum_lt {y m m' : Int} (h1 : 1600 ≤ y) (h2 : y ≤ 4470) (h3 : 1 ≤ m) (h : m < m') (h4 : m' ≤ 13) : cum y m + lenM y m ≤ cum y m' := by
  rw [← cum_succ h1 h2 h3 (by omega)]
  have : ∀ k : Nat, m + 1 + k ≤ 13 → cum y (m + 1) ≤ cum y (m + 1 + k) := by
    intro k
    induction k with
    | zero => intro _; simp
    | succ k ih =>
      intro hk
      have := ih (by omega)
      have h5 := cum_succ h1 h2 (m := m + 1 + k) (by omega) (by omega)
      have := (lenM_range y (m + 1 + k)).1
      rw [show m + 1 + ((k + 1 : Nat) : Int) = m + 1 + k + 1 by omega]
      omega
  have := this (m' - m - 1).toNat (by omega)
  rw [show m + 1 + ((m' - m - 1).toNat : Int) = m' by omega] at this
  exact this
theorem cum_range {y m : Int} (h1 : 1600 ≤ y) (h2 : y ≤ 4470) (h3 : 1 ≤ m) (h4 : m ≤ 12) : 0 ≤ cum y m ∧ cum y m + lenM y m ≤ ylen y := by
  constructor
  · rcases Int.lt_or_eq_of_le h3 with h | h
    · have := cum_lt h1 h2 (m := 1) (m' := m) (by omega) (by omega) (by omega)
      have := (lenM_range y 1).1
      rw [cum_one] at *
      omega
    · rw [← h, cum_one]; omega
  · rw [← cum_end]; exact cum_lt h1 h2 h3 (by omega) (by omega)

/-- y-m-n is a date, d its day -/
structure IsDate (d y m n : Int) : Prop where
  y1 : 1600 ≤ y
  y2 : y ≤ 4470
  m1 : 1 ≤ m
  m2 : m ≤ 12
  n1 : 1 ≤ n
  n2 : n ≤ lenM y m
  eq : d = beg y + cum y m + n - 1
theorem IsDate.in_year {d y m n : Int} (h : IsDate d y m n) : beg y ≤ d ∧ d < beg (y + 1) := by
  have := cum_range h.y1 h.y2 h.m1 h.m2
  have := h.n1; have := h.n2; have := h.eq
  rw [beg_succ]; omega
theorem year_uniq {d y z : Int} (h1 : beg y ≤ d) (h2 : d < beg (y + 1)) (h3 : beg z ≤ d) (h4 : d < beg (z + 1)) : y = z := by
  rcases Int.lt_trichotomy y z with h | h | h
  · have := beg_mono (y := y + 1) (z := z) (by omega); omega
  · exact h
  · have := beg_mono (y := z + 1) (z := y) (by omega); omega
theorem month_uniq {y m n m' n' : Int} (h1 : 1600 ≤ y) (h2 : y ≤ 4470) (hm : 1 ≤ m) (hm' : m ≤ 12) (hn : 1 ≤ n) (hn' : n ≤ lenM y m) (km : 1 ≤ m') (km' : m' ≤ 12) (kn : 1 ≤ n') (kn' : n' ≤ lenM y m') (he : cum y m + n = cum y m' + n') : m = m' ∧ n = n' := by
  rcases Int.lt_trichotomy m m' with h | h | h
  · have := cum_lt h1 h2 hm h (by omega); omega
  · subst h; exact ⟨rfl, by omega⟩
  · have := cum_lt h1 h2 km h (by omega); omega
theorem IsDate.uniq {d y m n y' m' n' : Int} (h : IsDate d y m n) (k : IsDate d y' m' n') : y = y' ∧ m = m' ∧ n = n' := by
  have a := h.in_year
  have b := k.in_year
  have e := year_uniq a.1 a.2 b.1 b.2
  subst e
  have e1 := h.eq; have e2 := k.eq
  have := month_uniq h.y1 h.y2 h.m1 h.m2 h.n1 h.n2 k.m1 k.m2 k.n1 k.n2 (by omega)
  exact ⟨rfl, this⟩
theorem year_ex {d : Int} (h0 : 0 ≤ d) : ∀ k : Nat, d < beg (1600 + k) → ∃ y : Int, 1600 ≤ y ∧ y < 1600 + k ∧ beg y ≤ d ∧ d < beg (y + 1)
  | 0, h => by simp only [Int.natCast_zero, Int.add_zero] at h; rw [beg_lo] at h; omega
  | k + 1, h => by
    by_cases hk : d < beg (1600 + k)
    · obtain ⟨y, h1, h2, h3⟩ := year_ex h0 k hk
      exact ⟨y, h1, by omega, h3⟩
    · exact ⟨(1600 : Int) + (k : Int), by omega, by omega, by omega, by rw [show (1600 : Int) + k + 1 = 1600 + ((k + 1 : Nat) : Int) by omega]; exact h⟩
theorem month_ex {y r : Int} (h1 : 1600 ≤ y) (h2 : y ≤ 4470) (h0 : 0 ≤ r) : ∀ k : Nat, k ≤ 12 → r < cum y (1 + k) → ∃ m : Int, 1 ≤ m ∧ m ≤ k ∧ cum y m ≤ r ∧ r < cum y m + lenM y m
  | 0, _, h => by simp only [Int.natCast_zero, Int.add_zero] at h; rw [cum_one] at h; omega
  | k + 1, hk, h => by
    by_cases hc : r < cum y (1 + k)
    · obtain ⟨m, a, b, c⟩ := month_ex h1 h2 h0 k (by omega) hc
      exact ⟨m, a, by omega, c⟩
    · refine ⟨(1 : Int) + (k : Int), by omega, by omega, by omega, ?_⟩
      rw [← cum_succ h1 h2 (by omega) (by omega), show (1 : Int) + k + 1 = 1 + ((k + 1 : Nat) : Int) by omega]; exact h
theorem date_ex {d : Int} (h0 : 0 ≤ d) (h1 : d ≤ 1048575) : ∃ y m n, IsDate d y m n := by
  obtain ⟨y, a, b, c, e⟩ := year_ex h0 2871 (by rw [show (1600 : Int) + ((2871 : Nat) : Int) = 4471 by decide, beg_hi]; omega)
  have hy : y ≤ 4470 := by omega
  obtain ⟨m, p, q, r, s⟩ := month_ex a hy (r := d - beg y) (by omega) 12 (by omega) (by rw [show (1 : Int) + ((12 : Nat) : Int) = 13 by decide, cum_end]; rw [beg_succ] at e; omega)
  exact ⟨y, m, d - beg y - cum y m + 1, a, hy, p, by omega, by omega, by omega, by omega⟩
theorem IsDate.lo {d y m n : Int} (h : IsDate d y m n) : 0 ≤ d := by
  have := h.in_year.1
  have := beg_mono h.y1
  rw [beg_lo] at this; omega
/-- the day of a date, or the error -/
def ofE (y m n : Int) : Int × Int := if n < 1 ∨ lenM y m < n then (0, 2) else if 1048575 < beg y + cum y m + n - 1 then (0, 2) else (beg y + cum y m + n - 1, 0)
theorem ofE_date {d y m n : Int} (h : IsDate d y m n) (hd : d ≤ 1048575) : ofE y m n = (d, 0) := by
  have := h.n1; have := h.n2; have := h.eq
  unfold ofE; rw [if_neg (by omega), if_neg (by omega), ← h.eq]
theorem ofE_ok {y m n : Int} (h : (ofE y m n).2 = 0) : IsDate (ofE y m n).1 y m n ∧ (ofE y m n).1 ≤ 1048575 := by
  unfold ofE at h ⊢
  split at h
  · cases h
  · split at h
    · cases h
    · rename_i h1 h2
      rw [if_neg h1, if_neg h2]
      obtain ⟨a, b, c, e⟩ := lenM_pos (y := y) (m := m) (n := n) (by omega) (by omega)
      exact ⟨⟨a, b, c, e, by omega, by omega, rfl⟩, by dsimp only; omega⟩
theorem ofE_err {y m n : Int} (h : (ofE y m n).2 ≠ 0) : ofE y m n = (0, 2) := by
  unfold ofE at h ⊢
  split
  · rfl
  · split
    · rfl
    · rename_i h1 h2; rw [if_neg h1, if_neg h2] at h; exact absurd rfl h
/-- the date of a day -/
def good (d : Int) : Prop := 0 ≤ d ∧ d ≤ 1048575
noncomputable def yearOf (d : Int) : Int := open Classical in if h : 0 ≤ d ∧ d ≤ 1048575 then (date_ex h.1 h.2).choose else 0
theorem dateR (d : Int) : (good d ∧ ∃ y m n, IsDate d y m n) ∨ ¬ good d := by
  by_cases h : good d
  · exact .inl ⟨h, date_ex h.1 h.2⟩
  · exact .inr h
/-- the day so many years later -/
def yearsE (y m n k : Int) : Int := if 4470 < y + k then 1048575 else if (ofE (y + k) m (minI n (lenM (y + k) m))).2 ≠ 0 then 1048575 else (ofE (y + k) m (minI n (lenM (y + k) m))).1
/-- the end of a year -/
def endE (y : Int) : Int := if 1048575 < beg (y + 1) - 1 then 1048575 else beg (y + 1) - 1
end Go.Abs.Day
