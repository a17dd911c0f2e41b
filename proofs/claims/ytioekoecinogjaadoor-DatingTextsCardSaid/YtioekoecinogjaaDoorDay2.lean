import Derived.Test.YtioekoecinogjaaDoorDay
namespace Go.Abs.Day
open Go Go.Abs
set_option linter.unusedVariables false
/-! ### years -/
def lenX (y m : Int) : Int := if m = 2 ∧ leapB y = true then 29 else mlen m
def valX (y m n : Int) : Int := beg y + cum y m + minI n (lenX y m) - 1
theorem minI_le (a b : Int) : minI a b ≤ a ∧ minI a b ≤ b ∧ (minI a b = a ∨ minI a b = b) := by
  unfold minI; split <;> omega
theorem maxI_ge (a b : Int) : a ≤ maxI a b ∧ b ≤ maxI a b ∧ (maxI a b = a ∨ maxI a b = b) := by
  unfold maxI; split <;> omega
theorem lenX_range (y m : Int) : 28 ≤ lenX y m ∧ lenX y m ≤ 31 := by
  have := mlen_range m
  unfold lenX; split <;> omega
theorem cum_succX {y m : Int} (h3 : 1 ≤ m) (h4 : m ≤ 12) : cum y (m + 1) = cum y m + lenX y m := by
  unfold cum lenX
  cases hl : leapB y <;> rcases months h3 h4 with rfl | rfl | rfl | rfl | rfl | rfl | rfl | rfl | rfl | rfl | rfl | rfl <;> decide
theorem cum_ltX {y m m' : Int} (h3 : 1 ≤ m) (h : m < m') (h4 : m' ≤ 13) : cum y m + lenX y m ≤ cum y m' := by
  rw [← cum_succX h3 (by omega)]
  have : ∀ k : Nat, m + 1 + k ≤ 13 → cum y (m + 1) ≤ cum y (m + 1 + k) := by
    intro k
    induction k with
    | zero => intro _; simp
    | succ k ih =>
      intro hk
      have := ih (by omega)
      have h5 := cum_succX (y := y) (m := m + 1 + k) (by omega) (by omega)
      have := (lenX_range y (m + 1 + k)).1
      rw [show m + 1 + ((k + 1 : Nat) : Int) = m + 1 + k + 1 by omega]
      omega
  have := this (m' - m - 1).toNat (by omega)
  rw [show m + 1 + ((m' - m - 1).toNat : Int) = m' by omega] at this
  exact this
theorem cum_rangeX {y m : Int} (h3 : 1 ≤ m) (h4 : m ≤ 12) : 0 ≤ cum y m ∧ cum y m + lenX y m ≤ ylen y := by
  constructor
  · rcases Int.lt_or_eq_of_le h3 with h | h
    · have := cum_ltX (y := y) (m := 1) (m' := m) (by omega) (by omega) (by omega)
      have := (lenX_range y 1).1
      rw [cum_one] at *
      omega
    · rw [← h, cum_one]; omega
  · rw [← cum_end]; exact cum_ltX h3 (by omega) (by omega)
theorem valX_year {y m n : Int} (m1 : 1 ≤ m) (m2 : m ≤ 12) (n1 : 1 ≤ n) : beg y ≤ valX y m n ∧ valX y m n < beg (y + 1) := by
  have h := cum_rangeX (y := y) m1 m2
  have := minI_le n (lenX y m)
  have := lenX_range y m
  rw [beg_succ]; unfold valX; omega
theorem valX_date {d y m n : Int} (h : IsDate d y m n) : valX y m n = d := by
  have e := h.eq
  have n2 := h.n2
  rw [lenM_in h.y1 h.y2 h.m1 h.m2] at n2
  have : minI n (lenX y m) = n := by
    unfold minI lenX; rw [if_neg (by omega)]
  unfold valX; rw [this, e]
theorem step1 {y m n : Int} (m1 : 1 ≤ m) (m2 : m ≤ 12) (n1 : 1 ≤ n) : valX y m n + 365 ≤ valX (y + 1) m n ∧ valX (y + 1) m n ≤ valX y m n + 366 := by
  have hb := beg_succ y
  have hm : mlen 2 = 28 := by decide
  unfold valX
  rcases ylen_cases y with ⟨h1, h2⟩ | ⟨h1, h2⟩
  all_goals
    cases hl : leapB (y + 1)
    all_goals
      unfold cum lenX minI
      simp only [h1, hl]
      rcases months m1 m2 with rfl | rfl | rfl | rfl | rfl | rfl | rfl | rfl | rfl | rfl | rfl | rfl
      all_goals
        simp [hm]
        (repeat' split) <;> omega
theorem steps {y m n : Int} (m1 : 1 ≤ m) (m2 : m ≤ 12) (n1 : 1 ≤ n) : ∀ k : Nat, valX y m n + 365 * k ≤ valX (y + k) m n ∧ valX (y + k) m n ≤ valX y m n + 366 * k
  | 0 => by simp
  | k + 1 => by
    have := steps (y := y) m1 m2 n1 k
    have h1 := step1 (y := y + k) m1 m2 n1
    rw [show y + ((k + 1 : Nat) : Int) = y + k + 1 by omega]
    omega
theorem years_val {d y m n k : Int} (h : IsDate d y m n) (k0 : 0 ≤ k) : yearsE y m n k = minI (valX (y + k) m n) 1048575 := by
  have hv := valX_year (y := y + k) h.m1 h.m2 h.n1
  have y1 := h.y1
  unfold yearsE
  split
  · rename_i hy
    have := beg_mono (y := 4471) (z := y + k) (by omega)
    rw [beg_hi] at this
    unfold minI; rw [if_pos (by omega)]
  · rename_i hy
    have hx : lenM (y + k) m = lenX (y + k) m := by rw [lenM_in (by omega) (by omega) h.m1 h.m2]; rfl
    rw [hx]
    have hr := lenX_range (y + k) m
    have hm := minI_le n (lenX (y + k) m)
    have n1 := h.n1
    have hE : ofE (y + k) m (minI n (lenX (y + k) m)) = if 1048575 < valX (y + k) m n then (0, 2) else (valX (y + k) m n, 0) := by
      unfold ofE; rw [hx, if_neg (by omega)]; rfl
    rw [hE]
    by_cases hv2 : 1048575 < valX (y + k) m n
    · rw [if_pos hv2]; unfold minI; rw [if_pos hv2]; rfl
    · rw [if_neg hv2]; unfold minI; rw [if_neg hv2]; rfl
theorem years_range {d y m n k : Int} (h : IsDate d y m n) (hd : d ≤ 1048575) (k0 : 0 ≤ k) : d ≤ yearsE y m n k ∧ yearsE y m n k ≤ 1048575 ∧ yearsE y m n k ≤ d + 366 * k ∧ (yearsE y m n k = 1048575 ∨ d + 365 * k ≤ yearsE y m n k) := by
  have hs := steps (y := y) h.m1 h.m2 h.n1 k.toNat
  rw [show ((k.toNat : Nat) : Int) = k by omega, valX_date h] at hs
  have hm := minI_le (valX (y + k) m n) 1048575
  rw [years_val h k0]
  omega
theorem years_more {d y m n k l : Int} (h : IsDate d y m n) (k0 : 0 ≤ k) (l0 : 0 ≤ l) : yearsE y m n k ≤ yearsE y m n (k + l) := by
  have hs := steps (y := y + k) h.m1 h.m2 h.n1 l.toNat
  rw [show ((l.toNat : Nat) : Int) = l by omega] at hs
  rw [years_val h k0, years_val h (by omega), ← Int.add_assoc]
  have h1 := minI_le (valX (y + k) m n) 1048575
  have h2 := minI_le (valX (y + k + l) m n) 1048575
  omega
theorem date_lex {a b y m n y' m' n' : Int} (h : IsDate a y m n) (h' : IsDate b y' m' n') (hab : a ≤ b) : y < y' ∨ (y = y' ∧ (m < m' ∨ (m = m' ∧ n ≤ n'))) := by
  have i1 := h.in_year; have i2 := h'.in_year
  rcases Int.lt_trichotomy y y' with hy | hy | hy
  · exact .inl hy
  · subst hy
    refine .inr ⟨rfl, ?_⟩
    have e1 := h.eq; have e2 := h'.eq
    have n2 := h.n2; have n2' := h'.n2; have n1 := h.n1; have n1' := h'.n1
    rcases Int.lt_trichotomy m m' with hm | hm | hm
    · exact .inl hm
    · subst hm; exact .inr ⟨rfl, by omega⟩
    · have := cum_lt h.y1 h.y2 h'.m1 hm (by have := h.m2; omega); omega
  · have := beg_mono (y := y' + 1) (z := y) (by omega); omega
theorem valX_mono {a b y m n y' m' n' k : Int} (h : IsDate a y m n) (h' : IsDate b y' m' n') (hab : a ≤ b) : valX (y + k) m n ≤ valX (y' + k) m' n' := by
  have v1 := valX_year (y := y + k) h.m1 h.m2 h.n1
  have v2 := valX_year (y := y' + k) h'.m1 h'.m2 h'.n1
  rcases date_lex h h' hab with hy | ⟨rfl, hm | ⟨rfl, hn⟩⟩
  · have := beg_mono (y := y + k + 1) (z := y' + k) (by omega); omega
  · have := cum_ltX (y := y + k) h.m1 hm (by have := h'.m2; omega)
    have a1 := minI_le n (lenX (y + k) m)
    have a2 := minI_le n' (lenX (y + k) m')
    have := lenX_range (y + k) m'
    have := h'.n1
    unfold valX; omega
  · unfold valX
    have a1 := minI_le n (lenX (y + k) m)
    have a2 := minI_le n' (lenX (y + k) m)
    omega
theorem years_mono {a b y m n y' m' n' k : Int} (h : IsDate a y m n) (h' : IsDate b y' m' n') (hab : a ≤ b) (k0 : 0 ≤ k) : yearsE y m n k ≤ yearsE y' m' n' k := by
  rw [years_val h k0, years_val h' k0]
  have := valX_mono (k := k) h h' hab
  have h1 := minI_le (valX (y + k) m n) 1048575
  have h2 := minI_le (valX (y' + k) m' n') 1048575
  omega
theorem year_end {d y m n : Int} (h : IsDate d y m n) (hd : d ≤ 1048575) : d ≤ endE y ∧ endE y ≤ 1048575 ∧ endE y - d < 366 ∧ ∃ m' n', IsDate (endE y) y m' n' := by
  have i := h.in_year
  have hb := beg_succ y
  have hy := ylen_pos y
  have y1 := h.y1; have y2 := h.y2
  unfold endE
  split
  · rename_i hgt
    have hy : y = 4470 := by
      rcases Int.lt_or_le y 4470 with hlt | hge
      · have := beg_mono (y := y + 1) (z := 4470) (by omega)
        rw [beg_last] at this; omega
      · omega
    subst hy
    exact ⟨hd, by omega, by omega, 11, 25, by decide, by decide, by decide, by decide, by decide, by decide, by decide⟩
  · rename_i hle
    have hc := cum_succ y1 y2 (m := 12) (by omega) (by omega)
    have h12 : lenM y 12 = 31 := by rw [lenM_in y1 y2 (by omega) (by omega), if_neg (by simp)]; decide
    rw [show (12 : Int) + 1 = 13 by decide, cum_end, h12] at hc
    exact ⟨by omega, by omega, by omega, 12, 31, y1, y2, by omega, by omega, by omega, by omega, by omega⟩
end Go.Abs.Day
