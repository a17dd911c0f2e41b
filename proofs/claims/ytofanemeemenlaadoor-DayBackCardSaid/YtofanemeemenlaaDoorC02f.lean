import Derived.Test.YtofanemeemenlaaDoorC02e
namespace Go.Abs.L02
open Go Go.Abs Go.Abs.Day Go.Proofs Go.RowKit
set_option linter.unusedVariables false
set_option maxRecDepth 20000
theorem d59 : IsDate 59 1600 2 29 := ⟨by decide, by decide, by decide, by decide, by decide, by decide, by decide⟩
theorem dmax : IsDate 1048575 4470 11 25 := ⟨by decide, by decide, by decide, by decide, by decide, by decide, by decide⟩
theorem c10 : Fn Tryd.prog 10 [] (.bool true) := by
  have k1 := c_Of 1600 2 29
  rw [show ofE 1600 2 29 = (59, 0) by decide] at k1
  have k2 := c_Years 59 1600 2 29 1 d59 (by decide) (by decide) (by decide)
  rw [show yearsE 1600 2 29 1 = 424 by decide] at k2
  have k3 := c_Format 1048575 4470 11 25 dmax (by decide)
  have k4 := c_Weekday 60 ⟨by decide, by decide⟩
  rw [show weekE 60 = 2 by decide] at k4
  refine mk10 rfl ⟨_, k1, _, k2, _, k3, _, k4, [], rfl, rfl, ?_⟩
  show AV.bool true = AV.bool (true && true && true && true && true && ((bs (txt 4470 11 25)).toList == (bs [52, 52, 55, 48, 45, 49, 49, 45, 50, 53]).toList) && true && true)
  rw [bs_eq, show txt 4470 11 25 = [52, 52, 55, 48, 45, 49, 49, 45, 50, 53] by decide]
  rfl
theorem l3 (a b c d : Int) : Fn Tryd.prog 3 [.agg [I a, I b, I c], I d] (.bool true) := by
  refine mk3 rfl ⟨_, c10, fun h => (by cases h), fun _ => ⟨_, c_Of a b c, _, c_rOf a b c, ?_⟩⟩
  rcases dateR d with ⟨hg, y, m, n, hD⟩ | hg
  · exact ⟨_, c_Date d y m n hD hg.2, _, c_rDate d y m n hD hg.2, _, c_Weekday d hg, _, c_rWeekday d hg, [], rfl, rfl, by simp; rfl⟩
  · exact ⟨_, c_DateBad d hg, _, c_rDateBad d hg, _, c_WeekdayBad d hg, _, c_rWeekdayBad d hg, [], rfl, rfl, by simp; rfl⟩
theorem next_date {d y m n : Int} (h : IsDate d y m n) (hd : d < 1048575) : (n < lenM y m ∧ IsDate (d + 1) y m (n + 1)) ∨ (¬ n < lenM y m ∧ m < 12 ∧ IsDate (d + 1) y (m + 1) 1) ∨ (¬ n < lenM y m ∧ ¬ m < 12 ∧ IsDate (d + 1) (y + 1) 1 1) := by
  obtain ⟨y1, y2, m1, m2, n1, n2, e⟩ := h
  by_cases h1 : n < lenM y m
  · exact .inl ⟨h1, y1, y2, m1, m2, by omega, by omega, by omega⟩
  · have hn : n = lenM y m := by omega
    by_cases h2 : m < 12
    · refine .inr (.inl ⟨h1, h2, y1, y2, by omega, by omega, by omega, ?_, ?_⟩)
      · have := lenM_ge y1 y2 (m := m + 1) (by omega) (by omega); omega
      · rw [cum_succ y1 y2 m1 m2]; omega
    · have hm : m = 12 := by omega
      subst hm
      have hc := cum_succ y1 y2 (m := 12) (by omega) (by omega)
      rw [show (12 : Int) + 1 = 13 by decide, cum_end] at hc
      have hb := beg_succ y
      have hy : y + 1 ≤ 4470 := by
        rcases Int.lt_or_le y 4470 with h | h
        · omega
        · have : y = 4470 := by omega
          subst this
          rw [show (4470 : Int) + 1 = 4471 by decide, beg_hi] at hb
          omega
      refine .inr (.inr ⟨h1, h2, by omega, hy, by omega, by omega, by omega, ?_, ?_⟩)
      · have := lenM_ge (y := y + 1) (m := 1) (by omega) hy (by omega) (by omega); omega
      · rw [cum_one]; omega
theorem cycle_date {d y m n : Int} (h : IsDate d y m n) (hd : d + 146097 ≤ 1048575) : IsDate (d + 146097) (y + 400) m n := by
  obtain ⟨y1, y2, m1, m2, n1, n2, e⟩ := h
  have hy : y + 400 ≤ 4470 := by
    rcases Int.lt_or_le 4470 (y + 400) with h | h
    · have := beg_mono (y := 4471) (z := y + 400) (by omega)
      rw [beg_hi, beg_cycle] at this
      have := cum_range y1 y2 m1 m2
      omega
    · exact h
  refine ⟨by omega, hy, m1, m2, n1, ?_, ?_⟩
  · rw [lenM_in (by omega) hy m1 m2, leap_cycle, ← lenM_in y1 y2 m1 m2]; exact n2
  · unfold cum at e ⊢; rw [beg_cycle, leap_cycle]; omega
theorem l5 (d : Int) : Fn Tryd.prog 5 [I d] (.bool true) := by
  refine mk5 rfl ⟨_, c10, fun h => (by cases h), fun _ => ⟨[], fun _ => ⟨rfl, rfl, rfl⟩, fun h => ?_⟩⟩
  simp at h
  obtain ⟨y, m, n, hD⟩ := date_ex h.1 (by omega)
  have hC := cycle_date hD (by omega)
  have w1 := c_Weekday d ⟨by omega, by omega⟩
  have w2 := c_Weekday (d + 146097) ⟨by omega, by omega⟩
  rw [show weekE (d + 146097) = weekE d by unfold weekE; omega] at w2
  have := hD.y1; have := hD.y2
  exact ⟨_, c_Date d y m n hD (by omega), _, wrap64 (by omega) (by omega), _, c_Date _ _ m n hC (by omega), _, w1, _, wrap64 (by omega) (by omega), _, w2, [], _, wrap64 (by omega) (by omega), rfl, rfl, by simp; rfl⟩
theorem l6 (year month d k : Int) : Fn Tryd.prog 6 [I year, I month, I d, I k] (.bool true) := by
  refine mk6 rfl ⟨_, c10, fun h => (by cases h), fun _ => ?_⟩
  rcases dateR d with ⟨hg, y, m, n, hD⟩ | hg
  · by_cases hk : 0 ≤ k ∧ k ≤ 200
    · exact ⟨_, c_Years d y m n k hD hg.2 hk.1 hk.2, _, c_rYears d y m n k hD hg.2 hk.1 hk.2, _, c_YearEnd d y m n hD hg.2, _, c_rYearEnd d y m n hD hg.2, [], _, c_Length year month, _, c_rLength year month, rfl, rfl, by simp; rfl⟩
    · exact ⟨_, c_YearsBad d k (fun h => hk h.2), _, c_rYearsBad d k (fun h => hk h.2), _, c_YearEnd d y m n hD hg.2, _, c_rYearEnd d y m n hD hg.2, [], _, c_Length year month, _, c_rLength year month, rfl, rfl, by simp; rfl⟩
  · exact ⟨_, c_YearsBad d k (fun h => hg h.1), _, c_rYearsBad d k (fun h => hg h.1), _, c_YearEndBad d hg, _, c_rYearEndBad d hg, [], _, c_Length year month, _, c_rLength year month, rfl, rfl, by simp; rfl⟩
theorem l8 (d : Int) (l : List UInt8) (hl : l.length ≤ 9223372036854775807) : Fn Tryd.prog 8 [I d, .str (bs l)] (.bool true) := by
  refine mk8 rfl ⟨_, c10, fun h => (by cases h), fun _ => ⟨fun _ => ⟨rfl, rfl, rfl⟩, fun h => ?_⟩⟩
  have h40 : l.length ≤ 40 := by
    have : ¬ (((bs l).size : Nat) : Int) > 40 := by simpa using h
    rw [bs_size] at this; omega
  rcases dateR d with ⟨hg, y, m, n, hD⟩ | hg
  · exact ⟨_, c_Format d y m n hD hg.2, _, c_rFormat d y m n hD hg.2, _, c_Parse l (by omega), _, c_rParse l (by omega), [], rfl, rfl, by simp; rfl⟩
  · exact ⟨_, c_FormatBad d hg, _, c_rFormatBad d hg, _, c_Parse l (by omega), _, c_rParse l (by omega), [], rfl, rfl, by simp; rfl⟩
end Go.Abs.L02
