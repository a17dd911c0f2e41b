import Derived.Test.YtofanemeemenlaaDoorC02f
namespace Go.Abs.L02
open Go Go.Abs Go.Abs.Day Go.Proofs Go.RowKit
set_option linter.unusedVariables false
set_option maxRecDepth 20000
theorem l4 (d : Int) (hi : i64 d) : Fn Tryd.prog 4 [I d] (.bool true) := by
  obtain ⟨hi1, hi2⟩ := hi
  refine mk4 rfl ⟨_, c10, fun h => (by cases h), fun _ => ?_⟩
  have hgood : ∀ x, good x ↔ (0 ≤ x ∧ x ≤ 1048575) := fun x => Iff.rfl
  rcases dateR d with ⟨hg, y, m, n, hD⟩ | hg
  · rw [hgood] at hg
    have y1 := hD.y1; have y2 := hD.y2; have n1 := hD.n1; have n2 := hD.n2; have hl := lenM_range y m
    have m1 := hD.m1; have m2 := hD.m2
    by_cases hlast : d = 1048575
    · refine ⟨_, c_Date d y m n hD hg.2, _, wrap64 (by omega) (by omega), _, c_DateBad (d + 1) (by rw [hgood]; omega), [], fun _ => ⟨[], rfl, rfl, ?_⟩, fun h => (by cases h)⟩
      have : decide (d ≥ 1048575) = true := by simp; omega
      simp only [ge_iff_le] at this
      simp [this]; rfl
    · have w1 := c_Weekday d ⟨by omega, by omega⟩
      have w2 := c_Weekday (d + 1) ⟨by omega, by omega⟩
      have hw : (weekE (d + 1) != (weekE d + 1).tmod 7) = false := by
        have : 0 ≤ weekE d := by unfold weekE; omega
        rw [rem64 (by omega)]
        unfold weekE
        simp; omega
      have hr : weekE d ≤ 6 ∧ 0 ≤ weekE d := by unfold weekE; omega
      rcases next_date hD (by omega) with ⟨h1, hN⟩ | ⟨h1, h2, hN⟩ | ⟨h1, h2, hN⟩
      · refine ⟨_, c_Date d y m n hD hg.2, _, wrap64 (by omega) (by omega), _, c_Date (d + 1) _ _ _ hN (by omega), [], fun h => (by cases h), fun _ => ⟨_, w1, _, wrap64 (by omega) (by omega), _, w2, [], _, wrap64 (by omega) (by omega), by decide, fun h => ?_, fun _ => ?_⟩⟩
        · rw [hw] at h; cases h
        · refine ⟨_, c_Length y m, fun _ => ⟨[], _, wrap64 (by omega) (by omega), rfl, rfl, by simp; rfl⟩, fun h => ?_⟩
          simp at h; omega
      · refine ⟨_, c_Date d y m n hD hg.2, _, wrap64 (by omega) (by omega), _, c_Date (d + 1) _ _ _ hN (by omega), [], fun h => (by cases h), fun _ => ⟨_, w1, _, wrap64 (by omega) (by omega), _, w2, [], _, wrap64 (by omega) (by omega), by decide, fun h => ?_, fun _ => ?_⟩⟩
        · rw [hw] at h; cases h
        · refine ⟨_, c_Length y m, fun h => ?_, fun h => ⟨fun _ => ⟨[], _, wrap64 (by omega) (by omega), rfl, rfl, by simp; rfl⟩, fun h => ?_⟩⟩
          · simp at h; omega
          · simp at h; omega
      · refine ⟨_, c_Date d y m n hD hg.2, _, wrap64 (by omega) (by omega), _, c_Date (d + 1) _ _ _ hN (by omega), [], fun h => (by cases h), fun _ => ⟨_, w1, _, wrap64 (by omega) (by omega), _, w2, [], _, wrap64 (by omega) (by omega), by decide, fun h => ?_, fun _ => ?_⟩⟩
        · rw [hw] at h; cases h
        · refine ⟨_, c_Length y m, fun h => ?_, fun h => ⟨fun h => ?_, fun h => ⟨[], _, wrap64 (by omega) (by omega), rfl, rfl, by simp; rfl⟩⟩⟩
          · simp at h; omega
          · simp at h; omega
  · rw [hgood] at hg
    have hout : (decide (d < 0) || decide (d > 1048575)) = true := by simp; omega
    by_cases h1 : d = -1
    · subst h1
      obtain ⟨y, m, n, hD⟩ := date_ex (d := -1 + 1) (by omega) (by omega)
      exact ⟨_, c_DateBad (-1) (by rw [hgood]; omega), _, wrap64 (by omega) (by omega), _, c_Date (-1 + 1) y m n hD (by omega), [], fun _ => ⟨[], rfl, rfl, rfl⟩, fun h => (by cases h)⟩
    · have hb : ¬ good (IntKind.i64.wrap (d + 1)) := by
        rw [hgood, IntKind.wrap_i64]; omega
      obtain ⟨e, he⟩ : ∃ e, IntKind.i64.wrap (d + 1) = e := ⟨_, rfl⟩
      rw [he] at hb
      have h2 : (decide (d < -1) || decide (d ≥ 1048575)) = true := by simp; omega
      refine ⟨_, c_DateBad d (by rw [hgood]; omega), e, he, _, c_DateBad e hb, [], fun _ => ?_, fun h => (by cases h)⟩
      refine ⟨[(2, false), (5, true), (9, true), (13, true), (22, true), (25, false), (28, true), (32, true), (36, true)], ?_⟩
      refine ⟨rfl, rfl, rfl, rfl, ?_, rfl, rfl, rfl, rfl, rfl, rfl, ?_⟩
      · simpa using hout
      · show AV.bool true = AV.bool (true && (false || (true && (decide (d < -1) || decide (d ≥ 1048575)))))
        rw [h2]; rfl
end Go.Abs.L02
