import Derived.Test.YtioekoecinogjaaDoorC03b
namespace Go.Abs.L03
open Go Go.Abs Go.Abs.Day Go.Proofs
set_option linter.unusedVariables false
set_option maxRecDepth 20000
theorem good_iff (d : Int) : (decide (d ≥ 0) && decide (d ≤ 1048575)) = true ↔ good d := by simp [good]
def weekE (d : Int) : Int := (d + 5) % 7
theorem c_Years (d y m n k : Int) (hD : IsDate d y m n) (hd : d ≤ 1048575) (k1 : 0 ≤ k) (k2 : k ≤ 200) : Fn Tryd.prog 25 [I d, I k] (.tup [I (yearsE y m n k), I 0]) := by
  have y1 := hD.y1
  have y2 := hD.y2
  refine mk25 rfl ⟨_, c_Date d y m n hD hd, [], fun h => ?_, fun _ => ?_⟩
  · simp at h; omega
  · refine ⟨_, wrap64 (by omega) (by omega), fun h => ?_, fun h => ?_⟩
    · simp at h
      rw [yearsE, if_pos h]
      exact ⟨_, _, rfl, ⟨rfl, rfl⟩, rfl, rfl, trivial⟩
    · simp at h
      rw [yearsE, if_neg (by omega)]
      refine ⟨_, c_Length (y + k) m, _, c_Of (y + k) m _, fun h => ?_, fun h => ?_⟩
      · have h' : (ofE (y + k) m (minI n (lenM (y + k) m))).2 ≠ 0 := by simpa using h
        rw [if_pos h']
        exact ⟨_, _, rfl, ⟨rfl, rfl⟩, rfl, rfl, trivial⟩
      · have h' : (ofE (y + k) m (minI n (lenM (y + k) m))).2 = 0 := by simpa using h
        rw [if_neg (by simp [h'])]
        exact ⟨_, _, rfl, ⟨rfl, rfl⟩, rfl, rfl, trivial⟩
theorem c_YearsBad (d k : Int) (h : ¬ (good d ∧ 0 ≤ k ∧ k ≤ 200)) : Fn Tryd.prog 25 [I d, I k] (.tup [I 0, I 2]) := by
  rcases dateR d with ⟨hg, y, m, n, hD⟩ | hg
  · refine mk25 rfl ⟨_, c_Date d y m n hD hg.2, [], fun _ => ⟨_, _, rfl, ⟨rfl, rfl⟩, rfl, rfl, trivial⟩, fun h' => ?_⟩
    simp at h'
    exact absurd ⟨hg, h'⟩ h
  · exact mk25 rfl ⟨_, c_DateBad d hg, [], fun _ => ⟨_, _, rfl, ⟨rfl, rfl⟩, rfl, rfl, trivial⟩, fun h' => by simp at h'⟩
theorem c_YearEnd (d y m n : Int) (hD : IsDate d y m n) (hd : d ≤ 1048575) : Fn Tryd.prog 78 [I d] (.tup [I (endE y), I 0]) := by
  have y1 := hD.y1
  have y2 := hD.y2
  have hb := beg_bound (y := y + 1) (by omega) (by omega)
  refine mk78 rfl ⟨_, c_Date d y m n hD hd, fun h => (by cases h), fun _ => ?_⟩
  exact ⟨_, wrap64 (by omega) (by omega), _, c_begin (y + 1) (by omega) (by omega), _, wrap64 (by omega) (by omega), _, _, rfl, ⟨rfl, rfl⟩, rfl, rfl, trivial⟩
theorem c_YearEndBad (d : Int) (h : ¬ good d) : Fn Tryd.prog 78 [I d] (.tup [I 0, I 2]) :=
  mk78 rfl ⟨_, c_DateBad d h, fun _ => ⟨_, _, rfl, ⟨rfl, rfl⟩, rfl, rfl, trivial⟩, fun h => (by cases h)⟩
theorem leap_len {y m n z : Int} (h : n ≤ lenM y m) (n1 : 1 ≤ n) (z1 : 1600 ≤ z) (z2 : z ≤ 4470) : minI n (lenM z m) = if m = 2 ∧ n = 29 ∧ leapB z = false then 28 else n := by
  obtain ⟨a, b, c, e⟩ := lenM_pos n1 h
  unfold minI
  rw [lenM_in z1 z2 c e]
  rw [lenM_in a b c e] at h
  have hm := mlen_range m
  have h2 : mlen 2 = 28 := by decide
  by_cases hm2 : m = 2
  · subst hm2
    cases hz : leapB z <;> cases hy : leapB y <;> simp [hy, h2] at h ⊢ <;> (repeat' split) <;> omega
  · simp only [hm2, false_and, if_false] at h ⊢
    rw [if_neg (by omega)]
theorem lenM_big {z m : Int} (h : 4470 < z) : lenM z m = 0 := lenM_out (by omega)
theorem ofE_big {z m n : Int} (h : 4470 < z) : (ofE z m n).2 ≠ 0 := by
  unfold ofE
  rw [if_pos (by rw [lenM_big h]; omega)]; decide
theorem c_rYears (d y m n k : Int) (hD : IsDate d y m n) (hd : d ≤ 1048575) (k1 : 0 ≤ k) (k2 : k ≤ 200) : Fn Tryd.prog 56 [I d, I k] (.tup [I (yearsE y m n k), I 0]) := by
  have y1 := hD.y1
  have y2 := hD.y2
  have d0 := hD.lo
  have key : ∀ q : Int, (4470 < y + k ∨ q = minI n (lenM (y + k) m)) → yearsE y m n k = if (ofE (y + k) m q).2 ≠ 0 then 1048575 else (ofE (y + k) m q).1 := by
    intro q hq
    by_cases h : 4470 < y + k
    · rw [yearsE, if_pos h, if_pos (ofE_big h)]
    · rw [yearsE, if_neg h]
      rcases hq with hq | rfl
      · exact absurd hq h
      · rfl
  refine mk56 rfl ⟨[], _, c_Good d, fun h => ?_, fun _ => ?_⟩
  · simp at h; omega
  · refine ⟨_, c_rDate d y m n hD hd, _, wrap64 (by omega) (by omega), ?_⟩
    have fin : ∀ q : Int, (y + k ≤ 4470 → q = minI n (lenM (y + k) m)) → ((ofE (y + k) m q).2 ≠ 0 → yearsE y m n k = 1048575) ∧ ((ofE (y + k) m q).2 = 0 → yearsE y m n k = (ofE (y + k) m q).1) := by
      intro q hq
      have := key q (by rcases Int.lt_or_le 4470 (y + k) with h | h; exact .inl h; exact .inr (hq h))
      constructor
      · intro he; rw [this, if_pos he]
      · intro he; rw [this, if_neg (by simp [he])]
    have hll := fun h => leap_len (z := y + k) hD.n2 hD.n1 (by omega) h
    by_cases hc : m = 2 ∧ n = 29
    · obtain ⟨rfl, rfl⟩ := hc
      refine ⟨[(2, true), (6, true)], ?_⟩
      refine ⟨rfl, rfl, _, c_rleap (y + k) (by omega), fun hl => ?_, fun hl => ?_⟩
      · have hl : leapB (y + k) = false := by simpa using hl
        obtain ⟨f1, f2⟩ := fin 28 (fun h => by rw [hll h, if_pos ⟨rfl, rfl, hl⟩])
        refine ⟨_, c_rOf (y + k) 2 28, fun h => ?_, fun h => ?_⟩
        · rw [f1 (by simpa using h)]
          exact ⟨_, _, rfl, ⟨rfl, rfl⟩, rfl, rfl, trivial⟩
        · rw [f2 (by simpa using h)]
          exact ⟨_, _, rfl, ⟨rfl, rfl⟩, rfl, rfl, trivial⟩
      · have hl : leapB (y + k) = true := by simpa using hl
        obtain ⟨f1, f2⟩ := fin 29 (fun h => by rw [hll h, if_neg (by simp [hl])])
        refine ⟨_, c_rOf (y + k) 2 29, fun h => ?_, fun h => ?_⟩
        · rw [f1 (by simpa using h)]
          exact ⟨_, _, rfl, ⟨rfl, rfl⟩, rfl, rfl, trivial⟩
        · rw [f2 (by simpa using h)]
          exact ⟨_, _, rfl, ⟨rfl, rfl⟩, rfl, rfl, trivial⟩
    · refine ⟨[(6, false)], ?_⟩
      obtain ⟨f1, f2⟩ := fin n (fun h => by rw [hll h, if_neg (fun k => hc ⟨k.1, k.2.1⟩)])
      refine ⟨by simp; omega, fun hl => (by cases hl), fun hl => ?_⟩
      refine ⟨_, c_rOf (y + k) m n, fun h => ?_, fun h => ?_⟩
      · rw [f1 (by simpa using h)]
        exact ⟨_, _, rfl, ⟨rfl, rfl⟩, rfl, rfl, trivial⟩
      · rw [f2 (by simpa using h)]
        exact ⟨_, _, rfl, ⟨rfl, rfl⟩, rfl, rfl, trivial⟩
theorem c_rYearsBad (d k : Int) (h : ¬ (good d ∧ 0 ≤ k ∧ k ≤ 200)) : Fn Tryd.prog 56 [I d, I k] (.tup [I 0, I 2]) := by
  refine mk56 rfl ⟨[], _, c_Good d, fun _ => ⟨_, _, rfl, ⟨rfl, rfl⟩, rfl, rfl, trivial⟩, fun h' => ?_⟩
  simp at h'
  exact absurd ⟨h'.1.1, h'.1.2, h'.2⟩ h
theorem end_of {y : Int} (y1 : 1600 ≤ y) (y2 : y ≤ 4470) : ofE y 12 31 = if 1048575 < beg (y + 1) - 1 then (0, 2) else (beg (y + 1) - 1, 0) := by
  have h12 : lenM y 12 = 31 := by rw [lenM_in y1 y2 (by omega) (by omega), if_neg (by simp)]; decide
  have hc := cum_succ y1 y2 (m := 12) (by omega) (by omega)
  rw [show (12 : Int) + 1 = 13 by decide, cum_end, h12] at hc
  unfold ofE
  rw [if_neg (by omega), beg_succ, show beg y + cum y 12 + 31 - 1 = beg y + ylen y - 1 by omega]
theorem c_rYearEnd (d y m n : Int) (hD : IsDate d y m n) (hd : d ≤ 1048575) : Fn Tryd.prog 66 [I d] (.tup [I (endE y), I 0]) := by
  have he := end_of hD.y1 hD.y2
  refine mk66 rfl ⟨_, c_rDate d y m n hD hd, fun h => (by cases h), fun _ => ?_⟩
  refine ⟨_, c_rOf y 12 31, ?_⟩
  rw [he]
  unfold endE
  by_cases h : 1048575 < beg (y + 1) - 1
  · rw [if_pos h, if_pos h]
    exact ⟨fun _ => ⟨_, _, rfl, ⟨rfl, rfl⟩, rfl, rfl, trivial⟩, fun h => (by cases h)⟩
  · rw [if_neg h, if_neg h]
    exact ⟨fun h => (by cases h), fun _ => ⟨_, _, rfl, ⟨rfl, rfl⟩, rfl, rfl, trivial⟩⟩
theorem c_rYearEndBad (d : Int) (h : ¬ good d) : Fn Tryd.prog 66 [I d] (.tup [I 0, I 2]) :=
  mk66 rfl ⟨_, c_rDateBad d h, fun _ => ⟨_, _, rfl, ⟨rfl, rfl⟩, rfl, rfl, trivial⟩, fun h => (by cases h)⟩
end Go.Abs.L03
