import Derived.Test.YtioekoecinogjaaDoorB03
import Derived.Test.YtioekoecinogjaaDoorDay
namespace Go.Abs.L03
open Go Go.Abs Go.Abs.Day Go.Proofs
set_option linter.unusedVariables false
set_option maxRecDepth 20000
abbrev I (n : Int) : AV := .int .i64 n
theorem leap_t (y : Int) (h : 0 ≤ y) : ((y.tmod 4 == 0) && ((y.tmod 100 != 0) || (y.tmod 400 == 0))) = leapB y := by
  rw [Int.tmod_eq_emod_of_nonneg h, Int.tmod_eq_emod_of_nonneg h, Int.tmod_eq_emod_of_nonneg h]
  rw [Bool.eq_iff_iff, leap_iff]
  simp
theorem leap_r (y : Int) (h : 0 ≤ y) : (((y.tmod 4 == 0) && (y.tmod 100 != 0)) || (y.tmod 400 == 0)) = leapB y := by
  rw [Int.tmod_eq_emod_of_nonneg h, Int.tmod_eq_emod_of_nonneg h, Int.tmod_eq_emod_of_nonneg h]
  rw [Bool.eq_iff_iff, leap_iff]
  simp
  omega
theorem c_leap (y : Int) (h : 0 ≤ y) : Fn Tryd.prog 74 [I y] (.bool (leapB y)) :=
  mk74 rfl ⟨[], by decide, by decide, by decide, rfl, rfl, by rw [← leap_t y h]; rfl⟩
theorem c_rleap (y : Int) (h : 0 ≤ y) : Fn Tryd.prog 76 [I y] (.bool (leapB y)) :=
  mk76 rfl ⟨[], by decide, by decide, by decide, rfl, rfl, by rw [← leap_r y h]; rfl⟩
def lens : List AV := [I 31, I 28, I 31, I 30, I 31, I 30, I 31, I 31, I 30, I 31, I 30, I 31]
theorem c_lengths : Fn Tryd.prog 75 [] (.agg lens) := mk75 rfl ⟨rfl, rfl, rfl⟩
theorem lens_at {m : Int} (h3 : 1 ≤ m) (h4 : m ≤ 12) : lens[(m - 1).toNat]? = some (I (mlen m)) := by
  rcases months h3 h4 with rfl | rfl | rfl | rfl | rfl | rfl | rfl | rfl | rfl | rfl | rfl | rfl <;> rfl
theorem c_Length (y m : Int) : Fn Tryd.prog 55 [I y, I m] (I (lenM y m)) := by
  refine mk55 rfl ⟨[], fun h => ?_, fun h => ?_⟩
  · simp at h
    rw [lenM_out (by omega)]
    exact ⟨rfl, rfl, rfl⟩
  · simp at h
    by_cases h2 : m = 2
    · refine ⟨[(2, true)], by simp [h2], _, c_leap y (by omega), fun hl => ?_, fun hl => ?_⟩
      · rw [lenM_in (by omega) (by omega) (by omega) (by omega), if_pos ⟨h2, by simpa using hl⟩]
        exact ⟨rfl, rfl, rfl⟩
      · have hl : leapB y = false := by simpa using hl
        refine ⟨_, c_lengths, _, wrap64 (by omega) (by omega), [I (mlen m)], ⟨by omega, by omega, lens_at (by omega) (by omega)⟩, rfl, rfl, ?_⟩
        rw [lenM_in (by omega) (by omega) (by omega) (by omega), if_neg (by simp [hl])]; rfl
    · refine ⟨[(2, false)], ?_⟩
      refine ⟨by simp [h2], fun hl => (by cases hl), fun hl => ?_⟩
      refine ⟨_, c_lengths, _, wrap64 (by omega) (by omega), [I (mlen m)], ⟨by omega, by omega, lens_at (by omega) (by omega)⟩, rfl, rfl, ?_⟩
      rw [lenM_in (by omega) (by omega) (by omega) (by omega), if_neg (by simp [h2])]; rfl
theorem c_rLength (y m : Int) : Fn Tryd.prog 64 [I y, I m] (I (lenM y m)) := by
  refine mk64 rfl ⟨[], fun h => ?_, fun h => ?_⟩
  · simp at h
    rw [lenM_out (by omega)]
    exact ⟨rfl, rfl, rfl⟩
  · simp at h
    by_cases h2 : m = 2
    · refine ⟨[(2, true)], by simp [h2], _, c_rleap y (by omega), fun hl => ?_, fun hl => ?_⟩
      · rw [lenM_in (by omega) (by omega) (by omega) (by omega), if_pos ⟨h2, by simpa using hl⟩]
        exact ⟨rfl, rfl, rfl⟩
      · have hl : leapB y = false := by simpa using hl
        refine ⟨_, wrap64 (by omega) (by omega), [I (mlen m)], ⟨by omega, by omega, lens_at (by omega) (by omega)⟩, rfl, rfl, ?_⟩
        rw [lenM_in (by omega) (by omega) (by omega) (by omega), if_neg (by simp [hl])]; rfl
    · refine ⟨[(2, false)], ?_⟩
      refine ⟨by simp [h2], fun hl => (by cases hl), fun hl => ?_⟩
      refine ⟨_, wrap64 (by omega) (by omega), [I (mlen m)], ⟨by omega, by omega, lens_at (by omega) (by omega)⟩, rfl, rfl, ?_⟩
      rw [lenM_in (by omega) (by omega) (by omega) (by omega), if_neg (by simp [h2])]; rfl
end Go.Abs.L03
