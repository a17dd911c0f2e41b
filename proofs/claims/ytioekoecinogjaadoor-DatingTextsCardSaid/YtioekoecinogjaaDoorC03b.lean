import Derived.Test.YtioekoecinogjaaDoorC03a
import Derived.Test.YtioekoecinogjaaDoorDay2
namespace Go.Abs.L03
open Go Go.Abs Go.Abs.Day Go.Proofs
set_option linter.unusedVariables false
set_option maxRecDepth 20000
theorem quo64 {a b : Int} (ha : 0 ≤ a) (hb : 0 < b) (h : a ≤ 9223372036854775807) : IntKind.i64.wrap (a.tdiv b) = a / b := by
  rw [Int.tdiv_eq_ediv_of_nonneg ha]
  exact wrap64 (Int.le_trans (by decide) (Int.ediv_nonneg ha (by omega))) (Int.le_trans (Int.ediv_le_self b ha) h)
theorem c_begin (y : Int) (h : 1600 ≤ y) (h' : y ≤ 100000) : Fn Tryd.prog 73 [I y] (I (beg y)) := by
  refine mk73 rfl ⟨_, wrap64 (by omega) (by omega), _, wrap64 (by omega) (by omega), _, wrap64 (by omega) (by omega), by decide, _, quo64 (by omega) (by omega) (by omega), _, wrap64 (by omega) (by omega), _, wrap64 (by omega) (by omega), by decide, _, quo64 (by omega) (by omega) (by omega), _, wrap64 (by omega) (by omega), ?_⟩
  exact ⟨_, wrap64 (by omega) (by omega), by decide, _, quo64 (by omega) (by omega) (by omega), _, wrap64 (by omega) (by omega), rfl, rfl, rfl⟩
theorem beg_r (n : Int) (h : 1 ≤ n) : 365 * n + (n - 1) / 4 + 1 - ((n - 1) / 100 + 1) + (n - 1) / 400 + 1 = 365 * n + (n + 3) / 4 - (n + 99) / 100 + (n + 399) / 400 := by omega
theorem c_before (y : Int) (h : 1600 ≤ y) (h' : y ≤ 100000) : Fn Tryd.prog 63 [I y] (I (beg y)) := by
  refine mk63 rfl ⟨_, wrap64 (by omega) (by omega), fun h0 => ?_, fun h0 => ?_⟩
  · simp at h0
    have : y = 1600 := by omega
    subst this
    exact ⟨rfl, rfl, rfl⟩
  · simp at h0
    refine ⟨_, wrap64 (by omega) (by omega), _, wrap64 (by omega) (by omega), by decide, _, quo64 (by omega) (by omega) (by omega), _, wrap64 (by omega) (by omega), _, wrap64 (by omega) (by omega), _, wrap64 (by omega) (by omega), by decide, _, quo64 (by omega) (by omega) (by omega), _, wrap64 (by omega) (by omega), _, wrap64 (by omega) (by omega), ?_⟩
    refine ⟨_, wrap64 (by omega) (by omega), by decide, _, quo64 (by omega) (by omega) (by omega), _, wrap64 (by omega) (by omega), _, wrap64 (by omega) (by omega), rfl, rfl, ?_⟩
    rw [beg, ← beg_r (y - 1600) (by omega)]; rfl
theorem c_is (d : Int) : Fn Tryd.prog 72 [I d] (.bool (decide (d ≥ 0) && decide (d ≤ 1048575))) := mk72 rfl ⟨[], rfl, rfl, rfl⟩
theorem c_Good (d : Int) : Fn Tryd.prog 62 [I d] (.bool (decide (d ≥ 0) && decide (d ≤ 1048575))) := mk62 rfl ⟨[], rfl, rfl, rfl⟩
theorem beg_bound {y : Int} (h : 1600 ≤ y) (h' : y ≤ 4471) : 0 ≤ beg y ∧ beg y ≤ 1048612 := by
  have a := beg_mono h; have b := beg_mono h'
  rw [beg_lo] at a; rw [beg_hi] at b; omega
theorem c_Of (y m n : Int) : Fn Tryd.prog 54 [I y, I m, I n] (.tup [I (ofE y m n).1, I (ofE y m n).2]) := by
  refine mk54 rfl ⟨_, c_Length y m, [], fun h => ?_, fun h => ?_⟩
  · simp at h
    rw [ofE, if_pos h]
    exact ⟨_, _, rfl, ⟨rfl, rfl⟩, rfl, rfl, trivial⟩
  · simp at h
    have hE : ofE y m n = if 1048575 < beg y + cum y m + n - 1 then (0, 2) else (beg y + cum y m + n - 1, 0) := by unfold ofE; rw [if_neg (by omega)]
    rw [hE]
    obtain ⟨y1, y2, m1, m2⟩ := lenM_pos (y := y) (m := m) (n := n) (by omega) (by omega)
    have hb := beg_bound y1 (by omega)
    have hr := lenM_range y m
    refine ⟨_, c_begin y y1 (by omega), _, wrap64 (by omega) (by omega), _, wrap64 (by omega) (by omega), ?_⟩
    refine ⟨fun N c => ∃ k : Int, 1 ≤ k ∧ k ≤ m ∧ N = (m - k).toNat ∧ c = ⟨[(0, I y), (1, I m), (6, I 0), (7, I 0), (9, I (beg y + n - 1 + cum y k)), (10, I k)], []⟩, ⟨_, _, Wk.keep [0, 1, 6, 7, 9, 10] [], 1, by omega, m1, rfl, ?_⟩, ?_⟩
    · rw [cum_one, Int.add_zero]; rfl
    · rintro N c ⟨k, k1, k2, rfl, rfl⟩
      have hc := cum_range y1 y2 k1 (by omega : k ≤ 12)
      have hy := ylen_pos y
      have hk := lenM_range y k
      refine ⟨fun h => ?_, fun h => ?_⟩
      · simp at h
        refine ⟨_, c_Length y k, _, wrap64 (by omega) (by omega), _, wrap64 (by omega) (by omega), _, _, Wk.keep [0, 1, 6, 7, 9, 10] [], by omega, k + 1, by omega, by omega, rfl, ?_⟩
        rw [cum_succ y1 y2 k1 (by omega), ← Int.add_assoc]; rfl
      · simp at h
        have : k = m := by omega
        subst this
        refine ⟨fun h => ?_, fun h => ?_⟩
        · simp at h
          rw [if_pos (by omega)]
          exact ⟨_, _, rfl, ⟨rfl, rfl⟩, rfl, rfl, trivial⟩
        · simp at h
          rw [if_neg (by omega)]
          rw [show beg y + cum y k + n - 1 = beg y + n - 1 + cum y k by omega]
          exact ⟨_, _, rfl, ⟨rfl, rfl⟩, rfl, rfl, trivial⟩
theorem c_rOf (y m n : Int) : Fn Tryd.prog 65 [I y, I m, I n] (.tup [I (ofE y m n).1, I (ofE y m n).2]) := by
  refine mk65 rfl ⟨[], _, c_rLength y m, fun h => ?_, fun h => ?_⟩
  · simp at h
    rw [ofE, if_pos h]
    exact ⟨_, _, rfl, ⟨rfl, rfl⟩, rfl, rfl, trivial⟩
  · simp at h
    have hE : ofE y m n = if 1048575 < beg y + cum y m + n - 1 then (0, 2) else (beg y + cum y m + n - 1, 0) := by unfold ofE; rw [if_neg (by omega)]
    rw [hE]
    obtain ⟨y1, y2, m1, m2⟩ := lenM_pos (y := y) (m := m) (n := n) (by omega) (by omega)
    have hb := beg_bound y1 (by omega)
    have hr := lenM_range y m
    refine ⟨_, c_before y y1 (by omega), _, wrap64 (by omega) (by omega), _, wrap64 (by omega) (by omega), ?_⟩
    refine ⟨fun N c => ∃ k : Int, 1 ≤ k ∧ k ≤ m ∧ N = (m - k).toNat ∧ c = ⟨[(0, I y), (1, I m), (6, I 0), (7, I 0), (8, I (beg y + n - 1 + cum y k)), (9, I k)], []⟩, ⟨_, _, Wk.keep [0, 1, 6, 7, 8, 9] [], 1, by omega, m1, rfl, ?_⟩, ?_⟩
    · rw [cum_one, Int.add_zero]; rfl
    · rintro N c ⟨k, k1, k2, rfl, rfl⟩
      have hc := cum_range y1 y2 k1 (by omega : k ≤ 12)
      have hy := ylen_pos y
      have hk := lenM_range y k
      refine ⟨fun h => ?_, fun h => ?_⟩
      · simp at h
        refine ⟨_, c_rLength y k, _, wrap64 (by omega) (by omega), _, wrap64 (by omega) (by omega), _, _, Wk.keep [0, 1, 6, 7, 8, 9] [], by omega, k + 1, by omega, by omega, rfl, ?_⟩
        rw [cum_succ y1 y2 k1 (by omega), ← Int.add_assoc]; rfl
      · simp at h
        have : k = m := by omega
        subst this
        refine ⟨fun h => ?_, fun h => ?_⟩
        · simp at h
          rw [if_pos (by omega)]
          exact ⟨_, _, rfl, ⟨rfl, rfl⟩, rfl, rfl, trivial⟩
        · simp at h
          rw [if_neg (by omega)]
          rw [show beg y + cum y k + n - 1 = beg y + n - 1 + cum y k by omega]
          exact ⟨_, _, rfl, ⟨rfl, rfl⟩, rfl, rfl, trivial⟩
theorem est_le {d y m n : Int} (h : IsDate d y m n) : 1600 + 400 * (d / 146097) + d % 146097 / 366 ≤ y := by
  have h0 := h.lo
  have h1 := h.in_year
  rcases Int.lt_or_le y (1600 + 400 * (d / 146097) + d % 146097 / 366) with hlt | hle
  · have h2 := beg_mono (y := y + 1) (z := 1600 + 400 * (d / 146097) + d % 146097 / 366) (by omega)
    have h3 : beg (1600 + 400 * (d / 146097) + d % 146097 / 366) ≤ d := by
      unfold beg; omega
    omega
  · exact hle
theorem rest_le {d y m n : Int} (h : IsDate d y m n) : 1600 + d / 366 ≤ y := by
  have h0 := h.lo
  have h1 := h.in_year
  rcases Int.lt_or_le y (1600 + d / 366) with hlt | hle
  · have h2 := beg_mono (y := y + 1) (z := 1600 + d / 366) (by omega)
    have h3 : beg (1600 + d / 366) ≤ d := by
      unfold beg; omega
    omega
  · exact hle
theorem rem64 {a b : Int} (ha : 0 ≤ a) : a.tmod b = a % b := Int.tmod_eq_emod_of_nonneg ha
theorem c_Date (d y m n : Int) (hD : IsDate d y m n) (hd : d ≤ 1048575) : Fn Tryd.prog 53 [I d] (.tup [I y, I m, I n, I 0]) := by
  have h0 := hD.lo
  have hy := hD.in_year
  have y1 := hD.y1
  have y2 := hD.y2
  refine mk53 rfl ⟨_, c_is d, fun h => ?_, fun _ => ?_⟩
  · simp at h; omega
  refine ⟨by decide, _, quo64 h0 (by omega) (by omega), _, wrap64 (by omega) (by omega), _, wrap64 (by omega) (by omega), by decide, by decide, _, quo64 (by rw [rem64 h0]; omega) (by omega) (by rw [rem64 h0]; omega), _, wrap64 (by rw [rem64 h0]; omega) (by rw [rem64 h0]; omega), ?_⟩
  refine ⟨fun N c => ∃ z : Int, 1600 ≤ z ∧ z ≤ y ∧ N = (y - z).toNat ∧ c = ⟨[(0, I d), (2, I z), (3, I 0), (4, I 0), (5, I 0)], []⟩, ⟨_, _, Wk.keep [0, 2, 3, 4, 5] [], 1600 + 400 * (d / 146097) + d % 146097 / 366, by omega, est_le hD, rfl, ?_⟩, ?_⟩
  · rw [← rem64 (b := 146097) h0]; rfl
  rintro N c ⟨z, z1, z2, rfl, rfl⟩
  refine ⟨_, wrap64 (by omega) (by omega), _, c_begin (z + 1) (by omega) (by omega), fun h => ?_, fun h => ?_⟩
  · simp at h
    have hz : z < y := by
      rcases Int.lt_or_eq_of_le z2 with h' | h'
      · exact h'
      · subst h'; omega
    exact ⟨_, wrap64 (by omega) (by omega), _, _, Wk.keep [0, 2, 3, 4, 5] [], by omega, z + 1, by omega, by omega, rfl, rfl⟩
  · simp at h
    have hz : z = y := by
      rcases Int.lt_or_eq_of_le z2 with h' | h'
      · have := beg_mono (y := z + 1) (z := y) (by omega); omega
      · exact h'
    subst hz
    have hb := beg_bound y1 (by omega)
    have he := hD.eq
    have m1 := hD.m1; have m2 := hD.m2; have n1 := hD.n1; have n2 := hD.n2
    have hcm := cum_range y1 y2 m1 m2
    have hyl := ylen_pos z
    refine ⟨_, c_begin z z1 (by omega), _, wrap64 (by omega) (by omega), ?_⟩
    refine ⟨fun N c => ∃ k : Int, 1 ≤ k ∧ k ≤ m ∧ N = (m - k).toNat ∧ c = ⟨[(0, I (d - beg z - cum z k)), (2, I z), (3, I k), (4, I 0), (5, I 0)], []⟩, ⟨_, _, Wk.keep [0, 2, 3, 4, 5] [], 1, by omega, m1, rfl, ?_⟩, ?_⟩
    · rw [cum_one, Int.sub_zero]; rfl
    · rintro N c ⟨k, k1, k2, rfl, rfl⟩
      have hc := cum_range y1 y2 k1 (by omega : k ≤ 12)
      have hk := lenM_range z k
      refine ⟨_, c_Length z k, fun h => ?_, fun h => ?_⟩
      · simp at h
        have hkm : k < m := by
          rcases Int.lt_or_eq_of_le k2 with h' | h'
          · exact h'
          · subst h'; omega
        refine ⟨_, c_Length z k, _, wrap64 (by omega) (by omega), _, wrap64 (by omega) (by omega), _, _, Wk.keep [0, 2, 3, 4, 5] [], by omega, k + 1, by omega, by omega, rfl, ?_⟩
        rw [cum_succ y1 y2 k1 (by omega), ← Int.sub_sub]; rfl
      · simp at h
        have hkm : k = m := by
          rcases Int.lt_or_eq_of_le k2 with h' | h'
          · have := cum_lt y1 y2 k1 h' (by omega); omega
          · exact h'
        subst hkm
        refine ⟨_, wrap64 (by omega) (by omega), ?_⟩
        rw [show n = d - beg z - cum z k + 1 by omega]
        exact ⟨_, _, rfl, ⟨rfl, rfl⟩, rfl, rfl, rfl, rfl, rfl, rfl, trivial⟩
theorem c_DateBad (d : Int) (h : ¬ good d) : Fn Tryd.prog 53 [I d] (.tup [I 0, I 0, I 0, I 2]) := by
  refine mk53 rfl ⟨_, c_is d, fun _ => ⟨_, _, rfl, ⟨rfl, rfl⟩, rfl, rfl, rfl, rfl, rfl, rfl, trivial⟩, fun h' => ?_⟩
  simp at h'
  exact absurd h' h
theorem c_rDate (d y m n : Int) (hD : IsDate d y m n) (hd : d ≤ 1048575) : Fn Tryd.prog 36 [I d] (.tup [I y, I m, I n, I 0]) := by
  have h0 := hD.lo
  have hy := hD.in_year
  have y1 := hD.y1
  have y2 := hD.y2
  refine mk36 rfl ⟨_, c_Good d, fun h => ?_, fun _ => ?_⟩
  · simp at h; omega
  refine ⟨by decide, _, quo64 h0 (by omega) (by omega), _, wrap64 (by omega) (by omega), ?_⟩
  refine ⟨fun N c => ∃ z : Int, 1600 ≤ z ∧ z ≤ y ∧ N = (y - z).toNat ∧ c = ⟨[(0, I d), (2, I 0), (3, I 0), (4, I 0), (5, I 0), (6, I z)], []⟩, ⟨_, _, Wk.keep [0, 2, 3, 4, 5, 6] [], 1600 + d / 366, by omega, rest_le hD, rfl, rfl⟩, ?_⟩
  rintro N c ⟨z, z1, z2, rfl, rfl⟩
  refine ⟨_, wrap64 (by omega) (by omega), _, c_before (z + 1) (by omega) (by omega), fun h => ?_, fun h => ?_⟩
  · simp at h
    have hz : z < y := by
      rcases Int.lt_or_eq_of_le z2 with h' | h'
      · exact h'
      · subst h'; omega
    exact ⟨_, wrap64 (by omega) (by omega), _, _, Wk.keep [0, 2, 3, 4, 5, 6] [], by omega, z + 1, by omega, by omega, rfl, rfl⟩
  · simp at h
    have hz : z = y := by
      rcases Int.lt_or_eq_of_le z2 with h' | h'
      · have := beg_mono (y := z + 1) (z := y) (by omega); omega
      · exact h'
    subst hz
    have hb := beg_bound y1 (by omega)
    have he := hD.eq
    have m1 := hD.m1; have m2 := hD.m2; have n1 := hD.n1; have n2 := hD.n2
    have hcm := cum_range y1 y2 m1 m2
    have hyl := ylen_pos z
    refine ⟨_, c_before z z1 (by omega), _, wrap64 (by omega) (by omega), ?_⟩
    refine ⟨fun N c => ∃ k : Int, 1 ≤ k ∧ k ≤ m ∧ N = (m - k).toNat ∧ c = ⟨[(0, I (d - beg z - cum z k)), (2, I 0), (3, I 0), (4, I 0), (5, I 0), (6, I z), (7, I k)], []⟩, ⟨_, _, Wk.keep [0, 2, 3, 4, 5, 6, 7] [], 1, by omega, m1, rfl, ?_⟩, ?_⟩
    · rw [cum_one, Int.sub_zero]; rfl
    · rintro N c ⟨k, k1, k2, rfl, rfl⟩
      have hc := cum_range y1 y2 k1 (by omega : k ≤ 12)
      have hk := lenM_range z k
      refine ⟨_, c_rLength z k, fun h => ?_, fun h => ?_⟩
      · simp at h
        have hkm : k < m := by
          rcases Int.lt_or_eq_of_le k2 with h' | h'
          · exact h'
          · subst h'; omega
        refine ⟨_, c_rLength z k, _, wrap64 (by omega) (by omega), _, wrap64 (by omega) (by omega), _, _, Wk.keep [0, 2, 3, 4, 5, 6, 7] [], by omega, k + 1, by omega, by omega, rfl, ?_⟩
        rw [cum_succ y1 y2 k1 (by omega), ← Int.sub_sub]; rfl
      · simp at h
        have hkm : k = m := by
          rcases Int.lt_or_eq_of_le k2 with h' | h'
          · have := cum_lt y1 y2 k1 h' (by omega); omega
          · exact h'
        subst hkm
        refine ⟨_, wrap64 (by omega) (by omega), ?_⟩
        rw [show n = d - beg z - cum z k + 1 by omega]
        exact ⟨_, _, rfl, ⟨rfl, rfl⟩, rfl, rfl, rfl, rfl, rfl, rfl, trivial⟩
theorem c_rDateBad (d : Int) (h : ¬ good d) : Fn Tryd.prog 36 [I d] (.tup [I 0, I 0, I 0, I 2]) := by
  refine mk36 rfl ⟨_, c_Good d, fun _ => ⟨_, _, rfl, ⟨rfl, rfl⟩, rfl, rfl, rfl, rfl, rfl, rfl, trivial⟩, fun h' => ?_⟩
  simp at h'
  exact absurd h' h
end Go.Abs.L03
