import Derived.Test.YtioekoecinogjaaDoorC03l
namespace Go.Abs.L03
open Go Go.Abs Go.Abs.Day Go.Proofs Go.RowKit
set_option linter.unusedVariables false
set_option maxRecDepth 20000
def y23 : List UInt8 := [49, 57, 50, 51]
def y24 : List UInt8 := [49, 57, 50, 52]
theorem p23 : parseD y23 = (yearD 1923, 0) := by
  have hp : parseE (fullL y23) = (beg 1923, 0) := by decide +kernel
  have hr : readR y23 = (yearD 1923, true) := by
    rw [readR, hp, if_neg (by simp)]
    exact Prod.ext (per4 (first_year (by decide) (by decide))) rfl
  rw [parseD, if_neg (by decide), if_neg (by decide), if_neg (by decide), if_neg (by decide), joinR, if_neg (by decide)]
  simp only [List.all_cons, List.all_nil, List.map_cons, List.map_nil, hr]
  decide +kernel
theorem p24 : parseD y24 = (yearD 1924, 0) := by
  have hp : parseE (fullL y24) = (beg 1924, 0) := by decide +kernel
  have hr : readR y24 = (yearD 1924, true) := by
    rw [readR, hp, if_neg (by simp)]
    exact Prod.ext (per4 (first_year (by decide) (by decide))) rfl
  rw [parseD, if_neg (by decide), if_neg (by decide), if_neg (by decide), if_neg (by decide), joinR, if_neg (by decide)]
  simp only [List.all_cons, List.all_nil, List.map_cons, List.map_nil, hr]
  decide +kernel
theorem f23 : fmtE (yearD 1923) = (y23, 0) := by
  have hD := first_year (y := 1923) (by decide) (by decide)
  rw [fmtE, if_neg (by decide +kernel), if_neg (by decide +kernel), show (yearD 1923).lo = beg 1923 from rfl, if_pos (per4 hD), tx_eq hD]
  decide +kernel
theorem c11 : Fn Tryd.prog 11 [] (.bool true) := by
  have h1 := c14 y23 (by decide)
  have h2 := c14 y24 (by decide)
  have h3 := c12 (yearD 1923)
  have h4 := c17 (yearD 1923) (yearD 1924)
  have h5 := c_dCheck ⟨1, 0⟩
  rw [p23] at h1
  rw [p24] at h2
  rw [f23] at h3
  rw [show befR (yearD 1923) (yearD 1924) = (2, 0) by decide +kernel] at h4
  rw [show chkD ⟨1, 0⟩ = 1 by decide] at h5
  refine mk11 rfl ⟨_, h1, _, h2, _, h3, _, h4, [], _, h5, rfl, rfl, ?_⟩
  show AV.bool true = AV.bool (((0 : Int) == 0) && ((0 : Int) == 0) && ((0 : Int) == 0) && ((bs y23).toList == (bs y23).toList) && ((0 : Int) == 0) && ((2 : Int) == 2) && ((1 : Int) == 1))
  rw [bs_eq]
  rfl
theorem l5 (a b : Dat) : Fn Tryd.prog 5 [.agg (encD a), .agg (encD b)] (.bool true) := by
  refine mk5 rfl ⟨_, c11, fun h => (by cases h), fun _ => ⟨_, c17 a b, _, c18 a b, _, c19 a b, _, c20 a b, [], _, c_dCheck a, _, c_rdCheck a, rfl, rfl, ?_⟩⟩
  show AV.bool true = AV.bool ((chkD a == chkD a) && ((befR a b).1 == (befR a b).1) && ((befR a b).2 == (befR a b).2) && ((sameR a b).1 == (sameR a b).1) && ((sameR a b).2 == (sameR a b).2))
  simp
theorem l10 (a b : Dat) (l : List Dat) (n : Int) : Fn Tryd.prog 10 [.agg (encD a), .agg (encD b), D l, I n] (.bool true) := by
  refine mk10 rfl ⟨_, c11, fun h => (by cases h), fun _ => ⟨[], fun h => ⟨rfl, rfl, rfl⟩, fun h => ?_⟩⟩
  refine ⟨_, c24 a n, _, c26 a n, _, c_Meet a b, _, c27 a b, _, c23 l, _, c28 l, [], rfl, rfl, ?_⟩
  show AV.bool true = AV.bool (eqL (encD (yearsR a n).1) (encD (yearsR a n).1) && ((yearsR a n).2 == (yearsR a n).2) && eqL (encD (meetE a b).1) (encD (meetE a b).1) && ((meetE a b).2 == (meetE a b).2) && eqL (encD (hullR l).1) (encD (hullR l).1) && ((hullR l).2 == (hullR l).2))
  simp [eqL_D]
theorem befR_eq {a b : Dat} (ha : okD a = true) (hb : okD b = true) : befR a b = if a.hi < b.lo then (2, 0) else if a.lo ≥ b.hi then (0, 0) else (1, 0) := by
  rw [befR, if_neg (by simp [ha, hb])]
theorem sameR_eq {a b : Dat} (ha : okD a = true) (hb : okD b = true) : sameR a b = if a.hi < b.lo ∨ b.hi < a.lo then (0, 0) else if a = b ∧ a.lo = a.hi then (2, 0) else (1, 0) := by
  rw [sameR, if_neg (by simp [ha, hb])]
theorem bef_ok {a b : Dat} (ha : okD a = true) (hb : okD b = true) : (befR a b).2 = 0 := by
  rw [befR_eq ha hb]; (repeat' split) <;> rfl
theorem same_ok {a b : Dat} (ha : okD a = true) (hb : okD b = true) : (sameR a b).2 = 0 := by
  rw [sameR_eq ha hb]; (repeat' split) <;> rfl
theorem bef_narrow {a b x : Dat} (ha : okD a = true) (hb : okD b = true) (hx : okD x = true) (h1 : a.lo ≤ x.lo) (h2 : x.hi ≤ a.hi) : ((befR a b).1 = 1 ∨ (befR x b).1 = (befR a b).1) ∧ ((befR b a).1 = 1 ∨ (befR b x).1 = (befR b a).1) := by
  rw [befR_eq ha hb, befR_eq hx hb, befR_eq hb ha, befR_eq hb hx]
  rw [okD_iff] at ha hb hx
  constructor
  · (repeat' split) <;> simp <;> omega
  · (repeat' split) <;> simp <;> omega
theorem same_narrow {a b x : Dat} (ha : okD a = true) (hb : okD b = true) (hx : okD x = true) (h1 : a.lo ≤ x.lo) (h2 : x.hi ≤ a.hi) : (sameR a b).1 = 1 ∨ (sameR x b).1 = (sameR a b).1 := by
  rw [sameR_eq ha hb, sameR_eq hx hb]
  rw [okD_iff] at ha hb hx
  by_cases h : a.hi < b.lo ∨ b.hi < a.lo
  · rw [if_pos h, if_pos (by omega)]; simp
  · rw [if_neg h]
    by_cases he : a = b ∧ a.lo = a.hi
    · rw [if_pos he]
      obtain ⟨rfl, he⟩ := he
      have hxa : x = a := by
        obtain ⟨x1, x2⟩ := x; obtain ⟨a1, a2⟩ := a
        simp at *; omega
      rw [if_neg (by rw [hxa]; omega), if_pos ⟨hxa, by rw [hxa]; exact he⟩]; simp
    · rw [if_neg he]; simp
theorem pick_ok (n m : Int) (h : n = 1 ∨ m = n) : ((n == 1) || (m == n)) = true := by
  rcases h with h | h <;> simp [h]
theorem l9 (a : Dat) (x k : Int) (hx0 : 0 ≤ x) (hx1 : x ≤ 4294967295) (hk0 : 0 ≤ k) (hk1 : k ≤ 255) : Fn Tryd.prog 9 [.agg (encD a), .int .u32 x, .int .u8 k] (.bool true) := by
  have hm : k.tmod 201 = k % 201 := Int.tmod_eq_emod_of_nonneg hk0
  have hm0 : 0 ≤ k.tmod 201 ∧ k.tmod 201 ≤ 200 := by rw [hm]; omega
  refine mk9 rfl ⟨_, c11, fun h => (by cases h), fun _ => ⟨_, wrap64 (by omega) (by omega), by decide, _, c24 a (k.tmod 201), _, c_dCheck a, fun h => ?_, fun h => ?_⟩⟩
  · have h : (chkD a != 0) = true := h
    rw [chk_bne] at h
    have hf : okD a = false := by simpa using h
    have hy : yearsR a (k.tmod 201) = (zD, 1) := by rw [yearsR, if_pos hf]
    rw [hy]
    refine ⟨[], rfl, rfl, ?_⟩
    show AV.bool true = AV.bool (((1 : Int) == 1) && eqL (encD zD) (encD zD))
    rw [eqL_D]; simp
  · have h : (chkD a != 0) = false := h
    rw [chk_bne] at h
    have hok : okD a = true := by simpa using h
    have hy : yearsR a (k.tmod 201) = (⟨yrs a.lo (k.tmod 201), yrs a.hi (k.tmod 201)⟩, 0) := by rw [yearsR, if_neg (by simp [hok]), if_neg (by omega)]
    rw [hy]
    rw [okD_iff] at hok
    have glo : good a.lo := ⟨by omega, by omega⟩
    have ghi : good a.hi := ⟨by omega, by omega⟩
    have hr : x.tmod (a.hi - a.lo + 1) = x % (a.hi - a.lo + 1) := Int.tmod_eq_emod_of_nonneg hx0
    have hr0 := Int.emod_nonneg x (b := a.hi - a.lo + 1) (by omega)
    have hr1 := Int.emod_lt_of_pos x (b := a.hi - a.lo + 1) (by omega)
    have gm : good (a.lo + x.tmod (a.hi - a.lo + 1)) := by rw [hr]; exact ⟨by omega, by omega⟩
    have m1 := yrs_mono glo gm (by rw [hr]; omega) hm0.1
    have m2 := yrs_mono gm ghi (by rw [hr]; omega) hm0.1
    refine ⟨_, wrap64 (by omega) (by omega), _, wrap64 (by omega) (by omega), _, wrap64 (by omega) (by omega), by omega, _, wrap64 (by rw [hr]; omega) (by rw [hr]; omega), _, c_yrs _ _ gm hm0.1 hm0.2, _, c_yrs _ _ glo hm0.1 hm0.2, _, c_yrs _ _ ghi hm0.1 hm0.2, [], rfl, rfl, ?_⟩
    show AV.bool true = AV.bool (((0 : Int) == 0) && ((0 : Int) == 0) && ((0 : Int) == 0) && ((0 : Int) == 0) && eqL (encD ⟨yrs a.lo (k.tmod 201), yrs a.hi (k.tmod 201)⟩) (encD ⟨yrs a.lo (k.tmod 201), yrs a.hi (k.tmod 201)⟩) && decide (yrs a.lo (k.tmod 201) ≤ yrs (a.lo + x.tmod (a.hi - a.lo + 1)) (k.tmod 201)) && decide (yrs (a.lo + x.tmod (a.hi - a.lo + 1)) (k.tmod 201) ≤ yrs a.hi (k.tmod 201)))
    rw [eqL_D, decide_eq_true m1, decide_eq_true m2]
    simp
end Go.Abs.L03
