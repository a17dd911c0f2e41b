import Derived.Test.YtioekoecinogjaaDoorC03y
import Derived.Test.YtioekoecinogjaaDoorPrd
namespace Go.Abs.L03
open Go Go.Abs Go.Abs.Day Go.Proofs Go.RowKit
set_option linter.unusedVariables false
set_option maxRecDepth 20000
def monthR (y m : Int) : Dat × Bool := if (ofE y m 1).2 ≠ 0 then (⟨0, 0⟩, false) else (monthD y m, true)
theorem of_month {y m : Int} (h : (ofE y m 1).2 = 0) : ofE y m 1 = (beg y + cum y m, 0) ∧ IsDate (beg y + cum y m) y m 1 ∧ beg y + cum y m ≤ 1048575 := by
  obtain ⟨h1, h2⟩ := ofE_ok h
  have e := h1.eq
  have e' : (ofE y m 1).1 = beg y + cum y m := by omega
  refine ⟨Prod.ext e' h, ?_, by omega⟩
  rw [← e']; exact h1
theorem c37 (y m : Int) : Fn Tryd.prog 37 [I y, I m] (.tup [.agg (encD (monthR y m).1), .bool (monthR y m).2]) := by
  refine mk37 rfl ⟨_, c_rOf y m 1, fun h => ?_, fun h => ?_⟩
  · have h : (ofE y m 1).2 ≠ 0 := by simpa using h
    rw [monthR, if_pos h]
    exact ⟨_, _, rfl, ⟨rfl, rfl⟩, rfl, rfl, trivial⟩
  · have h : (ofE y m 1).2 = 0 := by simpa using h
    obtain ⟨h1, h2, h3⟩ := of_month h
    have := lenM_range y m
    have := h2.lo
    rw [monthR, if_neg (by simp [h]), h1]
    refine ⟨_, c_rLength y m, _, wrap64 (by omega) (by omega), _, wrap64 (by omega) (by omega), ?_⟩
    exact ⟨_, _, rfl, ⟨rfl, rfl⟩, rfl, rfl, trivial⟩
theorem c38 (y : Int) (y1 : 1600 ≤ y) (y2 : y ≤ 4470) : Fn Tryd.prog 38 [I y] (.agg (encD (yearD y))) := by
  have hD := first_year y1 y2
  have hm := beg_max y2
  have h1 := c_rOf y 1 1
  rw [ofE_date hD (by omega)] at h1
  exact mk38 rfl ⟨_, h1, _, c_rYearEnd (beg y) y 1 1 hD (by omega), rfl, rfl, rfl⟩
theorem c58 (d : Int) (hd : good d) (k : Int) : Fn Tryd.prog 58 [I d, I k] (.agg (encD (perE d k))) := by
  obtain ⟨y, m, n, hD⟩ := date_ex hd.1 hd.2
  refine mk58 rfl ⟨_, c_Date d y m n hD hd.2, fun h => ?_, fun h => ?_⟩
  · have h : k = 4 := by simpa using h
    subst h
    have h1 := c_Of y 1 1
    have hm := beg_max hD.y2
    rw [ofE_date (first_year hD.y1 hD.y2) (by omega)] at h1
    rw [per4 hD]
    exact ⟨_, h1, _, c_YearEnd d y m n hD hd.2, rfl, rfl, rfl⟩
  · have h4 : k ≠ 4 := by simpa using h
    refine ⟨fun h => ?_, fun h => ?_⟩
    · have h : k = 7 := by simpa using h
      subst h
      have h1 := c_Of y m 1
      have hm := hD.n1
      have e := hD.eq
      have := hd.2
      rw [ofE_date (first_month hD) (by omega)] at h1
      rw [per7 hD]
      have := lenM_range y m
      have := (first_month hD).lo
      exact ⟨_, h1, _, c_Length y m, _, wrap64 (by omega) (by omega), _, wrap64 (by omega) (by omega), rfl, rfl, rfl⟩
    · have h7 : k ≠ 7 := by simpa using h
      rw [perX h4 h7]
      exact ⟨rfl, rfl, rfl⟩
theorem c30 (p x : Dat) : Fn Tryd.prog 30 [.agg (encD p), .rptr (encD x) 0] (.bool (decide (p = x))) := by
  rw [← eqL_D]
  exact mk30 rfl ⟨rfl, rfl, rfl⟩
theorem c59 (p : Dat) (d : Int) : Fn Tryd.prog 59 [.agg (encD p), .rptr [I d] 0] (.bool (p.lo == d)) := mk59 rfl ⟨rfl, rfl, rfl⟩
theorem c60 (p : Dat) (d : Int) : Fn Tryd.prog 60 [.agg (encD p), .rptr [I d] 0] (.bool (p.hi == d)) := mk60 rfl ⟨rfl, rfl, rfl⟩
def lenI : Nat → Int
  | 0 => 4
  | 1 => 7
  | _ => 10
theorem c29 (d : Int) (hd : good d) (p : Dat → Bool) (g : Nat) (hg : g = 30 ∨ g = 59 ∨ g = 60) (xs : List AV) (hp : ∀ x, Fn Tryd.prog g [.agg (encD x), .rptr xs 0] (.bool (p x))) : Fn Tryd.prog 29 [I d, .func g [.rptr xs 0]] (.str (bs (textE d p))) := by
  obtain ⟨y, m, n, hD⟩ := date_ex hd.1 hd.2
  have hT := tx_len d
  have hF := c_Format d y m n hD hd.2
  rw [← tx_eq hD] at hF
  rcases hg with rfl | rfl | rfl
  all_goals
    refine mk29 rfl ⟨_, hF, ?_⟩
    refine ⟨fun N c => ∃ i : Nat, i ≤ 3 ∧ N = 3 - i ∧ c = ⟨[(0, I d), (1, .func _ [.rptr xs 0]), (4, .str (bs [])), (5, .str (bs (tx d))), (14, .osl 224 1 3), (15, I 3), (16, I i)], [(224, ⟨3, 1, .pure, [[I 4], [I 7], [I 10]]⟩)]⟩ ∧ (1 ≤ i → p (perE d 4) = false) ∧ (2 ≤ i → p (perE d 7) = false) ∧ (3 ≤ i → p (perE d 10) = false), ⟨_, _, Wk.keep [0, 1, 4, 5, 14, 15, 16] [224], 0, by omega, rfl, rfl, by omega, by omega, by omega⟩, ?_⟩
    rintro N c ⟨i, hi, rfl, rfl, h1, h2, h3⟩
    refine ⟨fun h => ?_, fun h => ?_⟩
    · have h : i < 3 := by simp at h; omega
      rcases (by omega : i = 0 ∨ i = 1 ∨ i = 2) with rfl | rfl | rfl
      · refine ⟨⟨by omega, by omega⟩, [I 4], rfl, _, c58 d hd 4, _, hp _, fun hf => ?_, fun hf => ?_⟩
        · rw [textE, if_pos hf]
          exact ⟨⟨by omega, by rw [bs_size]; omega⟩, rfl, rfl, congrArg AV.str (ext_take _ 4).symm⟩
        · refine ⟨_, wrap64 (by omega) (by omega), _, _, Wk.keep [0, 1, 4, 5, 14, 15, 16] [224], by omega, 1, by omega, rfl, rfl, fun _ => hf, by omega, by omega⟩
      · refine ⟨⟨by omega, by omega⟩, [I 7], rfl, _, c58 d hd 7, _, hp _, fun hf => ?_, fun hf => ?_⟩
        · rw [textE, if_neg (by rw [h1 (by omega)]; simp), if_pos hf]
          exact ⟨⟨by omega, by rw [bs_size]; omega⟩, rfl, rfl, congrArg AV.str (ext_take _ 7).symm⟩
        · refine ⟨_, wrap64 (by omega) (by omega), _, _, Wk.keep [0, 1, 4, 5, 14, 15, 16] [224], by omega, 2, by omega, rfl, rfl, fun _ => h1 (by omega), fun _ => hf, by omega⟩
      · refine ⟨⟨by omega, by omega⟩, [I 10], rfl, _, c58 d hd 10, _, hp _, fun hf => ?_, fun hf => ?_⟩
        · rw [textE, if_neg (by rw [h1 (by omega)]; simp), if_neg (by rw [h2 (by omega)]; simp), if_pos hf]
          refine ⟨⟨by omega, by rw [bs_size]; omega⟩, rfl, rfl, ?_⟩
          refine congrArg AV.str ?_
          rw [show (10 : Int).toNat = 10 from rfl, ext_take, List.take_of_length_le (by omega)]
        · refine ⟨_, wrap64 (by omega) (by omega), _, _, Wk.keep [0, 1, 4, 5, 14, 15, 16] [224], by omega, 3, by omega, rfl, rfl, fun _ => h1 (by omega), fun _ => h2 (by omega), fun _ => hf⟩
    · have h : i = 3 := by simp at h; omega
      subst h
      rw [textE, if_neg (by rw [h1 (by omega)]; simp), if_neg (by rw [h2 (by omega)]; simp), if_neg (by rw [h3 (by omega)]; simp)]
      exact ⟨rfl, rfl, rfl⟩
theorem c32 (d : Int) (hd : good d) : Fn Tryd.prog 32 [I d] (.str (bs (begT d))) := mk32 rfl ⟨_, c29 d hd _ 59 (by omega) [I d] (fun x => c59 x d), rfl, rfl, rfl⟩
theorem c33 (d : Int) (hd : good d) : Fn Tryd.prog 33 [I d] (.str (bs (endT d))) := mk33 rfl ⟨_, c29 d hd _ 60 (by omega) [I d] (fun x => c60 x d), rfl, rfl, rfl⟩
theorem c31 : Fn Tryd.prog 31 [] (.agg (encD ⟨0, 1048575⟩)) := mk31 rfl ⟨rfl, rfl, rfl⟩
theorem c39 (d : Int) (hd : good d) : Fn Tryd.prog 39 [I d] (.str (bs (begT d))) := by
  obtain ⟨y, m, n, hD⟩ := date_ex hd.1 hd.2
  have hT := tx_len d
  have hF := c_rFormat d y m n hD hd.2
  rw [← tx_eq hD] at hF
  refine mk39 rfl ⟨_, hF, _, c_rDate d y m n hD hd.2, [], fun h => ?_, fun h => ?_⟩
  · have h : n = 1 ∧ m = 1 := by simpa using h
    rw [begT, textE, per4 hD, if_pos (by simpa using (lo4 hD).2 ⟨h.2, h.1⟩)]
    exact ⟨⟨by omega, by rw [bs_size]; omega⟩, rfl, rfl, congrArg AV.str (ext_take _ 4).symm⟩
  · have h : ¬ (m = 1 ∧ n = 1) := by
      rintro ⟨rfl, rfl⟩
      simp at h
    rw [begT, textE, per4 hD, if_neg (by simpa using fun h' => h ((lo4 hD).1 h'))]
    refine ⟨fun h => ?_, fun h => ?_⟩
    · rw [per7 hD, if_pos (by simpa using (lo7 hD).2 (by simpa using h))]
      exact ⟨⟨by omega, by rw [bs_size]; omega⟩, rfl, rfl, congrArg AV.str (ext_take _ 7).symm⟩
    · have h : n ≠ 1 := by simpa using h
      rw [per7 hD, if_neg (by simpa using fun h' => h ((lo7 hD).1 h')), perX (by decide) (by decide), if_pos (by simp)]
      exact ⟨rfl, rfl, rfl⟩
theorem month_of {d y m n : Int} (hD : IsDate d y m n) (hd : d ≤ 1048575) : monthR y m = (monthD y m, true) := by
  have e := hD.eq
  have := hD.n1
  unfold monthR
  rw [ofE_date (first_month hD) (by omega), if_neg (by simp)]
theorem c40 (d : Int) (hd : good d) : Fn Tryd.prog 40 [I d] (.str (bs (endT d))) := by
  obtain ⟨y, m, n, hD⟩ := date_ex hd.1 hd.2
  have hT := tx_len d
  have hF := c_rFormat d y m n hD hd.2
  rw [← tx_eq hD] at hF
  have h37 := c37 y m
  rw [month_of hD hd.2] at h37
  refine mk40 rfl ⟨_, hF, _, c_rDate d y m n hD hd.2, _, h37, _, c38 y hD.y1 hD.y2, fun h => ?_, fun h => ?_⟩
  · rw [endT, textE, per4 hD, if_pos h]
    exact ⟨⟨by omega, by rw [bs_size]; omega⟩, rfl, rfl, congrArg AV.str (ext_take _ 4).symm⟩
  · rw [endT, textE, per4 hD, if_neg (by rw [show ((yearD y).hi == d) = false from h]; simp)]
    refine ⟨fun h => ?_, fun h => ?_⟩
    · rw [per7 hD, if_pos h]
      exact ⟨⟨by omega, by rw [bs_size]; omega⟩, rfl, rfl, congrArg AV.str (ext_take _ 7).symm⟩
    · rw [per7 hD, if_neg (by rw [show ((monthD y m).hi == d) = false from h]; simp), perX (by decide) (by decide), if_pos (by simp)]
      exact ⟨rfl, rfl, rfl⟩
theorem begT_len (d : Int) : (begT d).length ≤ 10 := text_len _ _
theorem endT_len (d : Int) : (endT d).length ≤ 10 := text_len _ _
theorem take_ne {d : Int} {k : Nat} (hk : 1 ≤ k) : (tx d).take k ≠ [] := by
  have := tx_len d
  intro h
  have h' := congrArg List.length h
  rw [List.length_take, this] at h'
  simp only [List.length_nil] at h'
  omega
theorem per10 (x : Dat) : perE x.lo 10 = x ↔ x.lo = x.hi := by
  rw [perX (by decide) (by decide)]; cases x; simp
theorem just_eq {x : Dat} (r : List UInt8 × Int) (h : textE x.lo (fun p => decide (p = x)) ≠ []) :
    (if perE x.lo 4 = x then ((tx x.lo).take 4, (0 : Int)) else if perE x.lo 7 = x then ((tx x.lo).take 7, 0) else if x.lo = x.hi then (tx x.lo, 0) else r) = (textE x.lo (fun p => decide (p = x)), 0) := by
  unfold textE at h ⊢
  simp only [decide_eq_true_eq, per10] at h ⊢
  by_cases h4 : perE x.lo 4 = x
  · simp only [if_pos h4]
  · simp only [if_neg h4] at h ⊢
    by_cases h7 : perE x.lo 7 = x
    · simp only [if_pos h7]
    · simp only [if_neg h7] at h ⊢
      by_cases h10 : x.lo = x.hi
      · simp only [if_pos h10]
      · rw [if_neg h10] at h; exact absurd rfl h
theorem eqS (a b : List UInt8) : (!((bs a).toList == (bs b).toList)) = !decide (a = b) := by rw [bs_eq]
theorem c12 (x : Dat) : Fn Tryd.prog 12 [.agg (encD x)] (.tup [.str (bs (fmtE x).1), I (fmtE x).2]) := by
  refine mk12 rfl ⟨_, c_dCheck x, fun h => ?_, fun h => ?_⟩
  · have h : (chkD x != 0) = true := h
    rw [chk_bne] at h
    rw [fmtE, if_pos (by simpa using h)]
    exact ⟨_, _, rfl, ⟨rfl, rfl⟩, rfl, rfl, trivial⟩
  · have h : (chkD x != 0) = false := h
    rw [chk_bne] at h
    have hok : okD x = true := by simpa using h
    rw [fmtE, if_neg (by simp [hok])]
    rw [okD_iff] at hok
    have glo : good x.lo := ⟨by omega, by omega⟩
    have ghi : good x.hi := ⟨by omega, by omega⟩
    refine ⟨_, c29 x.lo glo _ 30 (by omega) (encD x) (fun p => c30 p x), _, c31, fun h => ?_, fun h => ?_⟩
    · have h : eqL (encD x) (encD ⟨0, 1048575⟩) = true := h
      rw [eqL_D] at h
      rw [if_pos (by simpa using h)]
      exact ⟨_, _, rfl, ⟨rfl, rfl⟩, rfl, rfl, trivial⟩
    · have h : eqL (encD x) (encD ⟨0, 1048575⟩) = false := h
      rw [eqL_D] at h
      have hun : x ≠ ⟨0, 1048575⟩ := by simpa using h
      rw [if_neg hun]
      refine ⟨fun h => ?_, fun h => ?_⟩
      · have h : (!((bs (textE x.lo (fun p => decide (p = x)))).toList == (bs []).toList)) = true := h
        rw [eqS] at h
        have h : textE x.lo (fun p => decide (p = x)) ≠ [] := by simpa using h
        rw [just_eq _ h]
        exact ⟨_, _, rfl, ⟨rfl, rfl⟩, rfl, rfl, trivial⟩
      · have h : (!((bs (textE x.lo (fun p => decide (p = x)))).toList == (bs []).toList)) = false := h
        rw [eqS] at h
        have h : textE x.lo (fun p => decide (p = x)) = [] := by simpa using h
        have h4 : perE x.lo 4 ≠ x := by
          intro h4
          rw [textE, if_pos (by simpa using h4)] at h
          exact take_ne (by omega) h
        have h7 : perE x.lo 7 ≠ x := by
          intro h7
          rw [textE, if_neg (by simpa using h4), if_pos (by simpa using h7)] at h
          exact take_ne (by omega) h
        have h10 : x.lo ≠ x.hi := by
          intro h10
          rw [textE, if_neg (by simpa using h4), if_neg (by simpa using h7), if_pos (by simpa using (per10 x).2 h10)] at h
          have := tx_len x.lo
          rw [h] at this; cases this
        rw [if_neg h4, if_neg h7, if_neg h10]
        have bl := begT_len (x.hi + 1)
        have bl' := begT_len x.lo
        have el := endT_len (x.lo - 1)
        have el' := endT_len x.hi
        refine ⟨fun h0 => ?_, fun h0 => ?_⟩
        · have h0 : x.lo = 0 := by simpa using h0
          have hm : x.hi ≠ 1048575 := by rintro hm; apply hun; cases x; simp at h0 hm ⊢; exact ⟨h0, hm⟩
          rw [if_pos h0]
          refine ⟨_, wrap64 (by omega) (by omega), _, c32 (x.hi + 1) ⟨by omega, by omega⟩, by show 7 + (begT (x.hi + 1)).length ≤ _; omega, ?_⟩
          exact ⟨_, _, rfl, ⟨rfl, congrArg AV.str (bs_app beforeL _).symm⟩, rfl, rfl, trivial⟩
        · have h0 : x.lo ≠ 0 := by simpa using h0
          rw [if_neg h0]
          refine ⟨fun hm => ?_, fun hm => ?_⟩
          · have hm : x.hi = 1048575 := by simpa using hm
            rw [if_pos hm]
            refine ⟨_, wrap64 (by omega) (by omega), _, c33 (x.lo - 1) ⟨by omega, by omega⟩, by show 6 + (endT (x.lo - 1)).length ≤ _; omega, ?_⟩
            exact ⟨_, _, rfl, ⟨rfl, congrArg AV.str (bs_app afterL _).symm⟩, rfl, rfl, trivial⟩
          · have hm : x.hi ≠ 1048575 := by simpa using hm
            rw [if_neg hm]
            refine ⟨_, c32 x.lo glo, by show (begT x.lo).length + 1 ≤ _; omega, _, c33 x.hi ghi, ?_, ?_⟩
            · show (bs (begT x.lo) ++ bs [47]).size + (bs (endT x.hi)).size ≤ _
              rw [bs_app, bs_size, bs_size]; simp; omega
            · refine ⟨_, _, rfl, ⟨rfl, congrArg AV.str ?_⟩, rfl, rfl, trivial⟩
              show bs _ = bs (begT x.lo) ++ bs [47] ++ bs (endT x.hi)
              rw [bs_app, bs_app]
end Go.Abs.L03
