import Derived.Test.YtioekoecinogjaaDoorC03h
namespace Go.Abs.L03
open Go Go.Abs Go.Abs.Day Go.Proofs Go.RowKit
set_option linter.unusedVariables false
set_option maxRecDepth 20000
def zD : Dat := ⟨0, 0⟩
noncomputable def yearsR (x : Dat) (n : Int) : Dat × Int := if okD x = false then (zD, 1) else if n < 0 ∨ n > 200 then (zD, 2) else (⟨yrs x.lo n, yrs x.hi n⟩, 0)
theorem c24 (x : Dat) (n : Int) : Fn Tryd.prog 24 [.agg (encD x), I n] (.tup [.agg (encD (yearsR x n).1), I (yearsR x n).2]) := by
  refine mk24 rfl ⟨_, c_dCheck x, fun h => ?_, fun h => ?_⟩
  · have h : (chkD x != 0) = true := h
    rw [chk_bne] at h
    rw [yearsR, if_pos (by simpa using h)]
    exact ⟨_, _, rfl, ⟨rfl, rfl⟩, rfl, rfl, trivial⟩
  · have h : (chkD x != 0) = false := h
    rw [chk_bne] at h
    have hok : okD x = true := by simpa using h
    rw [yearsR, if_neg (by simp [hok])]
    rw [okD_iff] at hok
    have glo : good x.lo := ⟨by omega, by omega⟩
    have ghi : good x.hi := ⟨by omega, by omega⟩
    by_cases hn : n < 0 ∨ n > 200
    · rw [if_pos hn]
      refine ⟨_, c_YearsBad x.lo n (by rintro ⟨_, h1, h2⟩; omega), _, c_YearsBad x.hi n (by rintro ⟨_, h1, h2⟩; omega), [], fun _ => ?_, fun h => (by cases h)⟩
      exact ⟨_, _, rfl, ⟨rfl, rfl⟩, rfl, rfl, trivial⟩
    · rw [if_neg hn]
      refine ⟨_, c_yrs x.lo n glo (by omega) (by omega), _, c_yrs x.hi n ghi (by omega) (by omega), [], fun h => (by cases h), fun _ => ?_⟩
      exact ⟨_, _, rfl, ⟨rfl, rfl⟩, rfl, rfl, trivial⟩
theorem c26 (x : Dat) (n : Int) : Fn Tryd.prog 26 [.agg (encD x), I n] (.tup [.agg (encD (yearsR x n).1), I (yearsR x n).2]) := by
  refine mk26 rfl ⟨_, c_rdGood x, fun h => ?_, fun h => ?_⟩
  · rw [yearsR, if_pos (by simpa using h)]
    exact ⟨_, _, rfl, ⟨rfl, rfl⟩, rfl, rfl, trivial⟩
  · have hok : okD x = true := by simpa using h
    rw [yearsR, if_neg (by simp [hok])]
    rw [okD_iff] at hok
    have glo : good x.lo := ⟨by omega, by omega⟩
    have ghi : good x.hi := ⟨by omega, by omega⟩
    by_cases hn : n < 0 ∨ n > 200
    · rw [if_pos hn]
      refine ⟨_, c_rYearsBad x.lo n (by rintro ⟨_, h1, h2⟩; omega), _, c_rYearsBad x.hi n (by rintro ⟨_, h1, h2⟩; omega), ?_⟩
      exact ⟨_, _, rfl, ⟨rfl, rfl⟩, rfl, rfl, trivial⟩
    · rw [if_neg hn]
      refine ⟨_, c_ryrs x.lo n glo (by omega) (by omega), _, c_ryrs x.hi n ghi (by omega) (by omega), ?_⟩
      exact ⟨_, _, rfl, ⟨rfl, rfl⟩, rfl, rfl, trivial⟩
theorem c27 (a b : Dat) : Fn Tryd.prog 27 [.agg (encD a), .agg (encD b)] (.tup [.agg (encD (meetE a b).1), .bool (meetE a b).2]) := by
  refine mk27 rfl ⟨[], _, c_rdGood a, _, c_rdGood b, fun h => ?_, fun h => ?_⟩
  · have : ¬ (okD a = true ∧ okD b = true ∧ maxI a.lo b.lo ≤ minI a.hi b.hi) := by
      rintro ⟨h1, h2, h3⟩
      rw [h1, h2] at h
      simp at h; omega
    rw [meetE, if_neg this]
    exact ⟨_, _, rfl, ⟨rfl, rfl⟩, rfl, rfl, trivial⟩
  · have : okD a = true ∧ okD b = true ∧ maxI a.lo b.lo ≤ minI a.hi b.hi := by
      simp at h; exact ⟨h.1.1, h.1.2, h.2⟩
    rw [meetE, if_pos this]
    exact ⟨_, _, rfl, ⟨rfl, rfl⟩, rfl, rfl, trivial⟩
abbrev D (l : List Dat) : AV := .rsl 2 l.length (l.map encD)
def hl (acc : Dat) : List Dat → Option Dat
  | [] => some acc
  | x :: r => if okD x = false then none else hl ⟨minI acc.lo x.lo, maxI acc.hi x.hi⟩ r
def hullR (l : List Dat) : Dat × Int := if l.length = 0 then (zD, 9) else if l.length > 1024 then (zD, 8) else match hl (l.getD 0 zD) l with
  | none => (zD, 1)
  | some d => (d, 0)
theorem c23 (l : List Dat) : Fn Tryd.prog 23 [D l] (.tup [.agg (encD (hullR l).1), I (hullR l).2]) := by
  refine mk23 rfl ⟨fun h => ?_, fun h => ?_⟩
  · have h : l.length = 0 := by simp at h; simpa using h
    rw [hullR, if_pos h]
    exact ⟨_, _, rfl, ⟨rfl, rfl⟩, rfl, rfl, trivial⟩
  · have hne : l.length ≠ 0 := by simp at h; simpa using h
    rw [hullR, if_neg hne]
    refine ⟨fun h => ?_, fun h => ?_⟩
    · rw [if_pos (by simp at h; omega)]
      exact ⟨_, _, rfl, ⟨rfl, rfl⟩, rfl, rfl, trivial⟩
    · have hlen : ¬ l.length > 1024 := by simp at h; omega
      rw [if_neg hlen]
      have h0 : l[0]? = some (l.getD 0 zD) := by
        cases l with
        | nil => exact absurd rfl hne
        | cons a r => rfl
      refine ⟨⟨by omega, by omega⟩, encD (l.getD 0 zD), get_map (i := 0) h0, ?_⟩
      refine ⟨fun n c => ∃ (i : Nat) (acc : Dat), i ≤ l.length ∧ n = l.length - i ∧ c = ⟨[(2, .ovar 32 0), (3, I 0), (4, .ovar 64 0), (18, D l), (19, I l.length), (20, I i)], [(32, ⟨23, 2, .any, [encD zD]⟩), (64, ⟨23, 2, .any, [encD acc]⟩)]⟩ ∧ hl acc (l.drop i) = hl (l.getD 0 zD) l, ⟨_, _, Wk.keep [2, 3, 4, 18, 19, 20] [32, 64], 0, l.getD 0 zD, by omega, rfl, rfl, by simp⟩, ?_⟩
      rintro n c ⟨i, acc, hi, rfl, rfl, hI⟩
      refine ⟨fun h => ?_, fun h => ?_⟩
      · simp at h
        obtain ⟨a, ha, hd, _⟩ := drop_cons h
        rw [hd, hl] at hI
        refine ⟨⟨by omega, by omega⟩, encD a, by simp [ha], _, c_dCheck a, fun hf => ?_, fun hf => ?_⟩
        · have hf : (chkD a != 0) = true := hf
          rw [chk_bne] at hf
          rw [if_pos (by simpa using hf)] at hI
          rw [← hI]
          exact ⟨_, _, rfl, ⟨rfl, rfl⟩, rfl, rfl, trivial⟩
        · have hf : (chkD a != 0) = false := hf
          rw [chk_bne] at hf
          rw [if_neg (by simpa using hf)] at hI
          exact ⟨_, wrap64 (by omega) (by omega), _, _, Wk.keep [2, 3, 4, 18, 19, 20] [32, 64], by omega, i + 1, ⟨minI acc.lo a.lo, maxI acc.hi a.hi⟩, by omega, rfl, rfl, hI⟩
      · simp at h
        have : i = l.length := by omega
        subst this
        rw [List.drop_length, hl] at hI
        rw [← hI]
        exact ⟨_, _, rfl, ⟨rfl, rfl⟩, rfl, rfl, trivial⟩
theorem c28 (l : List Dat) : Fn Tryd.prog 28 [D l] (.tup [.agg (encD (hullR l).1), I (hullR l).2]) := by
  refine mk28 rfl ⟨fun h => ?_, fun h => ?_⟩
  · have h : l.length = 0 := by simp at h; simpa using h
    rw [hullR, if_pos h]
    exact ⟨_, _, rfl, ⟨rfl, rfl⟩, rfl, rfl, trivial⟩
  · have hne : l.length ≠ 0 := by simp at h; simpa using h
    rw [hullR, if_neg hne]
    refine ⟨fun h => ?_, fun h => ?_⟩
    · rw [if_pos (by simp at h; omega)]
      exact ⟨_, _, rfl, ⟨rfl, rfl⟩, rfl, rfl, trivial⟩
    · have hlen : ¬ l.length > 1024 := by simp at h; omega
      rw [if_neg hlen]
      have h0 : l[0]? = some (l.getD 0 zD) := by
        cases l with
        | nil => exact absurd rfl hne
        | cons a r => rfl
      refine ⟨⟨by omega, by omega⟩, encD (l.getD 0 zD), get_map (i := 0) h0, ?_⟩
      refine ⟨fun n c => ∃ (i : Nat) (acc : Dat), i ≤ l.length ∧ n = l.length - i ∧ c = ⟨[(0, D l), (2, .ovar 32 0), (3, I 0), (4, .ovar 64 0), (5, I i)], [(32, ⟨23, 2, .any, [encD zD]⟩), (64, ⟨23, 2, .any, [encD acc]⟩)]⟩ ∧ hl acc (l.drop i) = hl (l.getD 0 zD) l, ⟨_, _, Wk.keep [0, 2, 3, 4, 5] [32, 64], 0, l.getD 0 zD, by omega, rfl, rfl, by simp⟩, ?_⟩
      rintro n c ⟨i, acc, hi, rfl, rfl, hI⟩
      refine ⟨fun h => ?_, fun h => ?_⟩
      · simp at h
        obtain ⟨a, ha, hd, _⟩ := drop_cons h
        rw [hd, hl] at hI
        refine ⟨⟨by omega, by omega⟩, encD a, by simp [ha], _, c_rdGood a, fun hf => ?_, fun hf => ?_⟩
        · rw [if_pos (by simpa using hf)] at hI
          rw [← hI]
          exact ⟨_, _, rfl, ⟨rfl, rfl⟩, rfl, rfl, trivial⟩
        · rw [if_neg (by simpa using hf)] at hI
          exact ⟨⟨by omega, by omega⟩, encD a, by simp [ha], ⟨by omega, by omega⟩, encD a, by simp [ha], _, wrap64 (by omega) (by omega), _, _, Wk.keep [0, 2, 3, 4, 5] [32, 64], by omega, i + 1, ⟨minI acc.lo a.lo, maxI acc.hi a.hi⟩, by omega, rfl, rfl, hI⟩
      · simp at h
        have : i = l.length := by omega
        subst this
        rw [List.drop_length, hl] at hI
        rw [← hI]
        exact ⟨_, _, rfl, ⟨rfl, rfl⟩, rfl, rfl, trivial⟩
/-! ### the form of a period -/
def shB : Nat → List UInt8 → Bool
  | _, [] => true
  | i, b :: r => (if i = 4 ∨ i = 7 then b == 45 else isDig b) && shB (i + 1) r
def lenB (l : List UInt8) : Bool := decide (l.length = 4) || decide (l.length = 7) || decide (l.length = 10)
def shapedB (l : List UInt8) : Bool := lenB l && shB 0 l
theorem eq45 (b : UInt8) : (((b.toNat : Nat) : Int) != 45) = !(b == 45) := by
  by_cases h : b = 45
  · subst h; rfl
  · rw [ne45 h]; simp [h]
theorem c47 (l : List UInt8) (hlen : l.length ≤ 9223372036854775807) : Fn Tryd.prog 47 [.str (bs l)] (.bool (shapedB l)) := by
  refine mk47 rfl ⟨[], fun h => ?_, fun h => ?_⟩
  · have h : ((((bs l).size : Int) != 4) && (((bs l).size : Int) != 7) && (((bs l).size : Int) != 10)) = true := h
    rw [bs_size] at h
    have : lenB l = false := by
      unfold lenB; simp at h ⊢; omega
    rw [shapedB, this]
    exact ⟨rfl, rfl, rfl⟩
  · have h : ((((bs l).size : Int) != 4) && (((bs l).size : Int) != 7) && (((bs l).size : Int) != 10)) = false := h
    rw [bs_size] at h
    have hb : lenB l = true := by
      unfold lenB; simp at h ⊢; omega
    have hl10 : l.length ≤ 10 := by unfold lenB at hb; simp at hb; omega
    rw [shapedB, hb, Bool.true_and]
    refine ⟨fun N c => ∃ i : Nat, i ≤ l.length ∧ N = l.length - i ∧ c = ⟨[(0, .str (bs l)), (2, .bool false), (19, I l.length), (20, I i)], []⟩ ∧ shB i (l.drop i) = shB 0 l, ⟨_, _, Wk.keep [0, 2, 19, 20] [], 0, by omega, rfl, rfl, by simp⟩, ?_⟩
    rintro N c ⟨i, hi, rfl, rfl, hI⟩
    refine ⟨fun h => ?_, fun h => ?_⟩
    · simp at h
      obtain ⟨b, hb, hd, _⟩ := drop_cons h
      rw [hd, shB] at hI
      by_cases h4 : i = 4 ∨ i = 7
      · rw [if_pos h4] at hI
        have e4 : ((((i : Nat) : Int) == 4) || (((i : Nat) : Int) == 7)) = true := by simp; omega
        by_cases hb45 : b = 45
        · subst hb45
          refine ⟨[], [(1, true), (7, false), (10, false)], e4, _, idx_ok hb, ?_⟩
          refine ⟨rfl, by show (!((((i : Nat) : Int) == 4) || (((i : Nat) : Int) == 7))) = false; rw [e4]; rfl, fun h => (by cases h), fun _ => ?_⟩
          exact ⟨_, wrap64 (by omega) (by omega), _, _, Wk.keep [0, 2, 19, 20] [], by omega, i + 1, by omega, rfl, rfl, by rw [← hI]; rfl⟩
        · refine ⟨[], [(1, true), (7, true)], e4, _, idx_ok hb, ?_⟩
          have : (true && (((b.toNat : Nat) : Int) != 45)) = true := by rw [ne45 hb45]; rfl
          refine ⟨this, fun _ => ?_, fun h => (by cases h)⟩
          have : (b == 45) = false := by simp [hb45]
          rw [← hI, this]
          exact ⟨rfl, rfl, rfl⟩
      · rw [if_neg h4] at hI
        have e4 : ((((i : Nat) : Int) == 4) || (((i : Nat) : Int) == 7)) = false := by simp; omega
        have eN : (!((((i : Nat) : Int) == 4) || (((i : Nat) : Int) == 7))) = true := by rw [e4]; rfl
        by_cases hlt : ((b.toNat : Nat) : Int) < 48
        · refine ⟨[], [(1, false), (7, false), (10, true), (15, true)], e4, rfl, eN, _, idx_ok hb, decide_eq_true hlt, fun _ => ?_, fun h => (by cases h)⟩
          have : isDig b = false := by unfold isDig; simp [hlt]
          rw [← hI, this]
          exact ⟨rfl, rfl, rfl⟩
        · refine ⟨[], [(1, false), (7, false), (10, true), (15, false)], e4, rfl, eN, _, idx_ok hb, decide_eq_false hlt, _, idx_ok hb, fun hf => ?_, fun hf => ?_⟩
          · have hf : decide (((b.toNat : Nat) : Int) > 57) = true := by
              have : (false || (true && (false || decide (((b.toNat : Nat) : Int) > 57)))) = true := hf
              simpa using this
            have : isDig b = false := by unfold isDig; rw [hf]; simp
            rw [← hI, this]
            exact ⟨rfl, rfl, rfl⟩
          · have hf : decide (((b.toNat : Nat) : Int) > 57) = false := by
              have : (false || (true && (false || decide (((b.toNat : Nat) : Int) > 57)))) = false := hf
              simpa using this
            have : isDig b = true := by unfold isDig; rw [hf, decide_eq_false hlt]; rfl
            rw [this, Bool.true_and] at hI
            exact ⟨_, wrap64 (by omega) (by omega), _, _, Wk.keep [0, 2, 19, 20] [], by omega, i + 1, by omega, rfl, rfl, hI⟩
    · simp at h
      have : i = l.length := by omega
      subst this
      simp [shB] at hI
      rw [← hI]
      exact ⟨rfl, rfl, rfl⟩
end Go.Abs.L03
