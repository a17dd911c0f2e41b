import Derived.Test.YtioekoecinogjaaDoorC03g
namespace Go.Abs.L03
open Go Go.Abs Go.Abs.Day Go.Proofs Go.RowKit
set_option linter.unusedVariables false
set_option maxRecDepth 20000
theorem c13 (x : Dat) : Fn Tryd.prog 13 [.agg (encD x)] (.tup [.str (bs (fmtE x).1), I (fmtE x).2]) := by
  refine mk13 rfl ⟨_, c_rdGood x, fun h => ?_, fun h => ?_⟩
  · rw [fmtE, if_pos (by simpa using h)]
    exact ⟨_, _, rfl, ⟨rfl, rfl⟩, rfl, rfl, trivial⟩
  · have hok : okD x = true := by simpa using h
    rw [fmtE, if_neg (by simp [hok])]
    rw [okD_iff] at hok
    have glo : good x.lo := ⟨by omega, by omega⟩
    have ghi : good x.hi := ⟨by omega, by omega⟩
    refine ⟨fun h => ?_, fun h => ?_⟩
    · have h : eqL (encD x) (encD ⟨0, 1048575⟩) = true := h
      rw [eqL_D] at h
      rw [if_pos (by simpa using h)]
      exact ⟨_, _, rfl, ⟨rfl, rfl⟩, rfl, rfl, trivial⟩
    · have h : eqL (encD x) (encD ⟨0, 1048575⟩) = false := h
      rw [eqL_D] at h
      have hun : x ≠ ⟨0, 1048575⟩ := by simpa using h
      rw [if_neg hun]
      obtain ⟨y, m, n, hD⟩ := date_ex glo.1 glo.2
      have hT := tx_len x.lo
      have hF := c_rFormat x.lo y m n hD glo.2
      rw [← tx_eq hD] at hF
      have h37 := c37 y m
      rw [month_of hD glo.2] at h37
      rw [per4 hD, per7 hD]
      refine ⟨_, hF, _, c_rDate x.lo y m n hD glo.2, _, h37, _, c38 y hD.y1 hD.y2, fun h => ?_, fun h => ?_⟩
      · have h : eqL (encD x) (encD (yearD y)) = true := h
        rw [eqL_D] at h
        rw [if_pos (by simpa using (of_decide_eq_true h).symm)]
        exact ⟨⟨by omega, by rw [bs_size]; omega⟩, _, _, rfl, ⟨rfl, congrArg AV.str (ext_take _ 4).symm⟩, rfl, rfl, trivial⟩
      · have h : eqL (encD x) (encD (yearD y)) = false := h
        rw [eqL_D] at h
        rw [if_neg (fun e => of_decide_eq_false h e.symm)]
        refine ⟨fun h => ?_, fun h => ?_⟩
        · have h : eqL (encD x) (encD (monthD y m)) = true := h
          rw [eqL_D] at h
          rw [if_pos (by simpa using (of_decide_eq_true h).symm)]
          exact ⟨⟨by omega, by rw [bs_size]; omega⟩, _, _, rfl, ⟨rfl, congrArg AV.str (ext_take _ 7).symm⟩, rfl, rfl, trivial⟩
        · have h : eqL (encD x) (encD (monthD y m)) = false := h
          rw [eqL_D] at h
          rw [if_neg (fun e => of_decide_eq_false h e.symm)]
          refine ⟨fun h => ?_, fun h => ?_⟩
          · rw [if_pos (by simpa using h)]
            exact ⟨_, _, rfl, ⟨rfl, rfl⟩, rfl, rfl, trivial⟩
          · have h10 : x.lo ≠ x.hi := by simpa using h
            rw [if_neg h10]
            have bl := begT_len (x.hi + 1)
            have bl' := begT_len x.lo
            have el := endT_len (x.lo - 1)
            have el' := endT_len x.hi
            refine ⟨fun h0 => ?_, fun h0 => ?_⟩
            · have h0 : x.lo = 0 := by simpa using h0
              have hm : x.hi ≠ 1048575 := by rintro hm; apply hun; cases x; simp at h0 hm ⊢; exact ⟨h0, hm⟩
              rw [if_pos h0]
              refine ⟨_, wrap64 (by omega) (by omega), _, c39 (x.hi + 1) ⟨by omega, by omega⟩, by show 7 + (begT (x.hi + 1)).length ≤ _; omega, ?_⟩
              exact ⟨_, _, rfl, ⟨rfl, congrArg AV.str (bs_app beforeL _).symm⟩, rfl, rfl, trivial⟩
            · have h0 : x.lo ≠ 0 := by simpa using h0
              rw [if_neg h0]
              refine ⟨fun hm => ?_, fun hm => ?_⟩
              · have hm : x.hi = 1048575 := by simpa using hm
                rw [if_pos hm]
                refine ⟨_, wrap64 (by omega) (by omega), _, c40 (x.lo - 1) ⟨by omega, by omega⟩, by show 6 + (endT (x.lo - 1)).length ≤ _; omega, ?_⟩
                exact ⟨_, _, rfl, ⟨rfl, congrArg AV.str (bs_app afterL _).symm⟩, rfl, rfl, trivial⟩
              · have hm : x.hi ≠ 1048575 := by simpa using hm
                rw [if_neg hm]
                refine ⟨_, c39 x.lo glo, by show (begT x.lo).length + 1 ≤ _; omega, _, c40 x.hi ghi, ?_, ?_⟩
                · show (bs (begT x.lo) ++ bs [47]).size + (bs (endT x.hi)).size ≤ _
                  rw [bs_app, bs_size, bs_size]; simp; omega
                · refine ⟨_, _, rfl, ⟨rfl, congrArg AV.str ?_⟩, rfl, rfl, trivial⟩
                  show bs _ = bs (begT x.lo) ++ bs [47] ++ bs (endT x.hi)
                  rw [bs_app, bs_app]
/-! ### the relations -/
def befR (a b : Dat) : Int × Int := if okD a = false ∨ okD b = false then (0, 1) else if a.hi < b.lo then (2, 0) else if a.lo ≥ b.hi then (0, 0) else (1, 0)
def sameR (a b : Dat) : Int × Int := if okD a = false ∨ okD b = false then (0, 1) else if a.hi < b.lo ∨ b.hi < a.lo then (0, 0) else if a = b ∧ a.lo = a.hi then (2, 0) else (1, 0)
theorem c17 (a b : Dat) : Fn Tryd.prog 17 [.agg (encD a), .agg (encD b)] (.tup [I (befR a b).1, I (befR a b).2]) := by
  refine mk17 rfl ⟨_, c_dboth a b, fun h => ?_, fun h => ?_⟩
  · have h : okD a = false ∨ okD b = false := by
      have : (!(okD a && okD b)) = true := h
      simpa using this
    rw [befR, if_pos h]
    exact ⟨_, _, rfl, ⟨rfl, rfl⟩, rfl, rfl, trivial⟩
  · have h : ¬ (okD a = false ∨ okD b = false) := by
      have : (!(okD a && okD b)) = false := h
      simpa using this
    rw [befR, if_neg h]
    refine ⟨fun h => ?_, fun h => ?_⟩
    · rw [if_pos (by simpa using h)]
      exact ⟨_, _, rfl, ⟨rfl, rfl⟩, rfl, rfl, trivial⟩
    · rw [if_neg (by simpa using h)]
      refine ⟨fun h => ?_, fun h => ?_⟩
      · rw [if_pos (by simpa using h)]
        exact ⟨_, _, rfl, ⟨rfl, rfl⟩, rfl, rfl, trivial⟩
      · rw [if_neg (by simpa using h)]
        exact ⟨_, _, rfl, ⟨rfl, rfl⟩, rfl, rfl, trivial⟩
theorem c18 (a b : Dat) : Fn Tryd.prog 18 [.agg (encD a), .agg (encD b)] (.tup [I (befR a b).1, I (befR a b).2]) := by
  refine mk18 rfl ⟨[], _, c_rdGood a, _, c_rdGood b, fun h => ?_, fun h => ?_⟩
  · rw [befR, if_pos (by simpa using h)]
    exact ⟨_, _, rfl, ⟨rfl, rfl⟩, rfl, rfl, trivial⟩
  · rw [befR, if_neg (by simpa using h)]
    refine ⟨fun h => ?_, fun h => ?_⟩
    · rw [if_pos (by simpa using h)]
      exact ⟨_, _, rfl, ⟨rfl, rfl⟩, rfl, rfl, trivial⟩
    · rw [if_neg (by simpa using h)]
      refine ⟨fun h => ?_, fun h => ?_⟩
      · rw [if_pos (by simpa using h)]
        exact ⟨_, _, rfl, ⟨rfl, rfl⟩, rfl, rfl, trivial⟩
      · rw [if_neg (by simpa using h)]
        exact ⟨_, _, rfl, ⟨rfl, rfl⟩, rfl, rfl, trivial⟩
theorem c19 (a b : Dat) : Fn Tryd.prog 19 [.agg (encD a), .agg (encD b)] (.tup [I (sameR a b).1, I (sameR a b).2]) := by
  refine mk19 rfl ⟨_, c_dboth a b, fun h => ?_, fun h => ?_⟩
  · have h : okD a = false ∨ okD b = false := by
      have : (!(okD a && okD b)) = true := h
      simpa using this
    rw [sameR, if_pos h]
    exact ⟨_, _, rfl, ⟨rfl, rfl⟩, rfl, rfl, trivial⟩
  · have h : ¬ (okD a = false ∨ okD b = false) := by
      have : (!(okD a && okD b)) = false := h
      simpa using this
    rw [sameR, if_neg h]
    simp only [not_or, Bool.not_eq_false] at h
    have ha := okD_iff.1 h.1
    have hb := okD_iff.1 h.2
    refine ⟨[], fun he => ?_, fun he => ?_⟩
    · have he : (eqL (encD a) (encD b) && (a.lo == a.hi)) = true := he
      rw [eqL_D] at he
      have he : a = b ∧ a.lo = a.hi := by simpa using he
      rw [if_neg (by obtain ⟨rfl, _⟩ := he; omega), if_pos he]
      exact ⟨_, _, rfl, ⟨rfl, rfl⟩, rfl, rfl, trivial⟩
    · have he : (eqL (encD a) (encD b) && (a.lo == a.hi)) = false := he
      rw [eqL_D] at he
      have he : ¬ (a = b ∧ a.lo = a.hi) := by
        rintro ⟨h1, h2⟩
        simp [h1, h2] at he
        subst h1; exact absurd h2 he
      refine ⟨_, c_Meet a b, fun hm => ?_, fun hm => ?_⟩
      · have hm : (meetE a b).2 = false := by simpa using hm
        have : a.hi < b.lo ∨ b.hi < a.lo := by
          unfold meetE at hm
          split at hm
          · cases hm
          · rename_i hn
            simp only [h.1, h.2, true_and] at hn
            unfold maxI minI at hn
            split at hn <;> split at hn <;> omega
        rw [if_pos this]
        exact ⟨_, _, rfl, ⟨rfl, rfl⟩, rfl, rfl, trivial⟩
      · have hm : (meetE a b).2 = true := by simpa using hm
        have hq := meet_ok hm
        have : ¬ (a.hi < b.lo ∨ b.hi < a.lo) := by
          have h4 := hq.2.2.2.1
          unfold maxI minI at h4
          split at h4 <;> split at h4 <;> omega
        rw [if_neg this, if_neg he]
        exact ⟨_, _, rfl, ⟨rfl, rfl⟩, rfl, rfl, trivial⟩
theorem c20 (a b : Dat) : Fn Tryd.prog 20 [.agg (encD a), .agg (encD b)] (.tup [I (sameR a b).1, I (sameR a b).2]) := by
  refine mk20 rfl ⟨[], _, c_rdGood a, _, c_rdGood b, fun h => ?_, fun h => ?_⟩
  · rw [sameR, if_pos (by simpa using h)]
    exact ⟨_, _, rfl, ⟨rfl, rfl⟩, rfl, rfl, trivial⟩
  · rw [sameR, if_neg (by simpa using h)]
    refine ⟨[], fun h => ?_, fun h => ?_⟩
    · rw [if_pos (by simpa using h)]
      exact ⟨_, _, rfl, ⟨rfl, rfl⟩, rfl, rfl, trivial⟩
    · rw [if_neg (by simpa using h)]
      refine ⟨[], fun he => ?_, fun he => ?_⟩
      · have he : (eqL (encD a) (encD b) && (a.lo == a.hi)) = true := he
        rw [eqL_D] at he
        rw [if_pos (by simpa using he)]
        exact ⟨_, _, rfl, ⟨rfl, rfl⟩, rfl, rfl, trivial⟩
      · have he : (eqL (encD a) (encD b) && (a.lo == a.hi)) = false := he
        rw [eqL_D] at he
        have he : ¬ (a = b ∧ a.lo = a.hi) := by
          rintro ⟨h1, h2⟩
          simp [h1, h2] at he
          subst h1; exact absurd h2 he
        rw [if_neg he]
        exact ⟨_, _, rfl, ⟨rfl, rfl⟩, rfl, rfl, trivial⟩
end Go.Abs.L03
