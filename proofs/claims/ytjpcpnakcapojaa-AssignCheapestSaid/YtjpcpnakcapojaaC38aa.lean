import Derived.Test.YtjpcpnakcapojaaC38z
namespace Go.Abs.L38
open Go Go.Abs Go.Proofs
set_option linter.unusedVariables false
set_option maxRecDepth 20000
/-! ### Refutes -/
def badS (n : Nat) (s : List Int) (i : Nat) : Bool := decide (s.getD i 0 < 0) || decide (s.getD i 0 ≥ (n : Int)) || (decide (0 < i) && decide (s.getD i 0 ≤ s.getD (i - 1) 0))
def orM (M : List Nat) (s : List Int) : Nat → Nat
  | 0 => 0
  | i + 1 => orM M s i ||| M.getD (s.getD i 0).toNat 0
def refB (T : List (List Int)) (s : List Int) : Bool := if chkE T ≠ 0 then false else if anyR (badS T.length s) 0 s.length = true then false else decide (onesN (orM (masksL T) s s.length) < s.length)
theorem masks_lt {T : List (List Int)} (h : ∀ b ∈ T, b.length ≤ 16) : ∀ x ∈ masksL T, x < 65536 := by
  intro x hx
  obtain ⟨b, hb, rfl⟩ := List.mem_map.1 hx
  have := maskTo_lt b b.length
  have hp := Nat.pow_le_pow_right (n := 2) (by omega) (h b hb)
  omega
theorem orM_lt {M : List Nat} {s : List Int} (hM : ∀ x ∈ M, x < 65536) : ∀ i, orM M s i < 65536
  | 0 => by simp [orM]
  | i + 1 => by
    refine Nat.or_lt_two_pow (n := 16) (orM_lt hM i) ?_
    rw [List.getD_eq_getElem?_getD]
    cases h : M[(s.getD i 0).toNat]? with
    | none => simp
    | some x => exact hM x (List.mem_of_getElem? h)
theorem c22 (T : List (List Int)) (hT : T.length ≤ 9223372036854775807) (hTb : ∀ b ∈ T, b.length ≤ 9223372036854775807) (s : List Int) (hs : s.length ≤ 9223372036854775807) : Fn Try.prog 22 [AA T, A s] (.bool (refB T s)) := by
  refine mk22 rfl ⟨_, c24 T hT hTb, fun h => ?_, fun h => ?_⟩
  · have h : chkE T ≠ 0 := by simpa using h
    rw [refB, if_pos h]; exact ⟨rfl, rfl, rfl⟩
  have h : chkE T = 0 := by simpa using h
  obtain ⟨t0, R⟩ := chk_ok h
  have hn := R.n
  have hm := R.m
  have hl16 : ∀ b ∈ T, b.length ≤ 16 := fun b hb => by have := R.len b hb; omega
  have km := c37 T (by omega) hl16
  have hMx := masks_lt hl16
  have hMl : (masksL T).length = T.length := by simp [masksL]
  rw [refB, if_neg (by rw [h]; simp)]
  generalize masksL T = M at *
  refine ⟨_, km, true, ?_⟩
  refine ⟨fun q c => ∃ i : Nat, i ≤ s.length ∧ q = s.length - i ∧ anyR (badS T.length s) i s.length = anyR (badS T.length s) 0 s.length ∧ c = ⟨[(1, A s), (4, .bool false), (5, AU M), (6, U (orM M s i)), (14, A s), (15, I s.length), (16, I i)], []⟩, ⟨_, _, Wk.keep [1, 4, 5, 6, 14, 15, 16] [], 0, by omega, rfl, rfl, rfl⟩, ?_⟩
  rintro q c ⟨i, hi, rfl, hB, rfl⟩
  refine ⟨fun h4 => ?_, fun h4 => ?_⟩
  · have hlt : i < s.length := by have := of_decide_eq_true h4; omega
    rw [anyR_step hlt] at hB
    refine ⟨⟨by omega, by omega⟩, _, row_at hlt, ?_⟩
    have hbad : badS T.length s i = true → anyR (badS T.length s) 0 s.length = true := fun e => by rw [← hB, e]; rfl
    have go : badS T.length s i = false → 0 ≤ s.getD i 0 ∧ s.getD i 0 < (T.length : Int) := by
      intro e
      simp only [badS, Bool.or_eq_false_iff, decide_eq_false_iff_not] at e
      omega
    have fin : badS T.length s i = false → ((M.map encU)[(s.getD i 0).toNat]? = some [.int .u64 (M.getD (s.getD i 0).toNat 0 : Nat)] ∧ bits .or .u64 (orM M s i : Int) (M.getD (s.getD i 0).toNat 0 : Nat) = (orM M s (i + 1) : Int)) := by
      intro e
      have := go e
      have h1 := orM_lt (s := s) hMx i
      have h2 := orM_lt (s := s) hMx (i + 1)
      have r := rowU_at (l := M) (i := (s.getD i 0).toNat) (by omega)
      rw [Int.toNat_natCast] at r
      refine ⟨r, orU _ _ (by omega) ?_⟩
      have := hMx (M.getD (s.getD i 0).toNat 0) (by rw [List.getD_eq_getElem?_getD, List.getElem?_eq_getElem (by omega)]; simp)
      omega
    by_cases hx : s.getD i 0 < 0
    · have d : decide (s.getD i 0 < 0) = true := by simpa using hx
      have hb : badS T.length s i = true := by unfold badS; rw [d]; rfl
      rw [if_pos (hbad hb)]
      exact ⟨[(2, true), (8, true)], d, rfl, fun _ => ⟨rfl, rfl, rfl⟩, fun h => (by cases h)⟩
    have d : decide (s.getD i 0 < 0) = false := by simpa using hx
    by_cases hx2 : s.getD i 0 ≥ (T.length : Int)
    · have d2 : decide (s.getD i 0 ≥ (T.length : Int)) = true := by simpa using hx2
      have hb : badS T.length s i = true := by unfold badS; rw [d2]; simp
      rw [if_pos (hbad hb)]
      exact ⟨[(2, false), (8, true)], d, by rw [hMl, d2]; rfl, fun _ => ⟨rfl, rfl, rfl⟩, fun h => (by cases h)⟩
    have d2 : decide (s.getD i 0 ≥ (T.length : Int)) = false := by simpa using hx2
    by_cases h0 : i = 0
    · subst h0
      have hb : badS T.length s 0 = false := by unfold badS; rw [d, d2]; rfl
      obtain ⟨f1, f2⟩ := fin hb
      rw [hb, Bool.false_or] at hB
      refine ⟨[(2, false), (8, false), (11, false)], d, by rw [hMl, d2]; rfl, rfl, fun h => (by cases h), fun _ => ?_⟩
      exact ⟨⟨by omega, by omega⟩, _, f1, _, f2, ((0 + 1 : Nat) : Int), wrapTo (by omega) (by omega) (by omega), _, _, Wk.keep [1, 4, 5, 6, 14, 15, 16] [], by omega, 1, hlt, rfl, hB, rfl⟩
    have d3 : decide ((i : Int) > 0) = true := by simp; omega
    have hr := row_at (l := s) (i := i - 1) (by omega)
    by_cases hx3 : s.getD i 0 ≤ s.getD (i - 1) 0
    · have d4 : decide (s.getD i 0 ≤ s.getD (i - 1) 0) = true := by simpa using hx3
      have hb : badS T.length s i = true := by unfold badS; rw [d4, show decide (0 < i) = true by simp; omega]; simp
      rw [if_pos (hbad hb)]
      exact ⟨[(2, false), (8, false), (11, true)], d, by rw [hMl, d2]; rfl, d3, ((i - 1 : Nat) : Int), wrapTo (by omega) (by omega) (by omega), ⟨by omega, by omega⟩, _, hr, fun _ => ⟨rfl, rfl, rfl⟩, fun h => (by rw [show _ = true from d4] at h; cases h)⟩
    · have d4 : decide (s.getD i 0 ≤ s.getD (i - 1) 0) = false := by simpa using hx3
      have hb : badS T.length s i = false := by unfold badS; rw [d, d2, d4]; simp
      obtain ⟨f1, f2⟩ := fin hb
      rw [hb, Bool.false_or] at hB
      refine ⟨[(2, false), (8, false), (11, true)], d, by rw [hMl, d2]; rfl, d3, ((i - 1 : Nat) : Int), wrapTo (by omega) (by omega) (by omega), ⟨by omega, by omega⟩, _, hr, fun h => (by rw [show _ = false from d4] at h; cases h), fun _ => ?_⟩
      exact ⟨⟨by omega, by omega⟩, _, f1, _, f2, ((i + 1 : Nat) : Int), wrapTo (by omega) (by omega) (by omega), _, _, Wk.keep [1, 4, 5, 6, 14, 15, 16] [], by omega, i + 1, hlt, rfl, hB, rfl⟩
  · have hin : i = s.length := by have := of_decide_eq_false h4; omega
    subst hin
    rw [anyR_end] at hB
    rw [if_neg (by rw [← hB]; simp)]
    refine ⟨_, c39 _ (orM_lt hMx _), ?_⟩
    refine ⟨rfl, rfl, ?_⟩
    show AV.bool _ = AV.bool (decide (((onesN (orM M s s.length) : Nat) : Int) < ((s.length : Nat) : Int)))
    congr 1
    simp
end Go.Abs.L38
