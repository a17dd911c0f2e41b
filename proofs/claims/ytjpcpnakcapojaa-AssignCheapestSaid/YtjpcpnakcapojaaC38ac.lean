import Derived.Test.YtjpcpnakcapojaaC38ab
import Derived.Test.YtjpcpnakcapojaaP2
namespace Go.Abs.L38
open Go Go.Abs Go.Proofs Go.Abs.Hung
set_option linter.unusedVariables false
set_option maxRecDepth 20000
theorem orM_bit {M : List Nat} {s : List Int} {j : Nat} : ∀ {q : Nat}, (orM M s q).testBit j = (List.range q).any fun i => (M.getD (s.getD i 0).toNat 0).testBit j
  | 0 => by simp [orM]
  | q + 1 => by rw [orM, Nat.testBit_or, orM_bit, List.range_succ, List.any_append]; simp
theorem bit_mask {T : List (List Int)} {t0 : List Int} (R : TabR T t0) {i j : Nat} (hi : i < T.length) : ((masksL T).getD i 0).testBit j = (decide (j < t0.length) && decide ((T.getD i []).getD j 0 ≥ 0)) := by
  have hTi : T.getD i [] ∈ T := by rw [List.getD_eq_getElem?_getD, List.getElem?_eq_getElem hi]; simp
  have e : (masksL T).getD i 0 = maskTo (T.getD i []) (T.getD i []).length := by
    rw [masksL, List.getD_eq_getElem?_getD, List.getElem?_map, List.getD_eq_getElem?_getD, List.getElem?_eq_getElem hi]; rfl
  rw [e, mask_bit, R.len _ hTi]
/-- the columns, counted, are the bits, counted -/
theorem cols_ones {T : List (List Int)} {t0 s : List Int} (R : TabR T t0) (hr : ∀ i, i < s.length → 0 ≤ s.getD i 0 ∧ s.getD i 0 < (T.length : Int)) : colsR T s 0 t0.length = onesN (orM (masksL T) s s.length) := by
  have hm := R.m
  rw [ones_bits 16 _ (Nat.le_refl _) (orM_lt (masks_lt' R) _)]
  have key : ∀ j, (orM (masksL T) s s.length).testBit j = (decide (j < t0.length) && s.any (seesC T j)) := by
    intro j
    rw [orM_bit, Bool.eq_iff_iff, List.any_eq_true, Bool.and_eq_true, List.any_eq_true, decide_eq_true_eq]
    constructor
    · rintro ⟨i, hi, hb⟩
      have hi := List.mem_range.1 hi
      have := hr i hi
      rw [bit_mask R (by omega), Bool.and_eq_true] at hb
      exact ⟨of_decide_eq_true hb.1, _, getD_mem hi, hb.2⟩
    · rintro ⟨hj, x, hx, hb⟩
      obtain ⟨i, hi, rfl⟩ := mem_getD hx
      have := hr i hi
      refine ⟨i, List.mem_range.2 hi, ?_⟩
      rw [bit_mask R (by omega), decide_eq_true hj]
      exact hb
  refine Nat.le_antisymm (nodup_sub ?_ fun j hj => ?_) (nodup_sub (List.nodup_range.filter _) fun j hj => ?_)
  · exact (List.nodup_range' (step := 1)).filter _
  · rw [List.mem_filter, List.mem_range'_1] at hj
    rw [bitsL, List.mem_filter, List.mem_range, key, hj.2, decide_eq_true (show j < t0.length by omega)]
    exact ⟨by omega, rfl⟩
  · rw [bitsL, List.mem_filter, key, Bool.and_eq_true, decide_eq_true_eq] at hj
    rw [List.mem_filter, List.mem_range'_1]
    exact ⟨by omega, hj.2.2⟩
theorem c23 (T : List (List Int)) (hT : T.length ≤ 9223372036854775807) (hTb : ∀ b ∈ T, b.length ≤ 9223372036854775807) (s : List Int) (hs : s.length ≤ 9223372036854775807) : Fn Try.prog 23 [AA T, A s] (.bool (refB T s)) := by
  refine mk23 rfl ⟨_, c27 T hT hTb, fun h => ?_, fun h => ?_⟩
  · have h : chkE T ≠ 0 := by simpa using h
    rw [refB, if_pos h]; exact ⟨rfl, rfl, rfl⟩
  have h : chkE T = 0 := by simpa using h
  obtain ⟨t0, R⟩ := chk_ok h
  have hn := R.n
  rw [refB, if_neg (by rw [h]; simp)]
  refine ⟨fun q c => ∃ i : Nat, i ≤ s.length ∧ q = s.length - i ∧ anyR (badS T.length s) i s.length = anyR (badS T.length s) 0 s.length ∧ c = ⟨[(0, AA T), (1, A s), (4, .bool false), (10, A s), (11, I s.length), (12, I i)], []⟩, ⟨_, _, Wk.keep [0, 1, 4, 10, 11, 12] [], 0, by omega, rfl, rfl, rfl⟩, ?_⟩
  rintro q c ⟨i, hi, rfl, hB, rfl⟩
  refine ⟨fun h4 => ?_, fun h4 => ?_⟩
  · have hlt : i < s.length := by have := of_decide_eq_true h4; omega
    rw [anyR_step hlt] at hB
    refine ⟨⟨by omega, by omega⟩, _, row_at hlt, ?_⟩
    have hbad : badS T.length s i = true → anyR (badS T.length s) 0 s.length = true := fun e => by rw [← hB, e]; rfl
    by_cases hx : s.getD i 0 < 0
    · have d : decide (s.getD i 0 < 0) = true := by simpa using hx
      have hb : badS T.length s i = true := by unfold badS; rw [d]; rfl
      rw [if_pos (hbad hb)]
      exact ⟨[(2, true), (8, true)], d, rfl, fun _ => ⟨rfl, rfl, rfl⟩, fun h => (by cases h)⟩
    have d : decide (s.getD i 0 < 0) = false := by simpa using hx
    by_cases hx2 : s.getD i 0 ≥ (T.length : Int)
    · have d2 : decide (s.getD i 0 ≥ (T.length : Int)) = true := by simpa using hx2
      have hb : badS T.length s i = true := by unfold badS; rw [d2]; simp
      rw [if_pos (hbad hb)]
      exact ⟨[(2, false), (8, true)], d, by rw [d2]; rfl, fun _ => ⟨rfl, rfl, rfl⟩, fun h => (by cases h)⟩
    have d2 : decide (s.getD i 0 ≥ (T.length : Int)) = false := by simpa using hx2
    by_cases h0 : i = 0
    · subst h0
      have hb : badS T.length s 0 = false := by unfold badS; rw [d, d2]; rfl
      rw [hb, Bool.false_or] at hB
      refine ⟨[(2, false), (8, false), (11, false)], d, by rw [d2]; rfl, rfl, fun h => (by cases h), fun _ => ?_⟩
      exact ⟨((0 + 1 : Nat) : Int), wrapTo (by omega) (by omega) (by omega), _, _, Wk.keep [0, 1, 4, 10, 11, 12] [], by omega, 1, hlt, rfl, hB, rfl⟩
    have d3 : decide ((i : Int) > 0) = true := by simp; omega
    have hr := row_at (l := s) (i := i - 1) (by omega)
    by_cases hx3 : s.getD i 0 ≤ s.getD (i - 1) 0
    · have d4 : decide (s.getD (i - 1) 0 ≥ s.getD i 0) = true := by simpa using hx3
      have hb : badS T.length s i = true := by unfold badS; rw [show decide (s.getD i 0 ≤ s.getD (i - 1) 0) = true by simpa using hx3, show decide (0 < i) = true by simp; omega]; simp
      rw [if_pos (hbad hb)]
      exact ⟨[(2, false), (8, false), (11, true)], d, by rw [d2]; rfl, d3, ((i - 1 : Nat) : Int), wrapTo (by omega) (by omega) (by omega), ⟨by omega, by omega⟩, _, hr, fun _ => ⟨rfl, rfl, rfl⟩, fun h => (by rw [show _ = true from d4] at h; cases h)⟩
    · have d4 : decide (s.getD (i - 1) 0 ≥ s.getD i 0) = false := by simpa using hx3
      have hb : badS T.length s i = false := by unfold badS; rw [d, d2, show decide (s.getD i 0 ≤ s.getD (i - 1) 0) = false by simpa using hx3]; simp
      rw [hb, Bool.false_or] at hB
      refine ⟨[(2, false), (8, false), (11, true)], d, by rw [d2]; rfl, d3, ((i - 1 : Nat) : Int), wrapTo (by omega) (by omega) (by omega), ⟨by omega, by omega⟩, _, hr, fun h => (by rw [show _ = false from d4] at h; cases h), fun _ => ?_⟩
      exact ⟨((i + 1 : Nat) : Int), wrapTo (by omega) (by omega) (by omega), _, _, Wk.keep [0, 1, 4, 10, 11, 12] [], by omega, i + 1, hlt, rfl, hB, rfl⟩
  · have hin : i = s.length := by have := of_decide_eq_false h4; omega
    subst hin
    rw [anyR_end] at hB
    rw [if_neg (by rw [← hB]; simp)]
    have hr : ∀ i, i < s.length → 0 ≤ s.getD i 0 ∧ s.getD i 0 < (T.length : Int) := by
      intro i hi
      have := anyR_false.1 hB.symm i hi
      simp only [badS, Bool.or_eq_false_iff, decide_eq_false_iff_not] at this
      omega
    have h41 := c41 R s hs fun x hx => by
      obtain ⟨i, hi, rfl⟩ := mem_getD hx
      exact hr i hi
    rw [cols_ones R hr] at h41
    refine ⟨_, h41, rfl, rfl, ?_⟩
    show AV.bool _ = AV.bool (decide (((onesN (orM (masksL T) s s.length) : Nat) : Int) < ((s.length : Nat) : Int)))
    congr 1
    simp
end Go.Abs.L38
