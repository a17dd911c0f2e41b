import Derived.Test.YtjpcpnakcapojaaC1
namespace Go.Abs.L38
open Go Go.Abs Go.Proofs
set_option linter.unusedVariables false
set_option maxRecDepth 20000
set_option maxHeartbeats 1000000 in
theorem c27 (T : List (List Int)) (hT : T.length ≤ 9223372036854775807) (hTb : ∀ b ∈ T, b.length ≤ 9223372036854775807) : Fn Try.prog 27 [AA T] (I (chkE T)) := by
  cases T with
  | nil => exact mk27 rfl ⟨[(3, true)], rfl, fun _ => ⟨rfl, rfl, rfl⟩, fun h => (by cases h)⟩
  | cons t0 T =>
    have h00 : (0 : Int) < (((t0 :: T).length : Nat) : Int) := by rw [List.length_cons]; omega
    refine mk27 rfl ⟨[(3, false)], by simp; omega, ⟨by omega, h00⟩, encT t0, rfl, fun h => ?_, fun h => ?_⟩
    · have h : t0 = [] := nil_of_len (by simpa using h)
      rw [chkE, if_pos h]; exact ⟨rfl, rfl, rfl⟩
    have h0 : t0 ≠ [] := by rintro rfl; cases h
    have hv : chkE (t0 :: T) = if (t0 :: T).length > 16 ∨ t0.length > 16 then 8 else if (t0 :: T).any (fun t => decide (t.length ≠ t0.length)) = true then 10 else if (t0 :: T).any (fun t => t.any badC) = true then 2 else 0 := by rw [chkE, if_neg h0]
    rw [hv]
    by_cases h1 : (t0 :: T).length > 16
    · rw [if_pos (.inl h1)]
      exact ⟨[(3, true)], by simp at h1 ⊢; omega, fun _ => ⟨rfl, rfl, rfl⟩, fun h => (by cases h)⟩
    refine ⟨[(3, false)], by simp at h1 ⊢; omega, ⟨by omega, h00⟩, encT t0, rfl, fun h2 => ?_, fun h2 => ?_⟩
    · have h2 : t0.length > 16 := by simp at h2; omega
      rw [if_pos (.inr h2)]; exact ⟨rfl, rfl, rfl⟩
    have h2 : ¬ t0.length > 16 := by simp at h2; omega
    rw [if_neg (by omega)]
    have hS0 : (t0 :: T)[0]? = some t0 := rfl
    generalize hS : t0 :: T = S at *
    clear hv
    refine ⟨fun q c => ∃ i : Nat, i ≤ S.length ∧ q = S.length - i ∧ (S.drop i).any (fun t => decide (t.length ≠ t0.length)) = S.any (fun t => decide (t.length ≠ t0.length)) ∧ c = ⟨[(0, AA S), (2, I 0), (29, AA S), (30, I S.length), (31, I i)], []⟩, ⟨_, _, Wk.keep [0, 2, 29, 30, 31] [], 0, by omega, rfl, rfl, rfl⟩, ?_⟩
    rintro q c ⟨i, hi, rfl, hI, rfl⟩
    refine ⟨fun h4 => ?_, fun h4 => ?_⟩
    · simp at h4
      obtain ⟨t, ht, hd, _⟩ := drop_cons h4
      have htl := hTb t (List.mem_of_getElem? ht)
      rw [hd, List.any_cons] at hI
      refine ⟨⟨by omega, by omega⟩, encT t, get_map ht, ⟨by omega, h00⟩, encT t0, get_map (i := 0) hS0, fun h5 => ?_, fun h5 => ?_⟩
      · have h5 : t.length ≠ t0.length := by simp at h5; omega
        have : decide (t.length ≠ t0.length) = true := by simpa using h5
        rw [this, Bool.true_or] at hI
        rw [if_pos hI.symm]; exact ⟨rfl, rfl, rfl⟩
      · have h5 : t.length = t0.length := by simp at h5; omega
        have : decide (t.length ≠ t0.length) = false := by simpa using h5
        rw [this, Bool.false_or] at hI
        refine ⟨_, wrap64 (by omega) (by omega), ?_⟩
        exact ⟨_, _, Wk.keep [0, 2, 29, 30, 31] [], by omega, i + 1, by omega, rfl, hI, rfl⟩
    · simp at h4
      have : i = S.length := by omega
      subst this
      rw [List.drop_length, List.any_nil] at hI
      rw [← hI, if_neg (by simp)]
      clear hI h4
      refine ⟨fun q c => ∃ i : Nat, i ≤ S.length ∧ q = S.length - i ∧ (S.drop i).any (fun t => t.any badC) = S.any (fun t => t.any badC) ∧ c = ⟨[(2, I 0), (43, AA S), (44, I S.length), (45, I i)], []⟩, ⟨_, _, Wk.keep [2, 43, 44, 45] [], 0, by omega, rfl, rfl, rfl⟩, ?_⟩
      rintro q c ⟨i, hi, rfl, hI, rfl⟩
      refine ⟨fun h4 => ?_, fun h4 => ?_⟩
      · simp at h4
        obtain ⟨t, ht, hd, _⟩ := drop_cons h4
        have htl := hTb t (List.mem_of_getElem? ht)
        rw [hd, List.any_cons] at hI
        refine ⟨⟨by omega, by omega⟩, encT t, get_map ht, ?_⟩
        refine ⟨fun q c => ∃ j : Nat, j ≤ t.length ∧ q = t.length - j ∧ (t.drop j).any badC = t.any badC ∧ c = ⟨[(2, I 0), (43, AA S), (44, I S.length), (45, I i), (49, A t), (50, I t.length), (51, I j)], []⟩, ⟨_, _, Wk.keep [2, 43, 44, 45, 49, 50, 51] [], 0, by omega, rfl, rfl, rfl⟩, ?_⟩
        rintro q c ⟨j, hj, rfl, hJ, rfl⟩
        refine ⟨fun h5 => ?_, fun h5 => ?_⟩
        · simp at h5
          obtain ⟨x, hx, hd2, _⟩ := drop_cons h5
          rw [hd2, List.any_cons] at hJ
          refine ⟨⟨by omega, by omega⟩, enc x, get_map hx, ?_⟩
          by_cases hb1 : x < -1
          · have : badC x = true := by simp [badC, hb1]
            rw [this, Bool.true_or] at hJ
            rw [← hJ, Bool.true_or] at hI
            rw [if_pos hI.symm]
            exact ⟨[(2, true)], by simpa using hb1, fun _ => ⟨rfl, rfl, rfl⟩, fun h => (by cases h)⟩
          · refine ⟨[(2, false)], by simpa using hb1, fun h6 => ?_, fun h6 => ?_⟩
            · have h6 : x > 1000 := by simpa using h6
              have : badC x = true := by simp [badC, h6]
              rw [this, Bool.true_or] at hJ
              rw [← hJ, Bool.true_or] at hI
              rw [if_pos hI.symm]; exact ⟨rfl, rfl, rfl⟩
            · have h6 : ¬ x > 1000 := by simpa using h6
              have : badC x = false := by simp [badC, hb1]; omega
              rw [this, Bool.false_or] at hJ
              refine ⟨_, wrap64 (by omega) (by omega), ?_⟩
              exact ⟨_, _, Wk.keep [2, 43, 44, 45, 49, 50, 51] [], by omega, j + 1, by omega, rfl, hJ, rfl⟩
        · simp at h5
          have : j = t.length := by omega
          subst this
          rw [List.drop_length, List.any_nil] at hJ
          rw [← hJ, Bool.false_or] at hI
          refine ⟨_, wrap64 (by omega) (by omega), ?_⟩
          exact ⟨_, _, Wk.keep [2, 43, 44, 45] [], by omega, i + 1, by omega, rfl, hI, rfl⟩
      · simp at h4
        have : i = S.length := by omega
        subst this
        rw [List.drop_length, List.any_nil] at hI
        rw [if_neg (by rw [← hI]; simp)]; exact ⟨rfl, rfl, rfl⟩
def fewB (T : List (List Int)) : Bool := T.all (fun t => decide (t.length ≤ 18)) && decide (T.length ≤ 18)
theorem c12 (T : List (List Int)) (hl : T.length ≤ 9223372036854775807) : Fn Try.prog 12 [AA T] (.bool (fewB T)) := by
  refine mk12 rfl ?_
  refine ⟨fun q c => ∃ i : Nat, i ≤ T.length ∧ q = T.length - i ∧ (T.drop i).all (fun t => decide (t.length ≤ 18)) = T.all (fun t => decide (t.length ≤ 18)) ∧ c = ⟨[(0, AA T), (5, AA T), (6, I T.length), (7, I i)], []⟩, ⟨_, _, Wk.keep [0, 5, 6, 7] [], 0, by omega, rfl, rfl, rfl⟩, ?_⟩
  rintro q c ⟨i, hi, rfl, hI, rfl⟩
  refine ⟨fun h => ?_, fun h => ?_⟩
  · simp at h
    obtain ⟨a, ha, hd, _⟩ := drop_cons h
    rw [hd, List.all_cons] at hI
    refine ⟨⟨by omega, by omega⟩, encT a, get_map ha, fun hz => ?_, fun hz => ?_⟩
    · have hz : a.length > 18 := by simp at hz; omega
      have : decide (a.length ≤ 18) = false := by simp; omega
      rw [this, Bool.false_and] at hI
      rw [fewB, ← hI]; exact ⟨rfl, rfl, rfl⟩
    · have hz : ¬ a.length > 18 := by simp at hz; omega
      have : decide (a.length ≤ 18) = true := by simp; omega
      rw [this, Bool.true_and] at hI
      refine ⟨_, wrap64 (by omega) (by omega), ?_⟩
      exact ⟨_, _, Wk.keep [0, 5, 6, 7] [], by omega, i + 1, by omega, rfl, hI, rfl⟩
  · simp at h
    have : i = T.length := by omega
    subst this
    rw [List.drop_length, List.all_nil] at hI
    refine ⟨rfl, rfl, ?_⟩
    rw [fewB, ← hI, Bool.true_and]
    show AV.bool (decide (T.length ≤ 18)) = AV.bool (decide ((T.length : Int) ≤ 18))
    congr 1; exact decide_eq_decide.2 (by omega)
/-! ### what a right table is -/
structure TabR (T : List (List Int)) (t0 : List Int) : Prop where
  head : T[0]? = some t0
  n : 1 ≤ T.length ∧ T.length ≤ 16
  m : 1 ≤ t0.length ∧ t0.length ≤ 16
  len : ∀ t ∈ T, t.length = t0.length
  rng : ∀ t ∈ T, ∀ c ∈ t, -1 ≤ c ∧ c ≤ 1000
theorem chk_ok {T : List (List Int)} (h : chkE T = 0) : ∃ t0, TabR T t0 := by
  cases T with
  | nil => cases h
  | cons t0 T =>
    rw [chkE] at h
    split at h
    · cases h
    · rename_i h0
      split at h
      · cases h
      · split at h
        · cases h
        · split at h
          · cases h
          · rename_i h1 h2 h3
            have h2 : (t0 :: T).any (fun t => decide (t.length ≠ t0.length)) = false := by simpa using h2
            have h3 : (t0 :: T).any (fun t => t.any badC) = false := by simpa using h3
            rw [List.any_eq_false] at h2 h3
            have hl : 1 ≤ t0.length := by
              cases t0 with
              | nil => exact absurd rfl h0
              | cons x r => simp
            refine ⟨t0, rfl, ⟨by simp, by omega⟩, ⟨hl, by omega⟩, fun t ht => by simpa using h2 t ht, fun t ht c hc => ?_⟩
            have := h3 t ht
            rw [Bool.not_eq_true, List.any_eq_false] at this
            have := this c hc
            simp [badC] at this
            omega
/-! ### Bound -/
def lsum : List Int → Int
  | [] => 0
  | x :: r => x + lsum r
def badR (n : Int) : Bool := decide (n < -1073741824) || decide (n > 1073741824)
def badK (n : Int) : Bool := decide (n < -1073741824) || decide (n > 0)
def vR (ri : Int) (k : List Int) : List Int → Nat → Bool
  | [], _ => false
  | c :: t, j => (decide (c ≥ 0) && decide (ri + k.getD j 0 > c)) || vR ri k t (j + 1)
def vT (r k : List Int) : List (List Int) → Nat → Bool
  | [], _ => false
  | t :: T, i => vR (r.getD i 0) k t 0 || vT r k T (i + 1)
def bndX (T : List (List Int)) (r k : List Int) : Bool := decide (r.length ≠ T.length) || decide (k.length ≠ (T.headD []).length) || r.any badR || k.any badK || vT r k T 0
def bndE (T : List (List Int)) (r k : List Int) : Int := if chkE T ≠ 0 then 0 else if bndX T r k = true then 0 else lsum r + lsum k
def bndC (T : List (List Int)) (r k : List Int) : Int := if chkE T ≠ 0 then 1 else if bndX T r k = true then 14 else 0
theorem or_t {a b : Bool} (h : a = true) : (a || b) = true := by rw [h]; rfl
theorem or_r {a b : Bool} (h : b = true) : (a || b) = true := by rw [h, Bool.or_true]
set_option maxHeartbeats 4000000 in
theorem c17 (T : List (List Int)) (hT : T.length ≤ 9223372036854775807) (hTb : ∀ b ∈ T, b.length ≤ 9223372036854775807) (r k : List Int) : Fn Try.prog 17 [AA T, .agg [A r, A k]] (.tup [I (bndE T r k), I (bndC T r k)]) := by
  refine mk17 rfl ⟨_, c24 T hT hTb, fun h => ?_, fun h => ?_⟩
  · have h : chkE T ≠ 0 := by simpa using h
    rw [bndE, bndC, if_pos h, if_pos h]; exact ⟨_, _, rfl, ⟨rfl, rfl⟩, rfl, rfl, trivial⟩
  have h : chkE T = 0 := by simpa using h
  obtain ⟨t0, R⟩ := chk_ok h
  have hn := R.n
  have hm := R.m
  have hH : T.headD [] = t0 := by
    have := R.head
    cases T with
    | nil => cases this
    | cons a T => simpa using this
  have hne : ¬ chkE T ≠ 0 := by omega
  rw [bndE, bndC, if_neg hne, if_neg hne]
  by_cases h1 : r.length ≠ T.length
  · have hx : bndX T r k = true := by unfold bndX; rw [show decide (r.length ≠ T.length) = true by simpa using h1]; simp
    rw [if_pos hx, if_pos hx]
    exact ⟨[(6, true)], by simp; omega, fun _ => ⟨_, _, rfl, ⟨rfl, rfl⟩, rfl, rfl, trivial⟩, fun h => (by cases h)⟩
  have h1 : r.length = T.length := by omega
  refine ⟨[(6, false)], by simp; omega, ⟨by omega, by omega⟩, encT t0, get_map (i := 0) R.head, fun h2 => ?_, fun h2 => ?_⟩
  · have h2 : k.length ≠ t0.length := by simp at h2; omega
    have hx : bndX T r k = true := by unfold bndX; rw [hH, show decide (k.length ≠ t0.length) = true by simpa using h2]; simp
    rw [if_pos hx, if_pos hx]
    exact ⟨_, _, rfl, ⟨rfl, rfl⟩, rfl, rfl, trivial⟩
  have h2 : k.length = t0.length := by simp at h2; omega
  have hX : bndX T r k = (r.any badR || k.any badK || vT r k T 0) := by
    unfold bndX; rw [hH]; simp [h1, h2]
  refine ⟨fun q c => ∃ (i : Nat) (s : Int), i ≤ r.length ∧ q = r.length - i ∧ -1073741824 * (i : Int) ≤ s ∧ s ≤ 1073741824 * i ∧ s + lsum (r.drop i) = lsum r ∧ (r.drop i).any badR = r.any badR ∧ c = ⟨[(0, AA T), (3, .ovar 48 0), (6, I s), (35, A r), (36, I r.length), (37, I i)], [(48, ⟨32, 2, .any, [[A r, A k]]⟩)]⟩, ⟨_, _, Wk.keep [0, 3, 6, 35, 36, 37] [48], 0, 0, by omega, rfl, by omega, by omega, by simp, rfl, rfl⟩, ?_⟩
  rintro q c ⟨i, s, hi, rfl, hs0, hs1, hS, hI, rfl⟩
  refine ⟨fun h4 => ?_, fun h4 => ?_⟩
  · simp at h4
    obtain ⟨x, hx, hd, _⟩ := drop_cons h4
    rw [hd, List.any_cons] at hI
    rw [hd, lsum] at hS
    refine ⟨⟨by omega, by omega⟩, enc x, get_map hx, ?_⟩
    by_cases hb1 : x < -1073741824
    · have : badR x = true := by simp [badR, hb1]
      rw [this, Bool.true_or] at hI
      have hX' : bndX T r k = true := by rw [hX, ← hI]; simp
      rw [if_pos hX', if_pos hX']
      exact ⟨[(2, true)], by simpa using hb1, fun _ => ⟨_, _, rfl, ⟨rfl, rfl⟩, rfl, rfl, trivial⟩, fun h => (by cases h)⟩
    · refine ⟨[(2, false)], by simpa using hb1, fun h6 => ?_, fun h6 => ?_⟩
      · have h6 : x > 1073741824 := by simpa using h6
        have : badR x = true := by simp [badR, h6]
        rw [this, Bool.true_or] at hI
        have hX' : bndX T r k = true := by rw [hX, ← hI]; simp
        rw [if_pos hX', if_pos hX']
        exact ⟨_, _, rfl, ⟨rfl, rfl⟩, rfl, rfl, trivial⟩
      · have h6 : ¬ x > 1073741824 := by simpa using h6
        have : badR x = false := by simp [badR, hb1]; omega
        rw [this, Bool.false_or] at hI
        refine ⟨_, wrap64 (by omega) (by omega), _, wrap64 (by omega) (by omega), ?_⟩
        exact ⟨_, _, Wk.keep [0, 3, 6, 35, 36, 37] [48], by omega, i + 1, s + x, by omega, rfl, by omega, by omega, by omega, hI, rfl⟩
  simp at h4
  have : i = r.length := by omega
  subst this
  rw [List.drop_length] at hI hS
  rw [← hI, List.any_nil, Bool.false_or] at hX
  have hsr : s = lsum r := by rw [lsum] at hS; omega
  have hrb : ∀ x ∈ r, -1073741824 ≤ x ∧ x ≤ 1073741824 := by
    intro x hx
    rw [List.any_nil] at hI
    have := (List.any_eq_false.1 hI.symm) x hx
    simp [badR] at this; omega
  clear hI hS h4 hi
  refine ⟨fun q c => ∃ (i : Nat) (s' : Int), i ≤ k.length ∧ q = k.length - i ∧ -1073741824 * ((r.length : Int) + i) ≤ s' ∧ s' ≤ 1073741824 * ((r.length : Int) + i) ∧ s' + lsum (k.drop i) = lsum r + lsum k ∧ (k.drop i).any badK = k.any badK ∧ c = ⟨[(0, AA T), (3, .ovar 48 0), (6, I s'), (52, A k), (53, I k.length), (54, I i)], [(48, ⟨32, 2, .any, [[A r, A k]]⟩)]⟩, ⟨_, _, Wk.keep [0, 3, 6, 52, 53, 54] [48], 0, s, by omega, rfl, by omega, by omega, by rw [hsr]; rfl, rfl, rfl⟩, ?_⟩
  clear hs0 hs1 hsr
  rintro q c ⟨i, s, hi, rfl, hs0, hs1, hS, hI, rfl⟩
  refine ⟨fun h4 => ?_, fun h4 => ?_⟩
  · simp at h4
    obtain ⟨x, hx, hd, _⟩ := drop_cons h4
    rw [hd, List.any_cons] at hI
    rw [hd, lsum] at hS
    refine ⟨⟨by omega, by omega⟩, enc x, get_map hx, ?_⟩
    by_cases hb1 : x < -1073741824
    · have : badK x = true := by simp [badK, hb1]
      rw [this, Bool.true_or] at hI
      have hX' : bndX T r k = true := by rw [hX, ← hI]; simp
      rw [if_pos hX', if_pos hX']
      exact ⟨[(2, true)], by simpa using hb1, fun _ => ⟨_, _, rfl, ⟨rfl, rfl⟩, rfl, rfl, trivial⟩, fun h => (by cases h)⟩
    · refine ⟨[(2, false)], by simpa using hb1, fun h6 => ?_, fun h6 => ?_⟩
      · have h6 : x > 0 := by simpa using h6
        have : badK x = true := by simp [badK, h6]
        rw [this, Bool.true_or] at hI
        have hX' : bndX T r k = true := by rw [hX, ← hI]; simp
        rw [if_pos hX', if_pos hX']
        exact ⟨_, _, rfl, ⟨rfl, rfl⟩, rfl, rfl, trivial⟩
      · have h6 : ¬ x > 0 := by simpa using h6
        have : badK x = false := by simp [badK, hb1]; omega
        rw [this, Bool.false_or] at hI
        refine ⟨_, wrap64 (by omega) (by omega), _, wrap64 (by omega) (by omega), ?_⟩
        exact ⟨_, _, Wk.keep [0, 3, 6, 52, 53, 54] [48], by omega, i + 1, s + x, by omega, rfl, by omega, by omega, by omega, hI, rfl⟩
  simp at h4
  have : i = k.length := by omega
  subst this
  rw [List.drop_length] at hI hS
  rw [← hI, List.any_nil, Bool.false_or] at hX
  have hsr : s = lsum r + lsum k := by rw [lsum] at hS; omega
  subst hsr
  have hkb : ∀ x ∈ k, -1073741824 ≤ x ∧ x ≤ 0 := by
    intro x hx
    rw [List.any_nil] at hI
    have := (List.any_eq_false.1 hI.symm) x hx
    simp [badK] at this; omega
  clear hI hS h4 hi hs0 hs1
  refine ⟨fun q c => ∃ i : Nat, i ≤ T.length ∧ q = T.length - i ∧ vT r k (T.drop i) i = vT r k T 0 ∧ c = ⟨[(3, .ovar 48 0), (6, I (lsum r + lsum k)), (68, AA T), (69, I T.length), (70, I i)], [(48, ⟨32, 2, .any, [[A r, A k]]⟩)]⟩, ⟨_, _, Wk.keep [3, 6, 68, 69, 70] [48], 0, by omega, rfl, rfl, rfl⟩, ?_⟩
  rintro q c ⟨i, hi, rfl, hI, rfl⟩
  refine ⟨fun h4 => ?_, fun h4 => ?_⟩
  · simp at h4
    obtain ⟨t, ht, hd, _⟩ := drop_cons h4
    have htm := List.mem_of_getElem? ht
    have htl := R.len t htm
    rw [hd, vT] at hI
    obtain ⟨ri, hri, _, _⟩ := drop_cons (l := r) (i := i) (by omega)
    have hriD : r.getD i 0 = ri := by rw [List.getD_eq_getElem?_getD, hri]; rfl
    rw [hriD] at hI
    refine ⟨⟨by omega, by omega⟩, encT t, get_map ht, ?_⟩
    refine ⟨fun q c => ∃ j : Nat, j ≤ t.length ∧ q = t.length - j ∧ vR ri k (t.drop j) j = vR ri k t 0 ∧ c = ⟨[(3, .ovar 48 0), (6, I (lsum r + lsum k)), (11, I i), (68, AA T), (69, I T.length), (70, I i), (75, A t), (76, I t.length), (77, I j)], [(48, ⟨32, 2, .any, [[A r, A k]]⟩)]⟩, ⟨_, _, Wk.keep [3, 6, 11, 68, 69, 70, 75, 76, 77] [48], 0, by omega, rfl, rfl, rfl⟩, ?_⟩
    rintro q c ⟨j, hj, rfl, hJ, rfl⟩
    refine ⟨fun h5 => ?_, fun h5 => ?_⟩
    · simp at h5
      obtain ⟨x, hx, hd2, _⟩ := drop_cons h5
      have hxr := R.rng t htm x (List.mem_of_getElem? hx)
      obtain ⟨kj, hkj, _, _⟩ := drop_cons (l := k) (i := j) (by omega)
      have hkjD : k.getD j 0 = kj := by rw [List.getD_eq_getElem?_getD, hkj]; rfl
      rw [hd2, vR, hkjD] at hJ
      refine ⟨⟨by omega, by omega⟩, enc x, get_map hx, ?_⟩
      by_cases hx0 : x ≥ 0
      · have hrb' := hrb ri (List.mem_of_getElem? hri)
        have hkb' := hkb kj (List.mem_of_getElem? hkj)
        have e0 : decide (x ≥ 0) = true := by simpa using hx0
        rw [e0, Bool.true_and] at hJ
        refine ⟨[(2, true)], e0, ⟨by omega, by omega⟩, enc ri, get_map hri, ⟨by omega, by omega⟩, enc kj, get_map hkj, _, wrap64 (by omega) (by omega), fun h6 => ?_, fun h6 => ?_⟩
        · have h6 : decide (ri + kj > x) = true := by simpa using h6
          rw [h6, Bool.true_or] at hJ
          rw [← hJ, Bool.true_or] at hI
          have hX' : bndX T r k = true := by rw [hX, ← hI]
          rw [if_pos hX', if_pos hX']
          exact ⟨_, _, rfl, ⟨rfl, rfl⟩, rfl, rfl, trivial⟩
        · have h6 : decide (ri + kj > x) = false := by simpa using h6
          rw [h6, Bool.false_or] at hJ
          refine ⟨_, wrap64 (by omega) (by omega), ?_⟩
          exact ⟨_, _, Wk.keep [3, 6, 11, 68, 69, 70, 75, 76, 77] [48], by omega, j + 1, by omega, rfl, hJ, rfl⟩
      · have : decide (x ≥ 0) = false := by simpa using hx0
        rw [this, Bool.false_and, Bool.false_or] at hJ
        refine ⟨[(2, false)], this, fun h6 => (by cases h6), fun _ => ?_⟩
        refine ⟨_, wrap64 (by omega) (by omega), ?_⟩
        exact ⟨_, _, Wk.keep [3, 6, 11, 68, 69, 70, 75, 76, 77] [48], by omega, j + 1, by omega, rfl, hJ, rfl⟩
    · simp at h5
      have : j = t.length := by omega
      subst this
      rw [List.drop_length, vR] at hJ
      rw [← hJ, Bool.false_or] at hI
      refine ⟨_, wrap64 (by omega) (by omega), ?_⟩
      exact ⟨_, _, Wk.keep [3, 6, 68, 69, 70] [48], by omega, i + 1, by omega, rfl, hI, rfl⟩
  · simp at h4
    have : i = T.length := by omega
    subst this
    rw [List.drop_length, vT] at hI
    have hX' : ¬ bndX T r k = true := by rw [hX, ← hI]; simp
    rw [if_neg hX', if_neg hX']
    exact ⟨_, _, rfl, ⟨rfl, rfl⟩, rfl, rfl, trivial⟩
set_option maxHeartbeats 4000000 in
theorem c19 (T : List (List Int)) (hT : T.length ≤ 9223372036854775807) (hTb : ∀ b ∈ T, b.length ≤ 9223372036854775807) (r k : List Int) : Fn Try.prog 19 [AA T, .agg [A r, A k]] (.tup [I (bndE T r k), I (bndC T r k)]) := by
  refine mk19 rfl ⟨_, c27 T hT hTb, fun h => ?_, fun h => ?_⟩
  · have h : chkE T ≠ 0 := by simpa using h
    rw [bndE, bndC, if_pos h, if_pos h]; exact ⟨_, _, rfl, ⟨rfl, rfl⟩, rfl, rfl, trivial⟩
  have h : chkE T = 0 := by simpa using h
  obtain ⟨t0, R⟩ := chk_ok h
  have hn := R.n
  have hm := R.m
  have hH : T.headD [] = t0 := by
    have := R.head
    cases T with
    | nil => cases this
    | cons a T => simpa using this
  have hne : ¬ chkE T ≠ 0 := by omega
  rw [bndE, bndC, if_neg hne, if_neg hne]
  by_cases h1 : r.length ≠ T.length
  · have hx : bndX T r k = true := by unfold bndX; rw [show decide (r.length ≠ T.length) = true by simpa using h1]; simp
    rw [if_pos hx, if_pos hx]
    exact ⟨[(6, true)], by simp; omega, fun _ => ⟨_, _, rfl, ⟨rfl, rfl⟩, rfl, rfl, trivial⟩, fun h => (by cases h)⟩
  have h1 : r.length = T.length := by omega
  refine ⟨[(6, false)], by simp; omega, ⟨by omega, by omega⟩, encT t0, get_map (i := 0) R.head, fun h2 => ?_, fun h2 => ?_⟩
  · have h2 : k.length ≠ t0.length := by simp at h2; omega
    have hx : bndX T r k = true := by unfold bndX; rw [hH, show decide (k.length ≠ t0.length) = true by simpa using h2]; simp
    rw [if_pos hx, if_pos hx]
    exact ⟨_, _, rfl, ⟨rfl, rfl⟩, rfl, rfl, trivial⟩
  have h2 : k.length = t0.length := by simp at h2; omega
  have hX : bndX T r k = (r.any badR || k.any badK || vT r k T 0) := by
    unfold bndX; rw [hH]; simp [h1, h2]
  refine ⟨fun q c => ∃ (i : Nat) (s : Int), i ≤ r.length ∧ q = r.length - i ∧ -1073741824 * (i : Int) ≤ s ∧ s ≤ 1073741824 * i ∧ s + lsum (r.drop i) = lsum r ∧ (r.drop i).any badR = r.any badR ∧ c = ⟨[(0, AA T), (3, .ovar 48 0), (6, I s), (35, A r), (36, I r.length), (37, I i)], [(48, ⟨32, 2, .any, [[A r, A k]]⟩)]⟩, ⟨_, _, Wk.keep [0, 3, 6, 35, 36, 37] [48], 0, 0, by omega, rfl, by omega, by omega, by simp, rfl, rfl⟩, ?_⟩
  rintro q c ⟨i, s, hi, rfl, hs0, hs1, hS, hI, rfl⟩
  refine ⟨fun h4 => ?_, fun h4 => ?_⟩
  · simp at h4
    obtain ⟨x, hx, hd, _⟩ := drop_cons h4
    rw [hd, List.any_cons] at hI
    rw [hd, lsum] at hS
    refine ⟨⟨by omega, by omega⟩, enc x, get_map hx, ?_⟩
    by_cases hb1 : x < -1073741824
    · have : badR x = true := by simp [badR, hb1]
      rw [this, Bool.true_or] at hI
      have hX' : bndX T r k = true := by rw [hX, ← hI]; simp
      rw [if_pos hX', if_pos hX']
      exact ⟨[(2, true)], by simpa using hb1, fun _ => ⟨_, _, rfl, ⟨rfl, rfl⟩, rfl, rfl, trivial⟩, fun h => (by cases h)⟩
    · refine ⟨[(2, false)], by simpa using hb1, fun h6 => ?_, fun h6 => ?_⟩
      · have h6 : x > 1073741824 := by simpa using h6
        have : badR x = true := by simp [badR, h6]
        rw [this, Bool.true_or] at hI
        have hX' : bndX T r k = true := by rw [hX, ← hI]; simp
        rw [if_pos hX', if_pos hX']
        exact ⟨_, _, rfl, ⟨rfl, rfl⟩, rfl, rfl, trivial⟩
      · have h6 : ¬ x > 1073741824 := by simpa using h6
        have : badR x = false := by simp [badR, hb1]; omega
        rw [this, Bool.false_or] at hI
        refine ⟨_, wrap64 (by omega) (by omega), _, wrap64 (by omega) (by omega), ?_⟩
        exact ⟨_, _, Wk.keep [0, 3, 6, 35, 36, 37] [48], by omega, i + 1, s + x, by omega, rfl, by omega, by omega, by omega, hI, rfl⟩
  simp at h4
  have : i = r.length := by omega
  subst this
  rw [List.drop_length] at hI hS
  rw [← hI, List.any_nil, Bool.false_or] at hX
  have hsr : s = lsum r := by rw [lsum] at hS; omega
  have hrb : ∀ x ∈ r, -1073741824 ≤ x ∧ x ≤ 1073741824 := by
    intro x hx
    rw [List.any_nil] at hI
    have := (List.any_eq_false.1 hI.symm) x hx
    simp [badR] at this; omega
  clear hI hS h4 hi
  refine ⟨fun q c => ∃ (i : Nat) (s' : Int), i ≤ k.length ∧ q = k.length - i ∧ -1073741824 * ((r.length : Int) + i) ≤ s' ∧ s' ≤ 1073741824 * ((r.length : Int) + i) ∧ s' + lsum (k.drop i) = lsum r + lsum k ∧ (k.drop i).any badK = k.any badK ∧ c = ⟨[(0, AA T), (3, .ovar 48 0), (6, I s'), (52, A k), (53, I k.length), (54, I i)], [(48, ⟨32, 2, .any, [[A r, A k]]⟩)]⟩, ⟨_, _, Wk.keep [0, 3, 6, 52, 53, 54] [48], 0, s, by omega, rfl, by omega, by omega, by rw [hsr]; rfl, rfl, rfl⟩, ?_⟩
  clear hs0 hs1 hsr
  rintro q c ⟨i, s, hi, rfl, hs0, hs1, hS, hI, rfl⟩
  refine ⟨fun h4 => ?_, fun h4 => ?_⟩
  · simp at h4
    obtain ⟨x, hx, hd, _⟩ := drop_cons h4
    rw [hd, List.any_cons] at hI
    rw [hd, lsum] at hS
    refine ⟨⟨by omega, by omega⟩, enc x, get_map hx, ?_⟩
    by_cases hb1 : x < -1073741824
    · have : badK x = true := by simp [badK, hb1]
      rw [this, Bool.true_or] at hI
      have hX' : bndX T r k = true := by rw [hX, ← hI]; simp
      rw [if_pos hX', if_pos hX']
      exact ⟨[(2, true)], by simpa using hb1, fun _ => ⟨_, _, rfl, ⟨rfl, rfl⟩, rfl, rfl, trivial⟩, fun h => (by cases h)⟩
    · refine ⟨[(2, false)], by simpa using hb1, fun h6 => ?_, fun h6 => ?_⟩
      · have h6 : x > 0 := by simpa using h6
        have : badK x = true := by simp [badK, h6]
        rw [this, Bool.true_or] at hI
        have hX' : bndX T r k = true := by rw [hX, ← hI]; simp
        rw [if_pos hX', if_pos hX']
        exact ⟨_, _, rfl, ⟨rfl, rfl⟩, rfl, rfl, trivial⟩
      · have h6 : ¬ x > 0 := by simpa using h6
        have : badK x = false := by simp [badK, hb1]; omega
        rw [this, Bool.false_or] at hI
        refine ⟨_, wrap64 (by omega) (by omega), _, wrap64 (by omega) (by omega), ?_⟩
        exact ⟨_, _, Wk.keep [0, 3, 6, 52, 53, 54] [48], by omega, i + 1, s + x, by omega, rfl, by omega, by omega, by omega, hI, rfl⟩
  simp at h4
  have : i = k.length := by omega
  subst this
  rw [List.drop_length] at hI hS
  rw [← hI, List.any_nil, Bool.false_or] at hX
  have hsr : s = lsum r + lsum k := by rw [lsum] at hS; omega
  subst hsr
  have hkb : ∀ x ∈ k, -1073741824 ≤ x ∧ x ≤ 0 := by
    intro x hx
    rw [List.any_nil] at hI
    have := (List.any_eq_false.1 hI.symm) x hx
    simp [badK] at this; omega
  clear hI hS h4 hi hs0 hs1
  refine ⟨fun q c => ∃ i : Nat, i ≤ T.length ∧ q = T.length - i ∧ vT r k (T.drop i) i = vT r k T 0 ∧ c = ⟨[(3, .ovar 48 0), (6, I (lsum r + lsum k)), (68, AA T), (69, I T.length), (70, I i)], [(48, ⟨32, 2, .any, [[A r, A k]]⟩)]⟩, ⟨_, _, Wk.keep [3, 6, 68, 69, 70] [48], 0, by omega, rfl, rfl, rfl⟩, ?_⟩
  rintro q c ⟨i, hi, rfl, hI, rfl⟩
  refine ⟨fun h4 => ?_, fun h4 => ?_⟩
  · simp at h4
    obtain ⟨t, ht, hd, _⟩ := drop_cons h4
    have htm := List.mem_of_getElem? ht
    have htl := R.len t htm
    rw [hd, vT] at hI
    obtain ⟨ri, hri, _, _⟩ := drop_cons (l := r) (i := i) (by omega)
    have hriD : r.getD i 0 = ri := by rw [List.getD_eq_getElem?_getD, hri]; rfl
    rw [hriD] at hI
    refine ⟨⟨by omega, by omega⟩, encT t, get_map ht, ?_⟩
    refine ⟨fun q c => ∃ j : Nat, j ≤ t.length ∧ q = t.length - j ∧ vR ri k (t.drop j) j = vR ri k t 0 ∧ c = ⟨[(3, .ovar 48 0), (6, I (lsum r + lsum k)), (11, I i), (68, AA T), (69, I T.length), (70, I i), (75, A t), (76, I t.length), (77, I j)], [(48, ⟨32, 2, .any, [[A r, A k]]⟩)]⟩, ⟨_, _, Wk.keep [3, 6, 11, 68, 69, 70, 75, 76, 77] [48], 0, by omega, rfl, rfl, rfl⟩, ?_⟩
    rintro q c ⟨j, hj, rfl, hJ, rfl⟩
    refine ⟨fun h5 => ?_, fun h5 => ?_⟩
    · simp at h5
      obtain ⟨x, hx, hd2, _⟩ := drop_cons h5
      have hxr := R.rng t htm x (List.mem_of_getElem? hx)
      obtain ⟨kj, hkj, _, _⟩ := drop_cons (l := k) (i := j) (by omega)
      have hkjD : k.getD j 0 = kj := by rw [List.getD_eq_getElem?_getD, hkj]; rfl
      rw [hd2, vR, hkjD] at hJ
      refine ⟨⟨by omega, by omega⟩, enc x, get_map hx, ?_⟩
      by_cases hx0 : x ≥ 0
      · have hrb' := hrb ri (List.mem_of_getElem? hri)
        have hkb' := hkb kj (List.mem_of_getElem? hkj)
        have e0 : decide (x ≥ 0) = true := by simpa using hx0
        rw [e0, Bool.true_and] at hJ
        refine ⟨[(2, true)], e0, ⟨by omega, by omega⟩, enc ri, get_map hri, ⟨by omega, by omega⟩, enc kj, get_map hkj, _, wrap64 (by omega) (by omega), fun h6 => ?_, fun h6 => ?_⟩
        · have h6 : decide (ri + kj > x) = true := by simpa using h6
          rw [h6, Bool.true_or] at hJ
          rw [← hJ, Bool.true_or] at hI
          have hX' : bndX T r k = true := by rw [hX, ← hI]
          rw [if_pos hX', if_pos hX']
          exact ⟨_, _, rfl, ⟨rfl, rfl⟩, rfl, rfl, trivial⟩
        · have h6 : decide (ri + kj > x) = false := by simpa using h6
          rw [h6, Bool.false_or] at hJ
          refine ⟨_, wrap64 (by omega) (by omega), ?_⟩
          exact ⟨_, _, Wk.keep [3, 6, 11, 68, 69, 70, 75, 76, 77] [48], by omega, j + 1, by omega, rfl, hJ, rfl⟩
      · have : decide (x ≥ 0) = false := by simpa using hx0
        rw [this, Bool.false_and, Bool.false_or] at hJ
        refine ⟨[(2, false)], this, fun h6 => (by cases h6), fun _ => ?_⟩
        refine ⟨_, wrap64 (by omega) (by omega), ?_⟩
        exact ⟨_, _, Wk.keep [3, 6, 11, 68, 69, 70, 75, 76, 77] [48], by omega, j + 1, by omega, rfl, hJ, rfl⟩
    · simp at h5
      have : j = t.length := by omega
      subst this
      rw [List.drop_length, vR] at hJ
      rw [← hJ, Bool.false_or] at hI
      refine ⟨_, wrap64 (by omega) (by omega), ?_⟩
      exact ⟨_, _, Wk.keep [3, 6, 68, 69, 70] [48], by omega, i + 1, by omega, rfl, hI, rfl⟩
  · simp at h4
    have : i = T.length := by omega
    subst this
    rw [List.drop_length, vT] at hI
    have hX' : ¬ bndX T r k = true := by rw [hX, ← hI]; simp
    rw [if_neg hX', if_neg hX']
    exact ⟨_, _, rfl, ⟨rfl, rfl⟩, rfl, rfl, trivial⟩
end Go.Abs.L38
