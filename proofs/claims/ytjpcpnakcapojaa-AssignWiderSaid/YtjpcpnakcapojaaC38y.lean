import Derived.Test.YtjpcpnakcapojaaC38x
namespace Go.Abs.L38
open Go Go.Abs Go.Proofs
set_option linter.unusedVariables false
set_option maxRecDepth 20000
theorem take_range {p : List Int} {i : Nat} (h : i ≤ p.length) : p.take i = (List.range' 0 i).map (p.getD · 0) := by
  refine List.ext_getElem (by simp; omega) fun j h1 h2 => ?_
  simp only [List.length_take] at h1
  simp [List.getD_eq_getElem?_getD, List.getElem?_eq_getElem (show j < p.length by omega)]
theorem dup_any {p : List Int} {i : Nat} (h : i ≤ p.length) : dupP p i = anyR (fun k => p.getD i 0 == p.getD k 0) 0 i := by
  rw [dupP, take_range h, List.any_map]; rfl
theorem c26 (T : List (List Int)) (hT : T.length ≤ 9223372036854775807) (hTb : ∀ b ∈ T, b.length ≤ 9223372036854775807) (p : List Int) (hp : p.length ≤ 9223372036854775807) : Fn Try.prog 26 [AA T, A p] (.tup [I (cstE T p).1, I (cstE T p).2]) := by
  refine mk26 rfl ⟨_, c27 T hT hTb, fun h => ?_, fun h => ?_⟩
  · have h : chkE T ≠ 0 := by simpa using h
    rw [cstE, if_pos h]; exact ⟨_, _, rfl, ⟨rfl, rfl⟩, rfl, rfl, trivial⟩
  have h : chkE T = 0 := by simpa using h
  obtain ⟨t0, R⟩ := chk_ok h
  have hn := R.n
  have hm := R.m
  have hH : T.headD [] = t0 := by
    have := R.head
    cases T with
    | nil => cases this
    | cons a T => simpa using this
  have hne : ¬ chkE T ≠ 0 := by omega
  rw [cstE, if_neg hne, hH]
  refine ⟨fun h1 => ?_, fun h1 => ?_⟩
  · have h1 : p.length ≠ T.length := by simp at h1; omega
    rw [if_pos h1]; exact ⟨_, _, rfl, ⟨rfl, rfl⟩, rfl, rfl, trivial⟩
  have h1 : p.length = T.length := by simp at h1; omega
  rw [if_neg (by omega)]
  refine ⟨fun q c => ∃ i : Nat, i ≤ p.length ∧ q = p.length - i ∧ (p.drop i).any (badP t0.length) = p.any (badP t0.length) ∧ c = ⟨[(0, AA T), (1, A p), (4, I 0), (5, I 0), (21, A p), (22, I p.length), (23, I i)], []⟩, ⟨_, _, Wk.keep [0, 1, 4, 5, 21, 22, 23] [], 0, by omega, rfl, rfl, rfl⟩, ?_⟩
  rintro q c ⟨i, hi, rfl, hB, rfl⟩
  refine ⟨fun h4 => ?_, fun h4 => ?_⟩
  · have hlt : i < p.length := by have := of_decide_eq_true h4; omega
    obtain ⟨x, hx, hd, _⟩ := drop_cons hlt
    rw [hd, List.any_cons] at hB
    have hbad : ∀ {b : Bool}, badP t0.length x = true → p.any (badP t0.length) = true := fun e => by rw [← hB, e]; rfl
    refine ⟨⟨by omega, by omega⟩, enc x, get_map hx, ?_⟩
    by_cases hx0 : x < 0
    · have d : decide (x < 0) = true := by simpa using hx0
      have hb : badP t0.length x = true := by unfold badP; rw [d]; rfl
      rw [if_pos (hbad (b := true) hb)]
      exact ⟨[(2, true)], d, fun _ => ⟨_, _, rfl, ⟨rfl, rfl⟩, rfl, rfl, trivial⟩, fun h => (by cases h)⟩
    have d : decide (x < 0) = false := by simpa using hx0
    refine ⟨[(2, false)], d, ⟨by omega, by omega⟩, encT t0, get_map (i := 0) R.head, fun h5 => ?_, fun h5 => ?_⟩
    · have hb : badP t0.length x = true := by unfold badP; rw [d]; exact h5
      rw [if_pos (hbad (b := true) hb)]
      exact ⟨_, _, rfl, ⟨rfl, rfl⟩, rfl, rfl, trivial⟩
    have hb : badP t0.length x = false := by unfold badP; rw [d]; exact h5
    rw [hb, Bool.false_or] at hB
    exact ⟨((i + 1 : Nat) : Int), wrapTo (by omega) (by omega) (by omega), _, _, Wk.keep [0, 1, 4, 5, 21, 22, 23] [], by omega, i + 1, hlt, rfl, hB, rfl⟩
  have hin : i = p.length := by have := of_decide_eq_false h4; omega
  subst hin
  rw [List.drop_length, List.any_nil] at hB
  have h2 : p.any (badP t0.length) = false := hB.symm
  clear hB h4 hi
  rw [if_neg (by rw [h2]; simp)]
  have hrange : ∀ i, i < p.length → 0 ≤ p.getD i 0 ∧ p.getD i 0 < (t0.length : Int) := by
    intro i hi
    have hm : p.getD i 0 ∈ p := by rw [List.getD_eq_getElem?_getD, List.getElem?_eq_getElem hi]; simp
    have := List.any_eq_false.1 h2 _ hm
    simp only [badP, Bool.or_eq_true, decide_eq_true_eq, not_or] at this
    omega
  have hTi : ∀ i, i < p.length → T.getD i [] ∈ T := by
    intro i hi
    rw [List.getD_eq_getElem?_getD, List.getElem?_eq_getElem (by omega)]; simp
  have hlen : ∀ i, i < p.length → (T.getD i []).length = t0.length := fun i hi => R.len _ (hTi i hi)
  have hval : ∀ i, i < p.length → -1 ≤ cVal T p i ∧ cVal T p i ≤ 1000 := by
    intro i hi
    refine R.rng _ (hTi i hi) _ ?_
    have := hrange i hi
    rw [cVal, List.getD_eq_getElem?_getD (l := T.getD i []), List.getElem?_eq_getElem (by rw [hlen i hi]; omega)]
    simp
  refine ⟨fun q c => ∃ i : Nat, i ≤ p.length ∧ q = p.length - i ∧ anyR (dupP p) i p.length = anyR (dupP p) 0 p.length ∧ c = ⟨[(0, AA T), (1, A p), (4, I 0), (5, I 0), (39, I p.length), (40, I i)], []⟩, ⟨_, _, Wk.keep [0, 1, 4, 5, 39, 40] [], 0, by omega, rfl, rfl, rfl⟩, ?_⟩
  rintro q c ⟨i, hi, rfl, hD, rfl⟩
  refine ⟨fun h4 => ?_, fun h4 => ?_⟩
  · have hlt : i < p.length := by have := of_decide_eq_true h4; omega
    rw [anyR_step hlt, dup_any hi] at hD
    refine ⟨fun q c => ∃ k : Nat, k ≤ i ∧ q = i - k ∧ anyR (fun k => p.getD i 0 == p.getD k 0) k i = anyR (fun k => p.getD i 0 == p.getD k 0) 0 i ∧ c = ⟨[(0, AA T), (1, A p), (4, I 0), (5, I 0), (8, I i), (39, I p.length), (40, I i), (43, I i), (44, I k)], []⟩, ⟨_, _, Wk.keep [0, 1, 4, 5, 8, 39, 40, 43, 44] [], 0, by omega, rfl, rfl, rfl⟩, ?_⟩
    rintro q c ⟨k, hk, rfl, hK, rfl⟩
    refine ⟨fun h5 => ?_, fun h5 => ?_⟩
    · have hki : k < i := by have := of_decide_eq_true h5; omega
      rw [anyR_step hki] at hK
      refine ⟨⟨by omega, by omega⟩, _, row_at hlt, ⟨by omega, by omega⟩, _, row_at (show k < p.length by omega), fun h6 => ?_, fun h6 => ?_⟩
      · have hd : anyR (dupP p) 0 p.length = true := by
          rw [← hD, ← hK, show (p.getD i 0 == p.getD k 0) = true from h6]; rfl
        rw [if_pos hd]; exact ⟨_, _, rfl, ⟨rfl, rfl⟩, rfl, rfl, trivial⟩
      · rw [show (p.getD i 0 == p.getD k 0) = false from h6, Bool.false_or] at hK
        exact ⟨((k + 1 : Nat) : Int), wrapTo (by omega) (by omega) (by omega), _, _, Wk.keep [0, 1, 4, 5, 8, 39, 40, 43, 44] [], by omega, k + 1, hki, rfl, hK, rfl⟩
    · have hki : k = i := by have := of_decide_eq_false h5; omega
      subst hki
      rw [anyR_end] at hK
      rw [← hK, Bool.false_or] at hD
      exact ⟨((k + 1 : Nat) : Int), wrapTo (by omega) (by omega) (by omega), _, _, Wk.keep [0, 1, 4, 5, 39, 40] [], by omega, k + 1, hlt, rfl, hD, rfl⟩
  have hin : i = p.length := by have := of_decide_eq_false h4; omega
  subst hin
  rw [anyR_end] at hD
  rw [if_neg (by rw [← hD]; simp)]
  clear hD h4 hi
  refine ⟨fun q c => ∃ (i : Nat) (s : Int), i ≤ p.length ∧ q = p.length - i ∧ -1000 * (i : Int) ≤ s ∧ s ≤ 1000 * i ∧ s + sumR (cVal T p) i p.length = sumR (cVal T p) 0 p.length ∧ anyR (voidP T p) i p.length = anyR (voidP T p) 0 p.length ∧ c = ⟨[(0, AA T), (1, A p), (4, I 0), (5, I 0), (10, I s), (58, A p), (59, I p.length), (60, I i)], []⟩, ⟨_, _, Wk.keep [0, 1, 4, 5, 10, 58, 59, 60] [], 0, 0, by omega, rfl, by omega, by omega, by omega, rfl, rfl⟩, ?_⟩
  rintro q c ⟨i, s, hi, rfl, hs0, hs1, hS, hV, rfl⟩
  refine ⟨fun h4 => ?_, fun h4 => ?_⟩
  · have hlt : i < p.length := by have := of_decide_eq_true h4; omega
    have hr := hrange i hlt
    have hv := hval i hlt
    rw [anyR_step hlt] at hV
    rw [sumR_step hlt] at hS
    have hlen' := hlen i hlt
    have r1 := rowT_at (T := T) (i := i) (by omega)
    have r2 : ((T.getD i []).map enc)[(p.getD i 0).toNat]? = some [I (cVal T p i)] := by
      rw [List.getElem?_map, List.getElem?_eq_getElem (by rw [hlen i hlt]; omega)]
      rw [cVal, List.getD_eq_getElem?_getD (l := T.getD i []), List.getElem?_eq_getElem (by rw [hlen i hlt]; omega)]; rfl
    refine ⟨⟨by omega, by omega⟩, _, row_at hlt, ⟨by omega, by omega⟩, _, r1, ⟨hr.1, by omega⟩, _, r2, fun h6 => ?_, fun h6 => ?_⟩
    · rw [if_pos (by rw [← hV, show voidP T p i = true from h6]; rfl)]; exact ⟨_, _, rfl, ⟨rfl, rfl⟩, rfl, rfl, trivial⟩
    · rw [show voidP T p i = false from h6, Bool.false_or] at hV
      exact ⟨⟨by omega, by omega⟩, _, r1, ⟨hr.1, by omega⟩, _, r2, s + cVal T p i, wrap64 (by omega) (by omega), ((i + 1 : Nat) : Int), wrapTo (by omega) (by omega) (by omega), _, _, Wk.keep [0, 1, 4, 5, 10, 58, 59, 60] [], by omega, i + 1, s + cVal T p i, hlt, rfl, by omega, by omega, by omega, hV, rfl⟩
  · have hin : i = p.length := by have := of_decide_eq_false h4; omega
    subst hin
    rw [anyR_end] at hV
    rw [sumR_end] at hS
    rw [if_neg (by rw [← hV]; simp), ← hS, Int.add_zero]
    exact ⟨_, _, rfl, ⟨rfl, rfl⟩, rfl, rfl, trivial⟩
end Go.Abs.L38
