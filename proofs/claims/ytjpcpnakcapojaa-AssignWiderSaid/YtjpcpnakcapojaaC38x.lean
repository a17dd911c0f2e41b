import Derived.Test.YtjpcpnakcapojaaC4
namespace Go.Abs.L38
open Go Go.Abs Go.Proofs
set_option linter.unusedVariables false
set_option maxRecDepth 20000
/-! ### Cost -/
def anyR (f : Nat → Bool) (i n : Nat) : Bool := (List.range' i (n - i)).any f
theorem anyR_step {f : Nat → Bool} {i n : Nat} (h : i < n) : anyR f i n = (f i || anyR f (i + 1) n) := by
  unfold anyR
  rw [show n - i = (n - (i + 1)) + 1 by omega, List.range'_succ, List.any_cons]
theorem anyR_end {f : Nat → Bool} {n : Nat} : anyR f n n = false := by unfold anyR; rw [Nat.sub_self]; rfl
def sumR (f : Nat → Int) (i n : Nat) : Int := ((List.range' i (n - i)).map f).sum
theorem sumR_step {f : Nat → Int} {i n : Nat} (h : i < n) : sumR f i n = f i + sumR f (i + 1) n := by
  unfold sumR
  rw [show n - i = (n - (i + 1)) + 1 by omega, List.range'_succ, List.map_cons, List.sum_cons]
theorem sumR_end {f : Nat → Int} {n : Nat} : sumR f n n = 0 := by unfold sumR; rw [Nat.sub_self]; rfl
def badP (m : Nat) (x : Int) : Bool := decide (x < 0) || decide (x ≥ (m : Int))
def dupP (p : List Int) (i : Nat) : Bool := (p.take i).any (p.getD i 0 == ·)
def cVal (T : List (List Int)) (p : List Int) (i : Nat) : Int := (T.getD i []).getD (p.getD i 0).toNat 0
def voidP (T : List (List Int)) (p : List Int) (i : Nat) : Bool := decide (cVal T p i < 0)
def cstE (T : List (List Int)) (p : List Int) : Int × Int :=
  if chkE T ≠ 0 then (0, 1) else if p.length ≠ T.length then (0, 10) else if p.any (badP (T.headD []).length) = true then (0, 2)
  else if anyR (dupP p) 0 p.length = true then (0, 6) else if anyR (voidP T p) 0 p.length = true then (0, 22) else (sumR (cVal T p) 0 p.length, 0)
theorem c45 (T : List (List Int)) (t0 : List Int) (h0 : T[0]? = some t0) (x : Int) : Fn Try.prog 45 [I x, .rptr [AA T] 0] (.bool (badP t0.length x)) := by
  have hn := (List.getElem?_eq_some_iff.1 h0).1
  unfold badP
  by_cases hx : x < 0
  · have d : decide (x < 0) = true := by simpa using hx
    exact mk45 rfl ⟨[(2, true)], d, rfl, rfl, by rw [d]; rfl⟩
  · have d : decide (x < 0) = false := by simpa using hx
    refine mk45 rfl ⟨[(2, false)], d, ⟨by omega, by omega⟩, encT t0, get_map (i := 0) h0, rfl, rfl, ?_⟩
    rw [d]; rfl
theorem any_or {p q : Int → Bool} {l : List Int} (h : ∀ a ∈ l, p a = q a) : l.any p = l.any q := by
  induction l with
  | nil => rfl
  | cons a l ih => rw [List.any_cons, List.any_cons, h a (by simp), ih fun b hb => h b (by simp [hb])]
theorem c44 (T : List (List Int)) (t0 : List Int) (h0 : T[0]? = some t0) (p : List Int) (hp : p.length ≤ 9223372036854775807) : Fn Try.prog 44 [A p, .func 45 [.rptr [AA T] 0]] (.bool (p.any (badP t0.length))) := by
  rw [← idxF_any _ p 0]
  exact mk44 rfl ⟨_, c53a p hp (badP t0.length) 45 [AA T] (fun a _ => c45 T t0 h0 a), rfl, rfl, rfl⟩
theorem c46t (p : List Int) (hp : p.length ≤ 9223372036854775807) {i : Nat} (hi : i < p.length) : Fn Try.prog 46 [.rsl 1 ((i : Nat) : Int).toNat ((p.map enc).take ((i : Nat) : Int).toNat), I (p.getD i 0)] (.bool (dupP p i)) := by
  have := c46 (p.take i) (by simp; omega) (p.getD i 0)
  rw [A, List.length_take, Nat.min_eq_left (by omega), List.map_take] at this
  rw [Int.toNat_natCast]
  exact this
theorem c25 (T : List (List Int)) (hT : T.length ≤ 9223372036854775807) (hTb : ∀ b ∈ T, b.length ≤ 9223372036854775807) (p : List Int) (hp : p.length ≤ 9223372036854775807) : Fn Try.prog 25 [AA T, A p] (.tup [I (cstE T p).1, I (cstE T p).2]) := by
  refine mk25 rfl ⟨_, c24 T hT hTb, fun h => ?_, fun h => ?_⟩
  · have h : chkE T ≠ 0 := by simpa using h
    rw [cstE, if_pos h]; exact ⟨_, _, rfl, ⟨rfl, rfl⟩, rfl, rfl, trivial⟩
  have h : chkE T = 0 := by simpa using h
  obtain ⟨t0, R⟩ := chk_ok h
  have hn := R.n
  have hm := R.m
  have hH : T.headD [] = t0 := by
    have := R.head
    cases T with
    | nil => cases this
    | cons a T => simpa using this
  have hne : ¬ chkE T ≠ 0 := by omega
  rw [cstE, if_neg hne, hH]
  refine ⟨fun h1 => ?_, fun h1 => ?_⟩
  · have h1 : p.length ≠ T.length := by simp at h1; omega
    rw [if_pos h1]; exact ⟨_, _, rfl, ⟨rfl, rfl⟩, rfl, rfl, trivial⟩
  have h1 : p.length = T.length := by simp at h1; omega
  rw [if_neg (by omega)]
  refine ⟨_, c44 T t0 R.head p hp, fun h2 => ?_, fun h2 => ?_⟩
  · rw [if_pos h2]; exact ⟨_, _, rfl, ⟨rfl, rfl⟩, rfl, rfl, trivial⟩
  rw [if_neg (by rw [h2]; simp)]
  have hrange : ∀ i, i < p.length → 0 ≤ p.getD i 0 ∧ p.getD i 0 < (t0.length : Int) := by
    intro i hi
    have hm : p.getD i 0 ∈ p := by rw [List.getD_eq_getElem?_getD, List.getElem?_eq_getElem hi]; simp
    have := List.any_eq_false.1 h2 _ hm
    simp only [badP, Bool.or_eq_true, decide_eq_true_eq, not_or] at this
    omega
  have hTi : ∀ i, i < p.length → T.getD i [] ∈ T := by
    intro i hi
    rw [List.getD_eq_getElem?_getD, List.getElem?_eq_getElem (by omega)]; simp
  have hlen : ∀ i, i < p.length → (T.getD i []).length = t0.length := fun i hi => R.len _ (hTi i hi)
  have hval : ∀ i, i < p.length → -1 ≤ cVal T p i ∧ cVal T p i ≤ 1000 := by
    intro i hi
    refine R.rng _ (hTi i hi) _ ?_
    have := hrange i hi
    rw [cVal, List.getD_eq_getElem?_getD (l := T.getD i []), List.getElem?_eq_getElem (by rw [hlen i hi]; omega)]
    simp
  refine ⟨fun q c => ∃ (i : Nat) (s : Int) (v : Bool), i ≤ p.length ∧ q = p.length - i ∧ -1000 * (i : Int) ≤ s ∧ s ≤ 1000 * i ∧ s + sumR (cVal T p) i p.length = sumR (cVal T p) 0 p.length ∧ anyR (dupP p) i p.length = anyR (dupP p) 0 p.length ∧ (v || anyR (voidP T p) i p.length) = anyR (voidP T p) 0 p.length ∧ c = ⟨[(1, A p), (2, .ovar 32 0), (6, I s), (7, .bool v), (24, A p), (25, I p.length), (26, I i)], [(32, ⟨22, 1, .any, [[AA T]]⟩)]⟩, ⟨_, _, Wk.keep [1, 2, 6, 7, 24, 25, 26] [32], 0, 0, false, by omega, rfl, by omega, by omega, by omega, rfl, rfl, rfl⟩, ?_⟩
  rintro q c ⟨i, s, v, hi, rfl, hs0, hs1, hS, hD, hV, rfl⟩
  refine ⟨fun h4 => ?_, fun h4 => ?_⟩
  · have hlt : i < p.length := by have := of_decide_eq_true h4; omega
    have hr := hrange i hlt
    have hv := hval i hlt
    rw [anyR_step hlt] at hD hV
    rw [sumR_step hlt] at hS
    refine ⟨⟨by omega, by omega⟩, _, row_at hlt, ⟨by omega, by omega⟩, _, c46t p hp hlt, fun h5 => ?_, fun h5 => ?_⟩
    · have hd : anyR (dupP p) 0 p.length = true := by rw [← hD, show dupP p i = true from h5]; rfl
      rw [if_pos hd]; exact ⟨_, _, rfl, ⟨rfl, rfl⟩, rfl, rfl, trivial⟩
    rw [show dupP p i = false from h5, Bool.false_or] at hD
    have r1 := rowT_at (T := T) (i := i) (by omega)
    have r2 : ((T.getD i []).map enc)[(p.getD i 0).toNat]? = some [I (cVal T p i)] := by
      rw [List.getElem?_map, List.getElem?_eq_getElem (by rw [hlen i hlt]; omega)]
      rw [cVal, List.getD_eq_getElem?_getD (l := T.getD i []), List.getElem?_eq_getElem (by rw [hlen i hlt]; omega)]; rfl
    have hlen' := hlen i hlt
    cases v with
    | true =>
      refine ⟨[(1, true)], rfl, ⟨by omega, by omega⟩, _, r1, ⟨hr.1, by omega⟩, _, r2, s + cVal T p i, wrap64 (by omega) (by omega), ((i + 1 : Nat) : Int), wrapTo (by omega) (by omega) (by omega), _, _, Wk.keep [1, 2, 6, 7, 24, 25, 26] [32], by omega, i + 1, s + cVal T p i, true, hlt, rfl, by omega, by omega, by omega, hD, ?_, rfl⟩
      rw [← hV]; rfl
    | false =>
      refine ⟨[(1, false)], rfl, ⟨by omega, by omega⟩, _, r1, ⟨hr.1, by omega⟩, _, r2, ⟨by omega, by omega⟩, _, r1, ⟨hr.1, by omega⟩, _, r2, s + cVal T p i, wrap64 (by omega) (by omega), ((i + 1 : Nat) : Int), wrapTo (by omega) (by omega) (by omega), _, _, Wk.keep [1, 2, 6, 7, 24, 25, 26] [32], by omega, i + 1, s + cVal T p i, voidP T p i, hlt, rfl, by omega, by omega, by omega, hD, ?_, ?_⟩
      · rw [← hV, Bool.false_or]
      · skip
        rfl
  · have hin : i = p.length := by have := of_decide_eq_false h4; omega
    subst hin
    rw [anyR_end] at hD hV
    rw [sumR_end] at hS
    rw [if_neg (by rw [← hD]; simp)]
    rw [Bool.or_false] at hV
    refine ⟨fun h5 => ?_, fun h5 => ?_⟩
    · rw [if_pos (by rw [← hV]; exact h5)]; exact ⟨_, _, rfl, ⟨rfl, rfl⟩, rfl, rfl, trivial⟩
    · rw [if_neg (by rw [← hV, show v = false from h5]; simp), ← hS, Int.add_zero]; exact ⟨_, _, rfl, ⟨rfl, rfl⟩, rfl, rfl, trivial⟩
end Go.Abs.L38
