import Derived.Test.YtjpcpnakcapojaaC38aa
namespace Go.Abs.L38
open Go Go.Abs Go.Proofs
set_option linter.unusedVariables false
set_option maxRecDepth 20000
/-! ### columns (the reference) -/
def seesC (T : List (List Int)) (j : Nat) (x : Int) : Bool := decide ((T.getD x.toNat []).getD j 0 ≥ 0)
def colsR (T : List (List Int)) (s : List Int) (i n : Nat) : Nat := ((List.range' i (n - i)).filter fun j => s.any (seesC T j)).length
theorem colsR_step {T : List (List Int)} {s : List Int} {i n : Nat} (h : i < n) : colsR T s i n = (if s.any (seesC T i) = true then 1 else 0) + colsR T s (i + 1) n := by
  unfold colsR
  rw [show n - i = (n - (i + 1)) + 1 by omega, List.range'_succ, List.filter_cons]
  split
  · rw [List.length_cons]; omega
  · omega
theorem colsR_end {T : List (List Int)} {s : List Int} {n : Nat} : colsR T s n n = 0 := by unfold colsR; rw [Nat.sub_self]; rfl
theorem colsR_le {T : List (List Int)} {s : List Int} {i n : Nat} : colsR T s i n ≤ n - i := by
  unfold colsR
  refine Nat.le_trans (List.length_filter_le _ _) ?_
  simp
theorem c41 {T : List (List Int)} {t0 : List Int} (R : TabR T t0) (s : List Int) (hs : s.length ≤ 9223372036854775807) (hr : ∀ x ∈ s, 0 ≤ x ∧ x < (T.length : Int)) : Fn Try.prog 41 [AA T, A s] (I (colsR T s 0 t0.length)) := by
  have hn := R.n
  have hm := R.m
  refine mk41 rfl ⟨⟨by omega, by omega⟩, encT t0, get_map (i := 0) R.head, ?_⟩
  refine ⟨fun q c => ∃ i k : Nat, i ≤ t0.length ∧ q = t0.length - i ∧ k ≤ i ∧ k + colsR T s i t0.length = colsR T s 0 t0.length ∧ c = ⟨[(0, AA T), (1, A s), (4, I 0), (5, I k), (12, I t0.length), (13, I i)], []⟩, ⟨_, _, Wk.keep [0, 1, 4, 5, 12, 13] [], 0, 0, by omega, rfl, by omega, by omega, rfl⟩, ?_⟩
  rintro q c ⟨i, k, hi, rfl, hk, hC, rfl⟩
  refine ⟨fun h => ?_, fun h => ?_⟩
  · have hlt : i < t0.length := by have := of_decide_eq_true h; omega
    rw [colsR_step hlt] at hC
    refine ⟨fun q c => ∃ l : Nat, l ≤ s.length ∧ q = s.length - l ∧ (s.drop l).any (seesC T i) = s.any (seesC T i) ∧ c = ⟨[(0, AA T), (1, A s), (4, I 0), (5, I k), (6, I i), (12, I t0.length), (13, I i), (16, A s), (17, I s.length), (18, I l)], []⟩, ⟨_, _, Wk.keep [0, 1, 4, 5, 6, 12, 13, 16, 17, 18] [], 0, by omega, rfl, rfl, rfl⟩, ?_⟩
    rintro q c ⟨l, hl, rfl, hA, rfl⟩
    refine ⟨fun h2 => ?_, fun h2 => ?_⟩
    · have h2 : l < s.length := by have := of_decide_eq_true h2; omega
      obtain ⟨x, hx, hd, _⟩ := drop_cons h2
      rw [hd, List.any_cons] at hA
      have hxr := hr x (List.mem_of_getElem? hx)
      have hTi : T.getD x.toNat [] ∈ T := by rw [List.getD_eq_getElem?_getD, List.getElem?_eq_getElem (by omega)]; simp
      have hlen := R.len _ hTi
      have r1 : (T.map encT)[x.toNat]? = some (encT (T.getD x.toNat [])) := by
        have := rowT_at (T := T) (i := x.toNat) (by omega)
        rwa [Int.toNat_natCast] at this
      have r2 := row_at (l := T.getD x.toNat []) (i := i) (by omega)
      refine ⟨⟨by omega, by omega⟩, enc x, get_map hx, ⟨by omega, by omega⟩, _, r1, ⟨by omega, by omega⟩, _, r2, fun h3 => ?_, fun h3 => ?_⟩
      · have hany : s.any (seesC T i) = true := by rw [← hA, show seesC T i x = true from h3]; rfl
        rw [if_pos hany] at hC
        refine ⟨((k + 1 : Nat) : Int), wrapTo (by omega) (by omega) (by omega), ?_⟩
        exact ⟨((i + 1 : Nat) : Int), wrapTo (by omega) (by omega) (by omega), _, _, Wk.keep [0, 1, 4, 5, 12, 13] [], by omega, i + 1, k + 1, hlt, rfl, by omega, by omega, rfl⟩
      · rw [show seesC T i x = false from h3, Bool.false_or] at hA
        exact ⟨((l + 1 : Nat) : Int), wrapTo (by omega) (by omega) (by omega), _, _, Wk.keep [0, 1, 4, 5, 6, 12, 13, 16, 17, 18] [], by omega, l + 1, h2, rfl, hA, rfl⟩
    · have h2 : l = s.length := by have := of_decide_eq_false h2; omega
      subst h2
      rw [List.drop_length, List.any_nil] at hA
      rw [if_neg (by rw [← hA]; simp), Nat.zero_add] at hC
      exact ⟨((i + 1 : Nat) : Int), wrapTo (by omega) (by omega) (by omega), _, _, Wk.keep [0, 1, 4, 5, 12, 13] [], by omega, i + 1, k, hlt, rfl, by omega, hC, rfl⟩
  · have h : i = t0.length := by have := of_decide_eq_false h; omega
    subst h
    rw [colsR_end, Nat.add_zero] at hC
    rw [← hC]; exact ⟨rfl, rfl, rfl⟩
end Go.Abs.L38
