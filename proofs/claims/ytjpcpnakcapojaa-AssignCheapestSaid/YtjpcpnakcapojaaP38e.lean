import Derived.Test.YtjpcpnakcapojaaP1
import Derived.Test.YtjpcpnakcapojaaC38z
namespace Go.Abs.L38
open Go Go.Abs Go.Proofs Go.Abs.Hung
set_option linter.unusedVariables false
set_option maxRecDepth 20000
theorem cmp_le : ∀ {l m : List Int}, l.length = m.length → (∀ j, j < l.length → (∀ i, i < j → l.getD i 0 = m.getD i 0) → l.getD j 0 ≤ m.getD j 0) → cmpL l m ≤ 0
  | [], [], _, _ => by simp [cmpL]
  | [], _ :: _, h, _ => by simp at h
  | _ :: _, [], h, _ => by simp at h
  | a :: l, b :: m, hl, h => by
    have h0 := h 0 (by simp) (fun i hi => by omega)
    simp only [List.getD_cons_zero] at h0
    rw [cmpL]
    by_cases e : a = b
    · subst e
      rw [if_neg (by simp [cmpI])]
      refine cmp_le (by simpa using hl) fun j hj hi => ?_
      have := h (j + 1) (by simpa using hj) fun i hij => by
        cases i with
        | zero => simp
        | succ i => simpa using hi i (by omega)
      simpa using this
    · have : cmpI a b = -1 := by rw [cmpI, if_pos (by omega)]
      rw [this, if_pos (by decide)]; decide
/-- what fits lies below -/
theorem below {T : List (List Int)} {t0 r k : List Int} (R : TabR T t0) (h : bndC T r k = 0) {g : Nat → Nat} (hg : Feas T (freeL T) T.length t0.length g) : bndE T r k ≤ costT T T.length g := by
  rw [bndC] at h
  split at h
  · cases h
  rename_i h0
  split at h
  · cases h
  rename_i h1
  rw [bndE, if_neg h0, if_neg h1]
  have h1 : bndX T r k = false := by simpa using h1
  unfold bndX at h1
  rw [headD_of R] at h1
  simp only [Bool.or_eq_false_iff, decide_eq_false_iff_not, Classical.not_not] at h1
  obtain ⟨⟨⟨⟨lr, lk⟩, _⟩, hk⟩, hv⟩ := h1
  rw [vT_false] at hv
  have hlen : ∀ i, i < T.length → (T.getD i []).length = t0.length := fun i hi => R.len _ (by rw [List.getD_eq_getElem?_getD, List.getElem?_eq_getElem hi]; simp)
  have := weak_dual (a := fun i j => (T.getD i []).getD j 0) (u := fun i => r.getD i 0) (v := fun j => k.getD j 0) hg.asg (fun i hi => by
    have := hv i hi (g i) (by rw [hlen i hi]; exact hg.asg.lt i hi) (hg.pos i hi)
    rwa [Nat.zero_add] at this) (fun j hj => by
    have := List.any_eq_false.1 hk _ (getD_mem (l := k) (i := j) (by omega))
    simp only [badK, Bool.or_eq_true, decide_eq_true_eq] at this
    omega)
  rw [lsum_sm, lsum_sm, lr, lk]
  exact this
/-- the law -/
theorem least_law {T : List (List Int)} {p r k : List Int} (h : (cstE T p).2 = 0) : prvE T = 0 ∧ chpC T ≤ (cstE T p).1 ∧ (bndC T r k ≠ 0 ∨ bndE T r k ≤ chpC T) ∧ (chpC T < (cstE T p).1 ∨ cmpL (chpL T) p ≤ 0) ∧ (chpL T).length ≤ 16 := by
  have hc : chkE T = 0 := by
    rw [cstE] at h
    split at h
    · cases h
    · rename_i h0; simpa using h0
  obtain ⟨t0, R⟩ := chk_ok hc
  obtain ⟨g', hg', rfl, e1⟩ := of_cst R h
  have hp : prvE T = 0 := Classical.byContradiction fun hne => none_of hc R hne g' hg'
  obtain ⟨g, C⟩ := chp_spec hp R
  have hle := C.least g' hg'
  rw [e1]
  refine ⟨hp, hle, ?_, ?_, by rw [C.list]; simp; have := R.n; omega⟩
  · by_cases hb : bndC T r k = 0
    · right
      have := below R hb C.feas
      rw [C.cost] at this; exact this
    · exact .inl hb
  · by_cases he : chpC T < costT T T.length g'
    · exact .inl he
    · right
      rw [C.list]
      refine cmp_le (by simp) fun j hj hi => ?_
      simp only [List.length_map, List.length_range] at hj
      rw [plan_getD hj, plan_getD hj]
      have := C.first g' hg' (by omega) j hj fun l hl => by
        have := hi l hl
        rw [plan_getD (by omega), plan_getD (by omega)] at this
        omega
      omega
theorem cst_no {T : List (List Int)} {p : List Int} (h : (cstE T p).2 ≠ 0) : (cstE T p).1 = 0 := by
  unfold cstE at h ⊢
  split
  · rfl
  split
  · rfl
  split
  · rfl
  split
  · rfl
  split
  · rfl
  · rename_i h1 h2 h3 h4 h5
    rw [if_neg h1, if_neg h2, if_neg h3, if_neg h4, if_neg h5] at h
    exact absurd rfl h
end Go.Abs.L38
