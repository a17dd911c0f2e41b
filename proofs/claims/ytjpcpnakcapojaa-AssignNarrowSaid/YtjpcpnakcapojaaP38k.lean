import Derived.Test.YtjpcpnakcapojaaP2
namespace Go.Abs.L38
open Go Go.Abs Go.Proofs Go.Abs.Hung
set_option linter.unusedVariables false
set_option maxRecDepth 20000
/-! ### sets in their order -/
def rzE (s : List Nat) (i : Nat) : Nat → List Nat
  | 0 => s.set i (s.getD i 0 + 1)
  | q + 1 => (rzE s i q).set (i + q + 1) ((rzE s i q).getD (i + q) 0 + 1)
def nextR (s : List Nat) (n : Nat) : Nat → Option (List Nat)
  | 0 => none
  | i + 1 => if s.getD i 0 + s.length < n + i then some (rzE s i (s.length - i - 1)) else nextR s n i
theorem nset {l : List Nat} {i j x : Nat} (h : i < l.length) : (l.set i x).getD j 0 = if j = i then x else l.getD j 0 := gset h
theorem rzE_len (s : List Nat) (i : Nat) : ∀ q, (rzE s i q).length = s.length
  | 0 => by rw [rzE, List.length_set]
  | q + 1 => by rw [rzE, List.length_set, rzE_len s i q]
theorem rzE_at {s : List Nat} {i : Nat} : ∀ q, i + q < s.length → (rzE s i q).getD (i + q) 0 = s.getD i 0 + 1 + q
  | 0, h => by rw [rzE, nset (by omega), if_pos (by omega), Nat.add_zero]
  | q + 1, h => by rw [rzE, nset (by rw [rzE_len]; omega), if_pos (by omega), rzE_at q (by omega)]; omega
theorem rzE_cons (a : Nat) (s : List Nat) (i : Nat) : ∀ q, rzE (a :: s) (i + 1) q = a :: rzE s i q
  | 0 => by rw [rzE, rzE, List.getD_cons_succ, List.set_cons_succ]
  | q + 1 => by rw [rzE, rzE_cons a s i q, rzE, show i + 1 + q = (i + q) + 1 by omega, List.getD_cons_succ, List.set_cons_succ]
theorem rzE_zero (a : Nat) (s : List Nat) : ∀ q, q ≤ s.length → rzE (a :: s) 0 q = List.range' (a + 1) (q + 1) ++ s.drop q
  | 0, _ => by rw [rzE]; simp
  | q + 1, h => by
    have h1 := rzE_at (s := a :: s) (i := 0) q (by simp; omega)
    rw [rzE, h1, rzE_zero a s q (by omega), List.set_append_right _ _ (by simp), List.length_range', show 0 + q + 1 - (q + 1) = 0 by omega, List.drop_eq_getElem_cons (show q < s.length by omega), List.set_cons_zero, List.range'_concat (n := q + 1), List.append_assoc]
    simp only [List.getD_cons_zero, List.cons_append, List.nil_append]
    congr 2; omega
theorem nextR_cons (a : Nat) (s : List Nat) (n : Nat) : ∀ i, i ≤ s.length → nextR (a :: s) n (i + 1) = match nextR s n i with
    | some s' => some (a :: s')
    | none => if a + (s.length + 1) < n then some (List.range' (a + 1) (s.length + 1)) else none
  | 0, _ => by
    rw [nextR, nextR, nextR, List.getD_cons_zero, List.length_cons, Nat.add_zero, show s.length + 1 - 0 - 1 = s.length by omega, rzE_zero a s _ (Nat.le_refl _), List.drop_length, List.append_nil]; rfl
  | i + 1, h => by
    rw [nextR, List.getD_cons_succ, List.length_cons, nextR_cons a s n i (by omega), show s.length + 1 - (i + 1) - 1 = s.length - i - 1 by omega, rzE_cons]
    rw [nextR]
    by_cases h1 : s.getD i 0 + s.length < n + i
    · rw [if_pos h1, if_pos (by omega)]
    · rw [if_neg h1, if_neg (by omega)]
/-- the place of a set -/
def val : List Nat → Nat
  | [] => 0
  | a :: s => a * 17 ^ s.length + val s
theorem val_lt {n : Nat} (hn : n ≤ 17) : ∀ {i : Nat} {s : List Nat}, Inc n i s → val s < 17 ^ s.length
  | _, [], _ => by simp [val]
  | i, a :: s, h => by
    have h1 := val_lt hn h.2.2
    have h2 : (a + 1) * 17 ^ s.length ≤ 17 * 17 ^ s.length := Nat.mul_le_mul_right _ (by have := h.2.1; omega)
    rw [val, List.length_cons, Nat.pow_succ, Nat.mul_comm (17 ^ s.length)]
    rw [Nat.add_mul] at h2
    omega
theorem val_head {n : Nat} (hn : n ≤ 17) {i j a b : Nat} {s t : List Nat} (hs : Inc n i s) (ht : Inc n j t) (hl : s.length = t.length) (h : a < b) : val (a :: s) < val (b :: t) := by
  have h1 := val_lt hn hs
  have h2 : (a + 1) * 17 ^ s.length ≤ b * 17 ^ s.length := Nat.mul_le_mul_right _ h
  rw [Nat.add_mul] at h2
  rw [val, val, ← hl]
  omega
theorem val_tail {a : Nat} {s t : List Nat} (hl : s.length = t.length) : val (a :: s) + val t = val (a :: t) + val s := by
  rw [val, val, hl]; omega
theorem val_inj {n : Nat} (hn : n ≤ 17) : ∀ {i j : Nat} {s t : List Nat}, Inc n i s → Inc n j t → s.length = t.length → val s = val t → s = t
  | _, _, [], [], _, _, _, _ => rfl
  | _, _, [], _ :: _, _, _, h, _ => by simp at h
  | _, _, _ :: _, [], _, _, h, _ => by simp at h
  | i, j, a :: s, b :: t, hs, ht, hl, hv => by
    have hl' : s.length = t.length := by simpa using hl
    have e : a = b := by
      rcases Nat.lt_trichotomy a b with h | h | h
      · have := val_head hn hs.2.2 ht.2.2 hl' h; omega
      · exact h
      · have := val_head hn ht.2.2 hs.2.2 hl'.symm h; omega
    subst e
    have := val_tail (a := a) hl'
    rw [val_inj hn hs.2.2 ht.2.2 hl' (by omega)]
theorem Inc_range {n : Nat} : ∀ (q i : Nat), i + q ≤ n → Inc n i (List.range' i q)
  | 0, _, _ => trivial
  | q + 1, i, h => ⟨Nat.le_refl _, by omega, Inc_range q (i + 1) (by omega)⟩
theorem Inc_len {n i : Nat} {s : List Nat} (h : Inc n i s) (hi : i ≤ n) : i + s.length ≤ n := by
  by_cases e : s = []
  · subst e; simpa using hi
  · exact Inc.len h e
theorem val_min {n : Nat} (hn : n ≤ 17) : ∀ {i : Nat} {t : List Nat}, Inc n i t → val (List.range' i t.length) ≤ val t
  | _, [], _ => by simp [val]
  | i, b :: t, h => by
    have hb := h.1
    have hbn := h.2.1
    have hlen := Inc_len h.2.2 (by omega)
    rw [List.length_cons, List.range'_succ]
    rcases Nat.lt_or_ge i b with h1 | h1
    · exact Nat.le_of_lt (val_head hn (Inc_range (n := n) t.length (i + 1) (by omega)) h.2.2 (by simp) h1)
    · have e : i = b := by omega
      subst e
      have := val_min hn h.2.2
      have := val_tail (a := i) (s := List.range' (i + 1) t.length) (t := t) (by simp)
      omega
theorem Inc.mono {n i j : Nat} {s : List Nat} (h : Inc n i s) (hj : j ≤ i) : Inc n j s := by
  cases s with
  | nil => trivial
  | cons a s => exact ⟨by have := h.1; omega, h.2⟩
theorem next_none {n : Nat} (hn : n ≤ 17) : ∀ {s : List Nat} {i : Nat}, Inc n i s → nextR s n s.length = none → ∀ t, Inc n i t → t.length = s.length → val t ≤ val s
  | [], i, hs, h, t, ht, hl => by
    have : t = [] := List.eq_nil_of_length_eq_zero (by simpa using hl)
    subst this; exact Nat.le_refl _
  | a :: s, i, hs, h, t, ht, hl => by
    rw [List.length_cons, nextR_cons a s n _ (Nat.le_refl _)] at h
    cases hr : nextR s n s.length with
    | some r => rw [hr] at h; cases h
    | none =>
      rw [hr] at h
      simp only at h
      split at h
      · cases h
      · rename_i hlt
        cases t with
        | nil => simp at hl
        | cons b t =>
          have hl' : t.length = s.length := by simpa using hl
          have hlen := Inc_len ht.2.2 (by have := ht.2.1; omega)
          have hbn := ht.2.1
          have hab : b ≤ a := by omega
          rcases Nat.lt_or_ge b a with e | e
          · exact Nat.le_of_lt (val_head hn ht.2.2 hs.2.2 hl' e)
          · have e : b = a := by omega
            subst e
            have := next_none hn hs.2.2 hr t ht.2.2 hl'
            have e1 := val_tail (a := b) (s := t) (t := s) hl'
            omega
/-- next is the next one -/
theorem next_some {n : Nat} (hn : n ≤ 17) : ∀ {s : List Nat} {i : Nat}, Inc n i s → ∀ s', nextR s n s.length = some s' → s'.length = s.length ∧ Inc n i s' ∧ val s < val s' ∧ ∀ t, Inc n i t → t.length = s.length → val s < val t → val s' ≤ val t
  | [], i, hs, s', h => by cases h
  | a :: s, i, hs, s', h => by
    rw [List.length_cons, nextR_cons a s n _ (Nat.le_refl _)] at h
    have ih := next_some hn hs.2.2
    cases hr : nextR s n s.length with
    | some r =>
      rw [hr] at h
      injection h with h; subst h
      obtain ⟨h1, h2, h3, h4⟩ := ih r hr
      refine ⟨by simp [h1], ⟨hs.1, hs.2.1, h2⟩, ?_, fun t ht hl hv => ?_⟩
      · have := val_tail (a := a) h1; omega
      · cases t with
        | nil => simp at hl
        | cons b t =>
          have hl' : t.length = s.length := by simpa using hl
          rcases Nat.lt_trichotomy a b with e | e | e
          · exact Nat.le_of_lt (val_head hn h2 ht.2.2 (by omega) e)
          · subst e
            have e1 := val_tail (a := a) (s := t) (t := s) hl'
            have e2 := val_tail (a := a) (s := r) (t := t) (by omega)
            have := h4 t ht.2.2 hl' (by omega)
            omega
          · have := val_head hn ht.2.2 hs.2.2 hl' e; omega
    | none =>
      rw [hr] at h
      simp only at h
      split at h
      · rename_i hlt
        injection h with h; subst h
        have i1 : Inc n (a + 1) (List.range' (a + 1) (s.length + 1)) := Inc_range _ _ (by omega)
        refine ⟨by simp, i1.mono (by have := hs.1; omega), ?_, fun t ht hl hv => ?_⟩
        · rw [List.range'_succ]
          exact val_head hn hs.2.2 i1.2.2 (by simp) (by omega)
        · cases t with
          | nil => simp at hl
          | cons b t =>
            have hl' : t.length = s.length := by simpa using hl
            have hab : a < b := by
              rcases Nat.lt_trichotomy a b with e | e | e
              · exact e
              · subst e
                have e1 := val_tail (a := a) (s := t) (t := s) hl'
                have := next_none hn hs.2.2 hr t ht.2.2 hl'
                omega
              · have := val_head hn ht.2.2 hs.2.2 hl' e; omega
            have : Inc n (a + 1) (b :: t) := ⟨by omega, ht.2⟩
            have := val_min hn this
            rw [List.length_cons, hl'] at this
            exact this
      · cases h
theorem find_first {α : Type} {f : Nat → Option α} {R : α} : ∀ (q i : Nat), (List.range' i q).findSome? f = some R → ∃ k, i ≤ k ∧ k < i + q ∧ f k = some R ∧ ∀ j, i ≤ j → j < k → f j = none
  | 0, i, h => by cases h
  | q + 1, i, h => by
    rw [List.range'_succ, List.findSome?_cons] at h
    cases hf : f i with
    | some r =>
      rw [hf] at h
      exact ⟨i, Nat.le_refl _, by omega, by rw [hf]; exact h, fun j h1 h2 => by omega⟩
    | none =>
      rw [hf] at h
      obtain ⟨k, h1, h2, h3, h4⟩ := find_first q (i + 1) h
      refine ⟨k, by omega, by omega, h3, fun j h5 h6 => ?_⟩
      by_cases e : j = i
      · subst e; exact hf
      · exact h4 j (by omega) h6
theorem upN_inj : ∀ {L L' : List Nat}, upN L = upN L' → L = L'
  | [], [], _ => rfl
  | [], _ :: _, h => by cases h
  | _ :: _, [], h => by cases h
  | a :: L, b :: L', h => by
    simp only [upN, List.map_cons, List.cons.injEq] at h
    rw [upN_inj h.2, Int.natCast_inj.1 h.1]
/-- extend finds the first one -/
theorem ext_least {M : List Nat} (hM : M.length ≤ 17) : ∀ (m i c : Nat) (S R : List Int) (L : List Nat), extE M m i c S = some R → R = S ++ upN L → L.length = m → ∀ t, t.length = m → Inc M.length i t → onesN (orL M c t) < S.length + m → val L ≤ val t
  | 0, i, c, S, R, L, h, hR, hL, t, ht, hi, ho => by
    have : L = [] := List.eq_nil_of_length_eq_zero hL
    subst this; exact Nat.zero_le _
  | m + 1, i, c, S, R, L, h, hR, hL, t, ht, hi, ho => by
    rw [extE_succ] at h
    obtain ⟨k, h1, h2, h3, h4⟩ := find_first _ _ h
    obtain ⟨L', h5, h6, h7, h8⟩ := ext_spec m (k + 1) _ _ R h3
    have eL : L = k :: L' := by
      refine upN_inj ?_
      have e : S ++ upN L = S ++ upN (k :: L') := by rw [← hR, h5]; simp
      exact List.append_cancel_left e
    subst eL
    cases t with
    | nil => simp at ht
    | cons b t =>
      have ht' : t.length = m := by simpa using ht
      rw [orL] at ho
      rcases Nat.lt_trichotomy k b with e | e | e
      · exact Nat.le_of_lt (val_head (n := M.length) hM h7 hi.2.2 (by omega) e)
      · subst e
        have := ext_least hM m (k + 1) _ (S ++ [(k : Int)]) R L' h3 h5 h6 t ht' hi.2.2 (by simp only [List.length_append, List.length_cons, List.length_nil]; omega)
        have e1 := val_tail (a := k) (s := L') (t := t) (by omega)
        omega
      · refine absurd (h4 b hi.1 e) (ext_some m (b + 1) _ _ t ht' hi.2.2 ?_)
        simp only [List.length_append, List.length_cons, List.length_nil]; omega
/-! ### Narrow finds the first set -/
theorem Inc_ref {T : List (List Int)} (hc : chkE T = 0) {L : List Nat} (hi : Inc T.length 0 L) : refB T (upN L) = decide (onesN (orL (masksL T) 0 L) < L.length) := by
  by_cases h : onesN (orL (masksL T) 0 L) < L.length
  · rw [decide_eq_true h]; exact ref_of hc hi h
  · rw [decide_eq_false h]
    have hl : (upN L).length = L.length := upN_len L
    rw [refB, if_neg (by rw [hc]; simp)]
    split
    · rfl
    · rw [hl, orM_orL _ (Nat.le_refl _), List.take_length]
      exact decide_eq_false h
theorem nar_is {T : List (List Int)} (hc : chkE T = 0) {L : List Nat} (hi : Inc T.length 0 L) (h0 : 1 ≤ L.length) (hn : L.length ≤ T.length) (hr : refB T (upN L) = true) (hs : ∀ t, Inc T.length 0 t → 1 ≤ t.length → t.length < L.length → refB T (upN t) = false) (hv : ∀ t, Inc T.length 0 t → t.length = L.length → val t < val L → refB T (upN t) = false) : narE T = (upN L, 0) := by
  have hMl : (masksL T).length = T.length := by simp [masksL]
  obtain ⟨t0, R⟩ := chk_ok hc
  have hn16 := R.n
  have no : ∀ t, Inc T.length 0 t → refB T (upN t) = false → ¬ onesN (orL (masksL T) 0 t) < t.length := by
    intro t ht h
    rw [Inc_ref hc ht] at h
    exact of_decide_eq_false h
  have hLo : onesN (orL (masksL T) 0 L) < L.length := by
    rw [Inc_ref hc hi] at hr; exact of_decide_eq_true hr
  have e : narS T = some (upN L) := by
    cases hS : narS T with
    | none =>
      rw [narS, List.findSome?_eq_none_iff] at hS
      have := hS (L.length - 1) (List.mem_range.2 (by omega))
      rw [show L.length - 1 + 1 = L.length by omega] at this
      exact absurd this (ext_some L.length 0 0 [] L rfl (by rw [hMl]; exact hi) (by simpa using hLo))
    | some S =>
      rw [narS, List.range_eq_range'] at hS
      obtain ⟨k, h1, h2, h3, h4⟩ := find_first _ _ hS
      obtain ⟨L', h5, h6, h7, h8⟩ := ext_spec _ _ _ _ _ h3
      rw [hMl] at h7
      have h8' : onesN (orL (masksL T) 0 L') < L'.length := by simpa [h6] using h8
      have hk : k + 1 = L.length := by
        rcases Nat.lt_trichotomy (k + 1) L.length with h | h | h
        · exact absurd h8' (no L' h7 (hs L' h7 (by omega) (by omega)))
        · exact h
        · have := h4 (L.length - 1) (by omega) (by omega)
          rw [show L.length - 1 + 1 = L.length by omega] at this
          exact absurd this (ext_some L.length 0 0 [] L rfl (by rw [hMl]; exact hi) (by simpa using hLo))
      have hle := ext_least (by rw [hMl]; omega) _ _ _ _ _ L' h3 h5 h6 L hk.symm (by rw [hMl]; exact hi) (by simpa [hk] using hLo)
      have hge : ¬ val L' < val L := fun h => no L' h7 (hv L' h7 (by omega) h) h8'
      rw [h5, List.nil_append, val_inj (n := T.length) (by omega) hi h7 (by omega) (by omega)]
  rw [narE, if_neg (by rw [hc]; simp), e]
theorem nar_no {T : List (List Int)} (hc : chkE T = 0) (hs : ∀ t, Inc T.length 0 t → 1 ≤ t.length → t.length ≤ T.length → refB T (upN t) = false) : narE T = ([], 11) := by
  have hMl : (masksL T).length = T.length := by simp [masksL]
  cases hS : narS T with
  | none => rw [narE, if_neg (by rw [hc]; simp), hS]
  | some S =>
    rw [narS, List.range_eq_range'] at hS
    obtain ⟨k, h1, h2, h3, h4⟩ := find_first _ _ hS
    obtain ⟨L', h5, h6, h7, h8⟩ := ext_spec _ _ _ _ _ h3
    rw [hMl] at h7
    have := hs L' h7 (by omega) (by have := Inc_len h7 (Nat.zero_le _); omega)
    rw [Inc_ref hc h7] at this
    exact absurd (show onesN (orL (masksL T) 0 L') < L'.length by simpa [h6] using h8) (of_decide_eq_false this)
end Go.Abs.L38
