import Derived.Test.YtjpcpnakcapojaaP38f
namespace Go.Abs.L38
open Go Go.Abs Go.Proofs Go.Abs.Hung
set_option linter.unusedVariables false
set_option maxRecDepth 20000
/-! ### an assignment leaves no narrow set -/
theorem mask_bit {b : List Int} : ∀ {k j : Nat}, (maskTo b k).testBit j = (decide (j < k) && decide (b.getD j 0 ≥ 0))
  | 0, j => by simp [maskTo]
  | k + 1, j => by
    rw [maskTo_succ]
    by_cases hb : b.getD k 0 ≥ 0
    · rw [if_pos hb, Nat.testBit_or, mask_bit, Nat.testBit_two_pow]
      by_cases e : k = j
      · subst e; rw [decide_eq_true hb]; simp
      · simp [e]
        rcases Nat.lt_or_ge j k with h | h
        · simp [h, show j < k + 1 by omega]
        · simp [show ¬ j < k by omega, show ¬ j < k + 1 by omega]
    · rw [if_neg hb, mask_bit]
      by_cases e : k = j
      · subst e; rw [decide_eq_false hb]; simp
      · rcases Nat.lt_or_ge j k with h | h
        · simp [h, show j < k + 1 by omega]
        · simp [show ¬ j < k by omega, show ¬ j < k + 1 by omega]
theorem masks_bit {T : List (List Int)} {t0 : List Int} (R : TabR T t0) {g : Nat → Nat} (hg : Feas T (freeL T) T.length t0.length g) {i : Nat} (hi : i < T.length) : ((masksL T).getD i 0).testBit (g i) = true := by
  have hTi : T.getD i [] ∈ T := by rw [List.getD_eq_getElem?_getD, List.getElem?_eq_getElem hi]; simp
  have e : (masksL T).getD i 0 = maskTo (T.getD i []) (T.getD i []).length := by
    rw [masksL, List.getD_eq_getElem?_getD, List.getElem?_map, List.getD_eq_getElem?_getD, List.getElem?_eq_getElem hi]; rfl
  rw [e, mask_bit, R.len _ hTi]
  have h1 := hg.asg.lt i hi
  have h2 := hg.pos i hi
  rw [decide_eq_true h1, decide_eq_true h2]; rfl
theorem map_nodup {n m : Nat} {g : Nat → Nat} (hg : Asg n m g) {l : List Nat} (hn : l.Nodup) (hl : ∀ i ∈ l, i < n) : (l.map g).Nodup := by
  rw [List.Nodup, List.pairwise_map]
  refine List.Pairwise.imp_of_mem ?_ hn
  intro a b ha hb hab e
  exact hab (hg.inj a b (hl a ha) (hl b hb) e)
theorem ext_none {T : List (List Int)} {t0 : List Int} (R : TabR T t0) {g : Nat → Nat} (hg : Feas T (freeL T) T.length t0.length g) (hM : ∀ x ∈ masksL T, x < 65536) :
    ∀ (m i c : Nat) (S : List Nat), c < 65536 → S.Nodup → (∀ k ∈ S, k < T.length ∧ k < i ∧ c.testBit (g k) = true) → extE (masksL T) m i c (S.map fun k : Nat => (k : Int)) = none
  | 0, i, c, S, hc, hn, h => by
    have := ones_ge hc (map_nodup hg.asg hn fun k hk => (h k hk).1) fun j hj => by
      obtain ⟨k, hk, rfl⟩ := List.mem_map.1 hj
      exact (h k hk).2.2
    rw [extE, if_neg (by simp at this ⊢; omega)]
  | m + 1, i, c, S, hc, hn, h => by
    rw [extE_succ, List.findSome?_eq_none_iff]
    intro k hk
    rw [List.mem_range'_1] at hk
    have hMl : (masksL T).length = T.length := by simp [masksL]
    have hkn : k < T.length := by omega
    have hz : (masksL T).getD k 0 < 65536 := hM _ (by rw [List.getD_eq_getElem?_getD, List.getElem?_eq_getElem (by omega)]; simp)
    have := ext_none R hg hM m (k + 1) (c ||| (masksL T).getD k 0) (S ++ [k]) (Nat.or_lt_two_pow (n := 16) hc hz) (by
      rw [List.nodup_append]
      refine ⟨hn, by simp, fun a ha b hb => ?_⟩
      simp at hb
      have := (h a ha).2.1
      omega) (fun a ha => by
      rw [Nat.testBit_or]
      rcases List.mem_append.1 ha with ha | ha
      · have := h a ha
        exact ⟨this.1, by omega, by rw [this.2.2]; rfl⟩
      · simp at ha
        subst ha
        exact ⟨hkn, by omega, by rw [masks_bit R hg hkn, Bool.or_true]⟩)
    rw [List.map_append] at this
    exact this
theorem masks_lt' {T : List (List Int)} {t0 : List Int} (R : TabR T t0) : ∀ x ∈ masksL T, x < 65536 := masks_lt fun b hb => by
  have h1 := R.len b hb
  have h2 := R.m
  omega
/-- Narrow finds none -/
theorem nar_none {T : List (List Int)} (h : prvE T = 0) : narE T = ([], 11) := by
  have hc := chk_of_prv h
  obtain ⟨t0, R⟩ := chk_ok hc
  obtain ⟨g, C⟩ := chp_spec h R
  rw [narE, if_neg (by rw [hc]; simp)]
  have : narS T = none := by
    rw [narS, List.findSome?_eq_none_iff]
    intro k _
    exact ext_none R C.feas (masks_lt' R) (k + 1) 0 0 [] (by omega) (by simp) (by simp)
  rw [this]
/-- nothing refutes -/
theorem ref_none {T : List (List Int)} (h : prvE T = 0) (s : List Int) : refB T s = false := by
  have hc := chk_of_prv h
  obtain ⟨t0, R⟩ := chk_ok hc
  obtain ⟨g, C⟩ := chp_spec h R
  rw [refB, if_neg (by rw [hc]; simp)]
  split
  · rfl
  rename_i hb
  have hb : anyR (badS T.length s) 0 s.length = false := by simpa using hb
  rw [anyR_false] at hb
  have hr : ∀ i, i < s.length → 0 ≤ s.getD i 0 ∧ s.getD i 0 < (T.length : Int) ∧ (0 < i → s.getD (i - 1) 0 < s.getD i 0) := by
    intro i hi
    have := hb i hi
    simp only [badS, Bool.or_eq_false_iff, decide_eq_false_iff_not, Bool.and_eq_false_iff] at this
    omega
  have hlt : ∀ j i, i < j → j < s.length → s.getD i 0 < s.getD j 0 := by
    intro j
    induction j with
    | zero => intro i h; omega
    | succ j ih =>
      intro i hij hj
      have := (hr (j + 1) hj).2.2 (by omega)
      rw [Nat.add_sub_cancel] at this
      by_cases e : i = j
      · subst e; exact this
      · have := ih i (by omega) (by omega); omega
  let l : List Nat := (List.range s.length).map fun i => (s.getD i 0).toNat
  have hn : l.Nodup := by
    rw [List.Nodup, List.pairwise_map]
    refine List.Pairwise.imp_of_mem ?_ (List.nodup_range (n := s.length))
    intro a b ha hb2 hab e
    have ha := List.mem_range.1 ha
    have hb2 := List.mem_range.1 hb2
    have a1 := hr a ha
    have a2 := hr b hb2
    rcases Nat.lt_trichotomy a b with h1 | h1 | h1
    · have := hlt b a h1 hb2; omega
    · exact hab h1
    · have := hlt a b h1 ha; omega
  have hbits : ∀ q, q ≤ s.length → ∀ i, i < q → (orM (masksL T) s q).testBit (g (s.getD i 0).toNat) = true := by
    intro q
    induction q with
    | zero => intro _ i h; omega
    | succ q ih =>
      intro hq i hi
      rw [orM, Nat.testBit_or]
      by_cases e : i = q
      · subst e
        rw [masks_bit R C.feas (by have := hr i (by omega); omega), Bool.or_true]
      · rw [ih (by omega) i (by omega)]; rfl
  have := ones_ge (orM_lt (s := s) (masks_lt' R) s.length) (map_nodup C.feas.asg hn fun i hi => by
    obtain ⟨j, hj, rfl⟩ := List.mem_map.1 hi
    have := hr j (List.mem_range.1 hj)
    omega) fun i hi => by
    obtain ⟨j, hj, rfl⟩ := List.mem_map.1 hi
    obtain ⟨q, hq, rfl⟩ := List.mem_map.1 hj
    exact hbits s.length (Nat.le_refl _) q (List.mem_range.1 hq)
  simp only [l, List.length_map, List.length_range] at this
  exact decide_eq_false (by omega)
end Go.Abs.L38
namespace Go.Abs.L38
open Go Go.Abs Go.Proofs Go.Abs.Hung
set_option linter.unusedVariables false
set_option maxRecDepth 20000
/-! ### no assignment leaves a narrow set (by the duals of the 0-1 costs) -/
def cost01 (T : List (List Int)) (i j : Nat) : Int := if 0 ≤ (T.getD i []).getD j 0 then 0 else 1
theorem sm_swap (f : Nat → Nat → Int) : ∀ l m : List Nat, sm (fun i => sm (fun t => f i t) m) l = sm (fun t => sm (fun i => f i t) l) m
  | [], m => by
    have : ∀ m : List Nat, sm (fun _ => (0 : Int)) m = 0 := by
      intro m
      induction m with
      | nil => rfl
      | cons a m ih => rw [sm, ih]; rfl
    simp only [sm]
    exact (this m).symm
  | a :: l, m => by
    rw [sm, sm_swap f l m, ← sm_add]
    exact sm_congr fun t _ => rfl
theorem layer {x : Int} (h0 : 0 ≤ x) : ∀ (B : Nat), x ≤ B → sm (fun t => if (t : Int) < x then 1 else 0) (List.range B) = x
  | 0, h => by simp [sm]; omega
  | B + 1, h => by
    rw [List.range_succ, sm_app, sm, sm]
    by_cases e : x ≤ B
    · rw [layer h0 B e, if_neg (by omega)]; omega
    · have : x = (B : Int) + 1 := by omega
      rw [if_pos (by omega)]
      have h2 : sm (fun t => if (t : Int) < x then 1 else 0) (List.range B) = sm (fun _ => 1) (List.range B) := sm_congr fun t ht => by
        have := List.mem_range.1 ht
        rw [if_pos (by omega)]
      have h3 : ∀ l : List Nat, sm (fun _ => (1 : Int)) l = l.length := by
        intro l
        induction l with
        | nil => rfl
        | cons a l ih => rw [sm, ih, List.length_cons]; omega
      rw [h2, h3, List.length_range]; omega
theorem sm_count (p : Nat → Bool) : ∀ l : List Nat, sm (fun i => if p i = true then 1 else 0) l = ((l.filter p).length : Int)
  | [] => rfl
  | a :: l => by
    rw [sm, sm_count p l, List.filter_cons]
    split
    · rename_i h; simp; omega
    · rename_i h; simp
theorem sm_le_ex {f g : Nat → Int} : ∀ {l : List Nat}, sm g l < sm f l → ∃ t ∈ l, g t < f t
  | [], h => by simp [sm] at h
  | a :: l, h => by
    rw [sm, sm] at h
    by_cases e : g a < f a
    · exact ⟨a, by simp, e⟩
    · obtain ⟨t, ht, h2⟩ := sm_le_ex (f := f) (g := g) (l := l) (by omega)
      exact ⟨t, by simp [ht], h2⟩
theorem sm_neg (f : Nat → Int) : ∀ l : List Nat, sm (fun j => -f j) l = -sm f l
  | [] => rfl
  | a :: l => by rw [sm, sm, sm_neg f l]; omega
/-- rows with fewer columns than rows -/
theorem hall {T : List (List Int)} {n m : Nat} (hn : n ≤ m) (hno : ∀ g, Asg n m g → ∃ i, i < n ∧ (T.getD i []).getD (g i) 0 < 0) :
    ∃ (p q : Nat → Bool), ((List.range m).filter q).length < ((List.range n).filter p).length ∧ ∀ i j, i < n → j < m → p i = true → 0 ≤ (T.getD i []).getD j 0 → q j = true := by
  have ha : ∀ i j, 0 ≤ cost01 T i j ∧ cost01 T i j ≤ 1 := fun i j => by unfold cost01; split <;> omega
  obtain ⟨s, _, M⟩ := phases_ok (INF := (n : Int) + 3) (keep := false) ha (by omega) hn n 0 (Hung.start n m) (Hung.start_ok ha) (by omega)
  obtain ⟨g, hg, _, _, _, e2⟩ := M.asg
  have hpos : 1 ≤ costA (cost01 T) n g := by
    obtain ⟨i, hi, hneg⟩ := hno g hg
    have := (sm_bound (f := fun i => cost01 T i (g i)) (B := 1) (l := List.range n) fun i _ => ha i (g i)).2.2 i (List.mem_range.2 hi)
    have h1 : cost01 T i (g i) = 1 := by unfold cost01; rw [if_neg (by omega)]
    unfold costA
    omega
  rw [e2] at hpos
  have hu : sm (fun i => s.u.getD (i + 1) 0) (List.range n) = sm (fun t => sm (fun i => if (t : Int) < s.u.getD (i + 1) 0 then 1 else 0) (List.range n)) (List.range n) := by
    rw [← sm_swap]
    exact sm_congr fun i _ => (layer (M.hu (i + 1)).1 n (by have := (M.hu (i + 1)).2; omega)).symm
  have hv : sm (fun j => -s.v.getD (j + 1) 0) (List.range m) = sm (fun t => sm (fun j => if (t : Int) < -s.v.getD (j + 1) 0 then 1 else 0) (List.range m)) (List.range n) := by
    rw [← sm_swap]
    exact sm_congr fun j _ => (layer (by have := (M.hv (j + 1)).1; omega) n (by have := (M.hv (j + 1)).2; omega)).symm
  rw [sm_neg] at hv
  obtain ⟨t, _, ht⟩ := sm_le_ex (l := List.range n) (f := fun t => sm (fun i => if (t : Int) < s.u.getD (i + 1) 0 then 1 else 0) (List.range n)) (g := fun t => sm (fun j => if (t : Int) < -s.v.getD (j + 1) 0 then 1 else 0) (List.range m)) (by rw [← hu, ← hv]; omega)
  refine ⟨fun i => decide ((t : Int) < s.u.getD (i + 1) 0), fun j => decide ((t : Int) < -s.v.getD (j + 1) 0), ?_, fun i j hi hj hp hc => ?_⟩
  · have c1 := sm_count (fun i => decide ((t : Int) < s.u.getD (i + 1) 0)) (List.range n)
    have c2 := sm_count (fun j => decide ((t : Int) < -s.v.getD (j + 1) 0)) (List.range m)
    simp only [decide_eq_true_eq] at c1 c2
    have ht : sm (fun j => if (t : Int) < -s.v.getD (j + 1) 0 then 1 else 0) (List.range m) < sm (fun i => if (t : Int) < s.u.getD (i + 1) 0 then 1 else 0) (List.range n) := ht
    rw [c1, c2] at ht
    omega
  · have hp := of_decide_eq_true hp
    have := M.feas (i + 1) (j + 1) (by omega) (by omega) (by omega) (by omega)
    rw [Nat.add_sub_cancel, Nat.add_sub_cancel, cost01, if_pos hc] at this
    exact decide_eq_true (by omega)
end Go.Abs.L38
namespace Go.Abs.L38
open Go Go.Abs Go.Proofs Go.Abs.Hung
set_option linter.unusedVariables false
set_option maxRecDepth 20000
/-! ### what extend finds, and that it finds -/
def Inc (n : Nat) : Nat → List Nat → Prop
  | _, [] => True
  | i, k :: L => i ≤ k ∧ k < n ∧ Inc n (k + 1) L
def orL (M : List Nat) : Nat → List Nat → Nat
  | c, [] => c
  | c, k :: L => orL M (c ||| M.getD k 0) L
theorem Inc.len {n : Nat} : ∀ {i : Nat} {L : List Nat}, Inc n i L → L ≠ [] → i + L.length ≤ n
  | i, [k], h, _ => by have := h.1; have := h.2.1; simp; omega
  | i, k :: a :: L, h, _ => by
    have := Inc.len h.2.2 (by simp)
    have := h.1
    simp at *; omega
theorem ext_spec {M : List Nat} : ∀ (m i c : Nat) (S R : List Int), extE M m i c S = some R → ∃ L : List Nat, R = S ++ L.map (fun k : Nat => (k : Int)) ∧ L.length = m ∧ Inc M.length i L ∧ onesN (orL M c L) < S.length + m
  | 0, i, c, S, R, h => by
    rw [extE] at h
    split at h
    · rename_i h2
      injection h with h; subst h
      exact ⟨[], by simp, rfl, trivial, by simpa [orL] using h2⟩
    · cases h
  | m + 1, i, c, S, R, h => by
    rw [extE_succ] at h
    obtain ⟨k, hk, h2⟩ := List.exists_of_findSome?_eq_some h
    rw [List.mem_range'_1] at hk
    obtain ⟨L, h3, h4, h5, h6⟩ := ext_spec m (k + 1) _ _ R h2
    refine ⟨k :: L, by rw [h3]; simp, by simp [h4], ⟨hk.1, by omega, h5⟩, ?_⟩
    rw [orL]
    simp only [List.length_append, List.length_cons, List.length_nil] at h6
    omega
theorem ext_some {M : List Nat} : ∀ (m i c : Nat) (S : List Int) (L : List Nat), L.length = m → Inc M.length i L → onesN (orL M c L) < S.length + m → extE M m i c S ≠ none
  | 0, i, c, S, L, hl, hi, ho => by
    have : L = [] := List.eq_nil_of_length_eq_zero hl
    subst this
    rw [extE, if_pos (by simpa [orL] using ho)]; simp
  | m + 1, i, c, S, k :: L, hl, hi, ho => by
    rw [extE_succ]
    intro hno
    rw [List.findSome?_eq_none_iff] at hno
    have hlen := Inc.len hi (by simp)
    have hl' : L.length = m := by simpa using hl
    have hk : k + m < M.length := by
      by_cases e : L = []
      · subst e; have := hi.2.1; simp at hl'; omega
      · have := Inc.len hi.2.2 e; omega
    refine ext_some m (k + 1) (c ||| M.getD k 0) (S ++ [(k : Int)]) L hl' hi.2.2 ?_ (hno k ?_)
    · rw [orL] at ho
      simp only [List.length_append, List.length_cons, List.length_nil]; omega
    · rw [List.mem_range'_1]; have := hi.1; omega
theorem orL_bit {M : List Nat} {j : Nat} : ∀ {L : List Nat} {c : Nat}, (orL M c L).testBit j = (c.testBit j || L.any fun k => (M.getD k 0).testBit j)
  | [], c => by simp [orL]
  | k :: L, c => by rw [orL, orL_bit, Nat.testBit_or, List.any_cons, Bool.or_assoc]
theorem orL_lt {M : List Nat} (hM : ∀ x ∈ M, x < 65536) : ∀ {L : List Nat} {c : Nat}, c < 65536 → orL M c L < 65536
  | [], c, h => h
  | k :: L, c, h => by
    rw [orL]
    refine orL_lt hM (Nat.or_lt_two_pow (n := 16) h ?_)
    rw [List.getD_eq_getElem?_getD]
    cases e : M[k]? with
    | none => simp
    | some x => exact hM x (List.mem_of_getElem? e)
theorem Inc.filter {n : Nat} (p : Nat → Bool) : ∀ (q i : Nat), i + q = n → Inc n i ((List.range' i q).filter p)
  | 0, i, h => trivial
  | q + 1, i, h => by
    rw [List.range'_succ, List.filter_cons]
    have ih : Inc n (i + 1) ((List.range' (i + 1) q).filter p) := Inc.filter p q (i + 1) (by omega)
    split
    · exact ⟨Nat.le_refl i, (show i < n by omega), ih⟩
    · have mono : ∀ {L : List Nat} {i : Nat}, Inc n (i + 1) L → Inc n i L := by
        intro L i hL
        cases L with
        | nil => trivial
        | cons k L => exact ⟨by have := hL.1; omega, hL.2⟩
      exact mono ih
end Go.Abs.L38
namespace Go.Abs.L38
open Go Go.Abs Go.Proofs Go.Abs.Hung
set_option linter.unusedVariables false
set_option maxRecDepth 20000
theorem Inc_get {n : Nat} : ∀ {L : List Nat} {i : Nat}, Inc n i L → ∀ j, j < L.length → i ≤ L.getD j 0 ∧ L.getD j 0 < n ∧ (0 < j → L.getD (j - 1) 0 < L.getD j 0)
  | [], i, h, j, hj => by simp at hj
  | k :: L, i, h, 0, hj => by
    simp only [List.getD_cons_zero]
    exact ⟨h.1, h.2.1, fun h => by omega⟩
  | k :: L, i, h, j + 1, hj => by
    have := Inc_get h.2.2 j (by simpa using hj)
    simp only [List.getD_cons_succ]
    have h1 := h.1
    refine ⟨by omega, this.2.1, fun _ => ?_⟩
    rw [Nat.add_sub_cancel]
    cases j with
    | zero => simp only [List.getD_cons_zero]; omega
    | succ j => simp only [List.getD_cons_succ]; have := this.2.2 (by omega); rwa [Nat.add_sub_cancel] at this
theorem orL_app {M : List Nat} : ∀ {L : List Nat} {c k : Nat}, orL M c (L ++ [k]) = orL M c L ||| M.getD k 0
  | [], c, k => rfl
  | a :: L, c, k => by rw [List.cons_append, orL, orL, orL_app]
theorem orM_orL {M : List Nat} {L : List Nat} : ∀ q, q ≤ L.length → orM M (L.map fun k : Nat => (k : Int)) q = orL M 0 (L.take q)
  | 0, _ => by simp [orM, orL]
  | q + 1, h => by
    have e : L.take (q + 1) = L.take q ++ [L.getD q 0] := by
      rw [List.take_add_one, List.getD_eq_getElem?_getD, List.getElem?_eq_getElem (by omega)]; rfl
    have e2 : ((L.map fun k : Nat => (k : Int)).getD q 0).toNat = L.getD q 0 := by
      rw [List.getD_eq_getElem?_getD, List.getElem?_map, List.getD_eq_getElem?_getD, List.getElem?_eq_getElem (by omega)]; rfl
    rw [orM, orM_orL q (by omega), e, orL_app, e2]
/-- a set that extend finds refutes -/
theorem ref_of {T : List (List Int)} (hc : chkE T = 0) {L : List Nat} (hi : Inc T.length 0 L) (ho : onesN (orL (masksL T) 0 L) < L.length) : refB T (L.map fun k : Nat => (k : Int)) = true := by
  have hl : (L.map fun k : Nat => (k : Int)).length = L.length := by simp
  have hg : ∀ j, (L.map fun k : Nat => (k : Int)).getD j 0 = (L.getD j 0 : Int) := by
    intro j
    rw [List.getD_eq_getElem?_getD, List.getElem?_map, List.getD_eq_getElem?_getD]
    cases L[j]? <;> rfl
  have hb : anyR (badS T.length (L.map fun k : Nat => (k : Int))) 0 (L.map fun k : Nat => (k : Int)).length = false := by
    rw [anyR_false]
    intro j hj
    rw [hl] at hj
    have := Inc_get hi j hj
    unfold badS
    rw [hg, hg]
    simp only [Bool.or_eq_false_iff, decide_eq_false_iff_not, Bool.and_eq_false_iff]
    omega
  rw [refB, if_neg (by rw [hc]; simp), if_neg (by rw [hb]; simp), hl, orM_orL _ (Nat.le_refl _), List.take_length]
  exact decide_eq_true ho
theorem masks_col {T : List (List Int)} {t0 : List Int} (R : TabR T t0) {i j : Nat} (hi : i < T.length) (h : ((masksL T).getD i 0).testBit j = true) : j < t0.length ∧ 0 ≤ (T.getD i []).getD j 0 := by
  have hTi : T.getD i [] ∈ T := by rw [List.getD_eq_getElem?_getD, List.getElem?_eq_getElem hi]; simp
  have e : (masksL T).getD i 0 = maskTo (T.getD i []) (T.getD i []).length := by
    rw [masksL, List.getD_eq_getElem?_getD, List.getElem?_map, List.getD_eq_getElem?_getD, List.getElem?_eq_getElem hi]; rfl
  rw [e, mask_bit, R.len _ hTi, Bool.and_eq_true] at h
  exact ⟨of_decide_eq_true h.1, of_decide_eq_true h.2⟩
theorem few_cols {T : List (List Int)} {t0 : List Int} (R : TabR T t0) {p q : Nat → Bool} (h : ((List.range t0.length).filter q).length < ((List.range T.length).filter p).length) (hpq : ∀ i j, i < T.length → j < t0.length → p i = true → 0 ≤ (T.getD i []).getD j 0 → q j = true) :
    onesN (orL (masksL T) 0 ((List.range T.length).filter p)) < ((List.range T.length).filter p).length := by
  have hM := masks_lt' R
  have hlt := orL_lt hM (L := (List.range T.length).filter p) (c := 0) (by omega)
  rw [ones_bits 16 _ (Nat.le_refl _) hlt]
  refine Nat.lt_of_le_of_lt (nodup_sub (m := (List.range t0.length).filter q) (List.nodup_range.filter _) fun j hj => ?_) h
  rw [bitsL, List.mem_filter] at hj
  have hj := hj.2
  rw [orL_bit, Nat.zero_testBit, Bool.false_or, List.any_eq_true] at hj
  obtain ⟨i, hi, hb⟩ := hj
  rw [List.mem_filter, List.mem_range] at hi
  obtain ⟨h1, h2⟩ := masks_col R hi.1 hb
  rw [List.mem_filter, List.mem_range]
  exact ⟨h1, hpq i j hi.1 h1 hi.2 h2⟩
/-- Narrow finds one, and it refutes -/
theorem nar_some {T : List (List Int)} (hc : chkE T = 0) (h : prvE T ≠ 0) : ∃ S, narE T = (S, 0) ∧ refB T S = true ∧ S.length ≤ 16 := by
  obtain ⟨t0, R⟩ := chk_ok hc
  have hn := R.n
  have hMl : (masksL T).length = T.length := by simp [masksL]
  obtain ⟨p, q, h1, h2⟩ : ∃ (p q : Nat → Bool), ((List.range t0.length).filter q).length < ((List.range T.length).filter p).length ∧ ∀ i j, i < T.length → j < t0.length → p i = true → 0 ≤ (T.getD i []).getD j 0 → q j = true := by
    by_cases hnm : T.length ≤ t0.length
    · refine hall hnm fun g hg => ?_
      refine Classical.byContradiction fun hno => none_of hc R h g (feas_free.2 ⟨hg, fun i hi => ?_⟩)
      refine Classical.byContradiction fun hlt => hno ⟨i, hi, by omega⟩
    · refine ⟨fun _ => true, fun _ => true, ?_, fun _ _ _ _ _ _ => rfl⟩
      have e : ∀ l : List Nat, (l.filter fun _ => true) = l := fun l => List.filter_eq_self.2 (fun _ _ => rfl)
      rw [e, e, List.length_range, List.length_range]; omega
  have ho := few_cols R h1 h2
  have hinc : Inc T.length 0 ((List.range T.length).filter p) := by
    rw [List.range_eq_range']; exact Inc.filter p T.length 0 (by omega)
  generalize (List.range T.length).filter p = L at *
  have hLl : L.length ≤ T.length := by
    have := Inc.len hinc (by rintro rfl; simp at ho)
    omega
  have hS : narS T ≠ none := by
    intro hno
    rw [narS, List.findSome?_eq_none_iff] at hno
    refine ext_some L.length 0 0 [] L rfl (by rw [hMl]; exact hinc) (by simpa using ho) ?_
    have := hno (L.length - 1) (List.mem_range.2 (by omega))
    rwa [show L.length - 1 + 1 = L.length by omega] at this
  cases hs : narS T with
  | none => exact absurd hs hS
  | some S =>
    refine ⟨S, by rw [narE, if_neg (by rw [hc]; simp), hs], ?_⟩
    rw [narS] at hs
    obtain ⟨k, hk, hs⟩ := List.exists_of_findSome?_eq_some hs
    obtain ⟨L', rfl, h3, h4, h5⟩ := ext_spec _ _ _ _ _ hs
    rw [hMl] at h4
    have hk := List.mem_range.1 hk
    rw [List.nil_append]
    exact ⟨ref_of hc h4 (by simpa [h3] using h5), by simp [h3]; omega⟩
end Go.Abs.L38
