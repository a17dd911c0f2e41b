import Derived.Test.YtjpcpnakcapojaaC38y
namespace Go.Abs.L38
open Go Go.Abs Go.Proofs Go.Abs.Hung
set_option linter.unusedVariables false
set_option maxRecDepth 20000
/-! ### what solve finds -/
theorem finE_cost (a : Nat → Nat → Int) (row : List Nat) : ∀ (q k : Nat) (C : List Int) (s : Int), (finE a row q (k + 1) C s).2 = s + sm (fun j => if row.getD (j + 1) 0 = 0 then 0 else a (row.getD (j + 1) 0 - 1) j) (List.range' k q)
  | 0, k, C, s => by simp [finE, sm]
  | q + 1, k, C, s => by
    rw [finE, List.range'_succ, sm]
    split
    · rename_i h
      rw [finE_cost a row q (k + 1) C s]; omega
    · rename_i h
      rw [finE_cost a row q (k + 1), Nat.add_sub_cancel]; omega
/-- an assignment that the table and the given columns allow -/
structure Feas (T : List (List Int)) (F : List Int) (n m : Nat) (g : Nat → Nat) : Prop where
  asg : Asg n m g
  pos : ∀ i, i < n → 0 ≤ (T.getD i []).getD (g i) 0
  fit : ∀ i, i < n → F.getD i 0 < 0 ∨ F.getD i 0 = (g i : Int)
def costT (T : List (List Int)) (n : Nat) (g : Nat → Nat) : Int := sm (fun i => (T.getD i []).getD (g i) 0) (List.range n)
theorem Feas.at {T : List (List Int)} {F : List Int} {n m : Nat} {g : Nat → Nat} (h : Feas T F n m g) {i : Nat} (hi : i < n) : atE T F i (g i) = (T.getD i []).getD (g i) 0 := by
  rw [atE, if_pos ⟨h.pos i hi, h.fit i hi⟩]
theorem Feas.cost {T : List (List Int)} {F : List Int} {n m : Nat} {g : Nat → Nat} (h : Feas T F n m g) : costA (atE T F) n g = costT T n g :=
  sm_congr fun i hi => h.at (List.mem_range.1 hi)
theorem sm_bound {f : Nat → Int} {B : Int} : ∀ {l : List Nat}, (∀ j ∈ l, 0 ≤ f j ∧ f j ≤ B) → 0 ≤ sm f l ∧ sm f l ≤ B * l.length ∧ ∀ j ∈ l, f j ≤ sm f l
  | [], _ => by simp [sm]
  | a :: l, h => by
    obtain ⟨h1, h2, h3⟩ := sm_bound (l := l) fun j hj => h j (by simp [hj])
    have := h a (by simp)
    rw [sm]
    refine ⟨by omega, ?_, fun j hj => ?_⟩
    · rw [List.length_cons, Int.natCast_add, Int.mul_add]; omega
    · rcases List.mem_cons.1 hj with rfl | hj
      · omega
      · have := h3 j hj; omega
theorem tab_le {T : List (List Int)} {F : List Int} {n m : Nat} (tb : Tb T F n m) (i k : Nat) : (T.getD i []).getD k 0 ≤ 1000 := by
  rw [List.getD_eq_getElem?_getD (l := T)]
  cases h : T[i]? with
  | none => simp
  | some t =>
    rw [Option.getD_some, List.getD_eq_getElem?_getD]
    cases h2 : t[k]? with
    | none => simp
    | some c => exact tb.hc t (List.mem_of_getElem? h) c (List.mem_of_getElem? h2)
theorem Feas.bound {T : List (List Int)} {F : List Int} {n m : Nat} {g : Nat → Nat} (tb : Tb T F n m) (h : Feas T F n m g) : 0 ≤ costT T n g ∧ costT T n g ≤ 16000 := by
  have := sm_bound (f := fun i => (T.getD i []).getD (g i) 0) (B := 1000) (l := List.range n) fun i hi => ⟨h.pos i (List.mem_range.1 hi), tab_le tb i (g i)⟩
  rw [List.length_range] at this
  have h1 := tb.h1
  unfold costT
  omega
theorem asg_le {n m : Nat} {g : Nat → Nat} (h : Asg n m g) : n ≤ m := by
  have hnd : ((List.range n).map g).Nodup := by
    rw [List.Nodup, List.pairwise_map]
    refine List.Pairwise.imp_of_mem ?_ List.nodup_range
    intro a b ha hb hab e
    exact hab (h.inj a b (List.mem_range.1 ha) (List.mem_range.1 hb) e)
  have := nodup_len m _ hnd fun x hx => by
    obtain ⟨i, hi, rfl⟩ := List.mem_map.1 hx
    exact h.lt i (List.mem_range.1 hi)
  simpa using this
theorem fin_cost {T : List (List Int)} {F : List Int} {n m : Nat} (tb : Tb T F n m) (hnm : n ≤ m) : (finP T F n m).2 = costM (atE T F) m (phE T F n m).row := by
  rw [finP, if_neg (by omega), finE_cost, Int.zero_add, ← List.range_eq_range']; rfl
theorem ok_feas {T : List (List Int)} {F : List Int} {n m : Nat} (tb : Tb T F n m) (h : okP T F n m = true) : ∃ g, Feas T F n m g ∧ costT T n g = (finP T F n m).2 := by
  have hnm : n ≤ m := by
    rw [okP] at h
    split at h
    · cases h
    · omega
  rw [okP, if_neg (by omega)] at h
  have h := of_decide_eq_true h
  rw [fin_cost tb hnm] at h ⊢
  obtain ⟨g, hg, _, _, e, _⟩ := (phE_ok tb hnm).2.asg
  rw [e] at h ⊢
  have hb := (sm_bound (f := fun i => atE T F i (g i)) (B := 1048576) (l := List.range n) fun i _ => tb.at i (g i)).2.2
  have hf : Feas T F n m g := by
    have hlt : ∀ i, i < n → (T.getD i []).getD (g i) 0 ≥ 0 ∧ (F.getD i 0 < 0 ∨ F.getD i 0 = (g i : Int)) := by
      intro i hi
      have h1 : atE T F i (g i) < 1048576 := Int.lt_of_le_of_lt (hb i (List.mem_range.2 hi)) h
      rw [atE] at h1
      split at h1
      · assumption
      · omega
    exact ⟨hg, fun i hi => (hlt i hi).1, fun i hi => (hlt i hi).2⟩
  exact ⟨g, hf, hf.cost.symm⟩
theorem feas_ok {T : List (List Int)} {F : List Int} {n m : Nat} {g : Nat → Nat} (tb : Tb T F n m) (h : Feas T F n m g) : okP T F n m = true ∧ (finP T F n m).2 ≤ costT T n g := by
  have hnm := asg_le h.asg
  have h1 := (phE_ok tb hnm).2.least h.asg
  rw [h.cost, ← fin_cost tb hnm] at h1
  refine ⟨?_, h1⟩
  have := (h.bound tb).2
  rw [okP, if_neg (by omega)]
  simp; omega
end Go.Abs.L38
namespace Go.Abs.L38
open Go Go.Abs Go.Proofs Go.Abs.Hung
set_option linter.unusedVariables false
set_option maxRecDepth 20000
/-! ### the first of the cheapest -/
theorem Tb.put {T : List (List Int)} {F : List Int} {n m : Nat} (tb : Tb T F n m) (i : Nat) (x : Int) : Tb T (F.set i x) n m := ⟨tb.hn, by rw [List.length_set]; exact tb.hF, tb.hT, tb.hc, tb.h1, tb.h2⟩
theorem Feas.unput {T : List (List Int)} {F : List Int} {n m i : Nat} {x : Int} {g : Nat → Nat} (hi : i < F.length) (h0 : F.getD i 0 < 0) (h : Feas T (F.set i x) n m g) : Feas T F n m g := by
  refine ⟨h.asg, h.pos, fun j hj => ?_⟩
  have := h.fit j hj
  rw [gset hi] at this
  split at this
  · rename_i e; subst e; exact .inl h0
  · exact this
theorem Feas.put {T : List (List Int)} {F : List Int} {n m i : Nat} {g : Nat → Nat} (hi : i < F.length) (h : Feas T F n m g) : Feas T (F.set i (g i : Int)) n m g := by
  refine ⟨h.asg, h.pos, fun j hj => ?_⟩
  rw [gset hi]
  split
  · rename_i e; subst e; exact .inr rfl
  · exact h.fit j hj
/-- what stands at a step of fix -/
structure Best (T : List (List Int)) (F : List Int) (n m : Nat) (best : Int) : Prop where
  ok : okP T F n m = true
  cost : (finP T F n m).2 = best
theorem Best.le {T : List (List Int)} {F : List Int} {n m : Nat} {best : Int} (tb : Tb T F n m) (h : Best T F n m best) {g : Nat → Nat} (hg : Feas T F n m g) : best ≤ costT T n g := by
  rw [← h.cost]; exact (feas_ok tb hg).2
theorem best_of {T : List (List Int)} {F : List Int} {n m i k : Nat} {best : Int} {g : Nat → Nat} (tb : Tb T F n m) (hb : Best T F n m best) (hi : i < n) (h0 : F.getD i 0 < 0) (hg : Feas T F n m g) (hc : costT T n g = best) (hk : g i = k) : Best T (F.set i (k : Int)) n m best := by
  have hiF : i < F.length := by rw [tb.hF]; exact hi
  subst hk
  have tb' := tb.put i (g i : Int)
  obtain ⟨h1, h2⟩ := feas_ok tb' (hg.put hiF)
  obtain ⟨g2, h3, h4⟩ := ok_feas tb' h1
  have h5 := hb.le tb (h3.unput hiF h0)
  exact ⟨h1, by omega⟩
theorem fixL_spec {T : List (List Int)} {F : List Int} {n m i : Nat} {best : Int} {g : Nat → Nat} (tb : Tb T F n m) (hb : Best T F n m best) (hi : i < n) (h0 : F.getD i 0 < 0) (hg : Feas T F n m g) (hc : costT T n g = best) :
    ∀ (q k : Nat) (F' : List Int), (∀ x : Int, F'.set i x = F.set i x) → k ≤ g i → g i < k + q → ∃ k0 : Nat, fixL T best n m i q k F' = F.set i (k0 : Int) ∧ k ≤ k0 ∧ Best T (F.set i (k0 : Int)) n m best ∧ ∀ g', Feas T F n m g' → costT T n g' = best → k ≤ g' i → k0 ≤ g' i
  | 0, k, F', hF, h1, h2 => by omega
  | q + 1, k, F', hF, h1, h2 => by
    rw [fixL, hF]
    by_cases ht : okP T (F.set i (k : Int)) n m = true ∧ (finP T (F.set i (k : Int)) n m).2 = best
    · rw [if_pos ht]
      exact ⟨k, rfl, Nat.le_refl _, ⟨ht.1, ht.2⟩, fun g' _ _ h => h⟩
    · rw [if_neg ht]
      have no : ∀ g', Feas T F n m g' → costT T n g' = best → g' i ≠ k := by
        intro g' hg' hc' e
        have := best_of tb hb hi h0 hg' hc' e
        exact ht ⟨this.ok, this.cost⟩
      have hne := no g hg hc
      obtain ⟨k0, e1, e2, e3, e4⟩ := fixL_spec tb hb hi h0 hg hc q (k + 1) (F.set i (k : Int)) (fun x => by rw [List.set_set]) (by omega) (by omega)
      refine ⟨k0, e1, by omega, e3, fun g' h3 h4 h5 => e4 g' h3 h4 ?_⟩
      have := no g' h3 h4
      omega
theorem fixE_spec {T : List (List Int)} {n m : Nat} {best : Int} : ∀ (q i : Nat) (F : List Int), Tb T F n m → Best T F n m best → i + q = n → (∀ j, j < i → 0 ≤ F.getD j 0) → (∀ j, i ≤ j → j < n → F.getD j 0 < 0) →
    Best T (fixE T best n m q i F) n m best ∧ (∀ j, j < n → 0 ≤ (fixE T best n m q i F).getD j 0) ∧ (∀ j, j < i → (fixE T best n m q i F).getD j 0 = F.getD j 0) ∧
      ∀ g, Feas T F n m g → costT T n g = best → ∀ j, i ≤ j → j < n → (∀ l, i ≤ l → l < j → (fixE T best n m q i F).getD l 0 = (g l : Int)) → (fixE T best n m q i F).getD j 0 ≤ (g j : Int)
  | 0, i, F, tb, hb, hq, h1, h2 => ⟨hb, fun j hj => h1 j (by omega), fun _ _ => rfl, fun g _ _ j h3 h4 => by omega⟩
  | q + 1, i, F, tb, hb, hq, h1, h2 => by
    have hi : i < n := by omega
    have hiF : i < F.length := by rw [tb.hF]; exact hi
    obtain ⟨g0, hg0, hc0⟩ := ok_feas tb hb.ok
    rw [hb.cost] at hc0
    obtain ⟨k0, e1, _, e3, e4⟩ := fixL_spec tb hb hi (h2 i (Nat.le_refl _) hi) hg0 hc0 m 0 F (fun _ => rfl) (Nat.zero_le _) (by have := hg0.asg.lt i hi; omega)
    rw [fixE, e1]
    obtain ⟨r1, r2, r3, r4⟩ := fixE_spec q (i + 1) (F.set i (k0 : Int)) (tb.put i _) e3 (by omega) (fun j hj => by
      rw [gset hiF]; split
      · omega
      · exact h1 j (by omega)) (fun j hj hjn => by
      rw [gset hiF, if_neg (by omega)]; exact h2 j (by omega) hjn)
    have hRi : (fixE T best n m q (i + 1) (F.set i (k0 : Int))).getD i 0 = (k0 : Int) := by
      rw [r3 i (by omega), gset hiF, if_pos rfl]
    refine ⟨r1, r2, fun j hj => ?_, fun g hg hc j hj hjn hl => ?_⟩
    · rw [r3 j (by omega), gset hiF, if_neg (by omega)]
    · by_cases e : j = i
      · subst e
        rw [hRi]
        have := e4 g hg hc (Nat.zero_le _)
        omega
      · have hgi : (g i : Int) = k0 := by rw [← hl i (Nat.le_refl _) (by omega), hRi]
        refine r4 g ?_ hc j (by omega) hjn fun l h5 h6 => hl l (by omega) h6
        rw [← hgi]
        exact hg.put hiF
end Go.Abs.L38
namespace Go.Abs.L38
open Go Go.Abs Go.Proofs Go.Abs.Hung
set_option linter.unusedVariables false
set_option maxRecDepth 20000
/-! ### the laws, without the program -/
theorem mem_getD {l : List Int} {x : Int} (h : x ∈ l) : ∃ i, i < l.length ∧ l.getD i 0 = x := by
  obtain ⟨i, hi, e⟩ := List.mem_iff_getElem.1 h
  exact ⟨i, hi, by rw [List.getD_eq_getElem?_getD, List.getElem?_eq_getElem hi, e]; rfl⟩
theorem getD_mem {l : List Int} {i : Nat} (h : i < l.length) : l.getD i 0 ∈ l := by
  rw [List.getD_eq_getElem?_getD, List.getElem?_eq_getElem h]; simp
theorem vR_false {ri : Int} {k : List Int} : ∀ {t : List Int} {j : Nat}, vR ri k t j = false ↔ ∀ i, i < t.length → 0 ≤ t.getD i 0 → ri + k.getD (j + i) 0 ≤ t.getD i 0
  | [], j => by simp [vR]
  | c :: t, j => by
    rw [vR, Bool.or_eq_false_iff, vR_false]
    constructor
    · rintro ⟨h1, h2⟩ i hi hc
      cases i with
      | zero =>
        simp only [List.getD_cons_zero, Nat.add_zero] at hc ⊢
        simp only [Bool.and_eq_false_iff, decide_eq_false_iff_not] at h1
        omega
      | succ i =>
        simp only [List.getD_cons_succ] at hc ⊢
        have := h2 i (by simpa using hi) hc
        rw [show j + (i + 1) = j + 1 + i by omega]; exact this
    · intro h
      refine ⟨?_, fun i hi hc => ?_⟩
      · have := h 0 (by simp)
        simp only [List.getD_cons_zero, Nat.add_zero] at this
        simp only [Bool.and_eq_false_iff, decide_eq_false_iff_not]
        omega
      · have := h (i + 1) (by simpa using hi)
        simp only [List.getD_cons_succ] at this
        rw [show j + 1 + i = j + (i + 1) by omega]; exact this hc
theorem vT_false {r k : List Int} : ∀ {T : List (List Int)} {i : Nat}, vT r k T i = false ↔ ∀ l, l < T.length → ∀ j, j < (T.getD l []).length → 0 ≤ (T.getD l []).getD j 0 → r.getD (i + l) 0 + k.getD j 0 ≤ (T.getD l []).getD j 0
  | [], i => by simp [vT]
  | t :: T, i => by
    rw [vT, Bool.or_eq_false_iff, vR_false, vT_false]
    constructor
    · rintro ⟨h1, h2⟩ l hl j hj hc
      cases l with
      | zero =>
        simp only [List.getD_cons_zero, Nat.add_zero] at hj hc ⊢
        have := h1 j hj hc
        rwa [Nat.zero_add] at this
      | succ l =>
        simp only [List.getD_cons_succ] at hj hc ⊢
        have := h2 l (by simpa using hl) j hj hc
        rw [show i + (l + 1) = i + 1 + l by omega]; exact this
    · intro h
      refine ⟨fun j hj hc => ?_, fun l hl j hj hc => ?_⟩
      · have := h 0 (by simp) j (by simpa using hj) (by simpa using hc)
        simpa using this
      · have := h (l + 1) (by simpa using hl) j (by simpa using hj) (by simpa using hc)
        simp only [List.getD_cons_succ] at this
        rw [show i + 1 + l = i + (l + 1) by omega]; exact this
theorem lsum_sm : ∀ {l : List Int} , lsum l = sm (fun i => l.getD i 0) (List.range l.length)
  | [] => rfl
  | x :: l => by
    rw [lsum, lsum_sm (l := l), List.length_cons, List.range_succ_eq_map, sm, sm_map]
    rfl
/-- what the free table allows -/
theorem feas_free {T : List (List Int)} {m : Nat} {g : Nat → Nat} : Feas T (freeL T) T.length m g ↔ Asg T.length m g ∧ ∀ i, i < T.length → 0 ≤ (T.getD i []).getD (g i) 0 := by
  constructor
  · exact fun h => ⟨h.asg, h.pos⟩
  · rintro ⟨h1, h2⟩
    exact ⟨h1, h2, fun i hi => .inl (by rw [rep_getD' _ _ hi]; decide)⟩
theorem prv_of {T : List (List Int)} {t0 : List Int} (hc : chkE T = 0) (R : TabR T t0) : (prvE T = 0 ↔ okP T (freeL T) T.length t0.length = true) ∧ (prvE T = 0 ∨ prvE T = 24) := by
  have eH : colsN T = t0.length := by rw [colsN, headD_of R]
  rw [prvE, if_neg (by rw [hc]; simp), eH]
  split
  · rename_i h; simp [h]
  · rename_i h; simp [h]
theorem chk_of_prv {T : List (List Int)} (h : prvE T = 0) : chkE T = 0 := by
  rw [prvE] at h
  split at h
  · cases h
  · rename_i h2; simpa using h2
structure Chp (T : List (List Int)) (m : Nat) (g : Nat → Nat) : Prop where
  feas : Feas T (freeL T) T.length m g
  list : chpL T = (List.range T.length).map fun i => (g i : Int)
  cost : costT T T.length g = chpC T
  least : ∀ g', Feas T (freeL T) T.length m g' → chpC T ≤ costT T T.length g'
  first : ∀ g', Feas T (freeL T) T.length m g' → costT T T.length g' = chpC T → ∀ j, j < T.length → (∀ l, l < j → g l = g' l) → g j ≤ g' j
theorem chp_spec {T : List (List Int)} {t0 : List Int} (h : prvE T = 0) (R : TabR T t0) : ∃ g, Chp T t0.length g := by
  have hc := chk_of_prv h
  have ho := (prv_of hc R).1.1 h
  have eH : colsN T = t0.length := by rw [colsN, headD_of R]
  have tb : Tb T (freeL T) T.length t0.length := tb_of R (by simp)
  have hC : chpC T = (finP T (freeL T) T.length t0.length).2 := by rw [chpC, if_neg (by rw [h]; simp), eH]
  have hL : chpL T = fixE T (chpC T) T.length t0.length T.length 0 (freeL T) := by rw [chpL, if_neg (by rw [h]; simp), eH, hC]
  have hb : Best T (freeL T) T.length t0.length (chpC T) := ⟨ho, hC.symm⟩
  obtain ⟨r1, r2, _, r4⟩ := fixE_spec (T := T) (n := T.length) (m := t0.length) T.length 0 (freeL T) tb hb (by omega) (fun j hj => by omega) (fun j _ hj => by rw [rep_getD' _ _ hj]; decide)
  rw [← hL] at r1 r2 r4
  have hlen : (chpL T).length = T.length := by rw [hL, fixE_len]; simp
  have tb' : Tb T (chpL T) T.length t0.length := tb_of R hlen
  obtain ⟨g, hg, hgc⟩ := ok_feas tb' r1.ok
  have hgj : ∀ j, j < T.length → (chpL T).getD j 0 = (g j : Int) := by
    intro j hj
    rcases hg.fit j hj with h1 | h1
    · have := r2 j hj; omega
    · exact h1
  have hfree : Feas T (freeL T) T.length t0.length g := feas_free.2 ⟨hg.asg, hg.pos⟩
  refine ⟨g, hfree, ?_, by rw [hgc, r1.cost], fun g' hg' => hb.le tb hg', fun g' hg' hc' j hj hl => ?_⟩
  · refine List.ext_getElem (by simp [hlen]) fun j h1 h2 => ?_
    have := hgj j (by omega)
    rw [List.getD_eq_getElem?_getD, List.getElem?_eq_getElem h1, Option.getD_some] at this
    simp [this]
  · have := r4 g' hg' hc' j (Nat.zero_le _) hj fun l _ hlj => by rw [hgj l (by omega), hl l hlj]
    rw [hgj j hj] at this
    omega
theorem none_of {T : List (List Int)} {t0 : List Int} (hc : chkE T = 0) (R : TabR T t0) (h : prvE T ≠ 0) (g : Nat → Nat) : ¬ Feas T (freeL T) T.length t0.length g := by
  intro hg
  exact h ((prv_of hc R).1.2 (feas_ok (tb_of R (by simp)) hg).1)
/-- the duals fit and reach the cost -/
theorem duals {T : List (List Int)} {t0 : List Int} (h : prvE T = 0) (R : TabR T t0) : bndC T (prvU T) (prvV T) = 0 ∧ bndE T (prvU T) (prvV T) = chpC T := by
  have hc := chk_of_prv h
  have ho := (prv_of hc R).1.1 h
  have eH : colsN T = t0.length := by rw [colsN, headD_of R]
  have tb : Tb T (freeL T) T.length t0.length := tb_of R (by simp)
  have hnm : T.length ≤ t0.length := by
    rw [okP] at ho
    split at ho
    · cases ho
    · omega
  have hn := R.n
  have M := (phE_ok tb hnm).2
  have hU : prvU T = (phE T (freeL T) T.length t0.length).u.drop 1 := by rw [prvU, if_neg (by rw [h]; simp), duU, eH, if_neg (by omega)]
  have hV : prvV T = (phE T (freeL T) T.length t0.length).v.drop 1 := by rw [prvV, if_neg (by rw [h]; simp), duV, eH, if_neg (by omega)]
  have hC : chpC T = (finP T (freeL T) T.length t0.length).2 := by rw [chpC, if_neg (by rw [h]; simp), eH]
  rw [fin_cost tb hnm] at hC
  generalize phE T (freeL T) T.length t0.length = s at *
  have lU : (prvU T).length = T.length := by rw [hU, List.length_drop, M.lu]; omega
  have lV : (prvV T).length = t0.length := by rw [hV, List.length_drop, M.lv]; omega
  have gU : ∀ i, (prvU T).getD i 0 = s.u.getD (i + 1) 0 := fun i => by rw [hU, List.getD_eq_getElem?_getD, List.getElem?_drop, List.getD_eq_getElem?_getD, Nat.add_comm]
  have gV : ∀ i, (prvV T).getD i 0 = s.v.getD (i + 1) 0 := fun i => by rw [hV, List.getD_eq_getElem?_getD, List.getElem?_drop, List.getD_eq_getElem?_getD, Nat.add_comm]
  have hA : (T.length : Int) * 1048576 ≤ 16777216 := by omega
  have hX : bndX T (prvU T) (prvV T) = false := by
    unfold bndX
    rw [headD_of R]
    simp only [Bool.or_eq_false_iff, decide_eq_false_iff_not, Classical.not_not]
    refine ⟨⟨⟨⟨lU, lV⟩, ?_⟩, ?_⟩, ?_⟩
    · rw [List.any_eq_false]
      intro x hx
      obtain ⟨i, hi, rfl⟩ := mem_getD hx
      rw [gU]
      have := M.hu (i + 1)
      simp only [badR, Bool.or_eq_true, decide_eq_true_eq]
      omega
    · rw [List.any_eq_false]
      intro x hx
      obtain ⟨i, hi, rfl⟩ := mem_getD hx
      rw [gV]
      have := M.hv (i + 1)
      simp only [badK, Bool.or_eq_true, decide_eq_true_eq]
      omega
    · rw [vT_false]
      intro l hl j hj hp
      have hlen : (T.getD l []).length = t0.length := R.len _ (by rw [List.getD_eq_getElem?_getD, List.getElem?_eq_getElem hl]; simp)
      rw [Nat.zero_add, gU, gV]
      have := M.feas (l + 1) (j + 1) (by omega) (by omega) (by omega) (by omega)
      rw [Nat.add_sub_cancel, Nat.add_sub_cancel, atE, if_pos ⟨hp, .inl (by rw [rep_getD' _ _ hl]; decide)⟩] at this
      exact this
  rw [bndC, if_neg (by rw [hc]; simp), if_neg (by rw [hX]; simp), bndE, if_neg (by rw [hc]; simp), if_neg (by rw [hX]; simp)]
  refine ⟨rfl, ?_⟩
  obtain ⟨g, _, _, _, e1, e2⟩ := M.asg
  rw [hC, e1, e2, lsum_sm, lsum_sm, lU, lV]
  congr 1
  · exact sm_congr fun i _ => gU i
  · exact sm_congr fun i _ => gV i
end Go.Abs.L38
namespace Go.Abs.L38
open Go Go.Abs Go.Proofs Go.Abs.Hung
set_option linter.unusedVariables false
set_option maxRecDepth 20000
theorem anyR_false {f : Nat → Bool} {n : Nat} : anyR f 0 n = false ↔ ∀ i, i < n → f i = false := by
  unfold anyR
  rw [Nat.sub_zero, List.any_eq_false]
  constructor
  · intro h i hi
    have := h i (by simp [List.mem_range'_1, hi])
    simpa using this
  · intro h i hi
    have := h i (by simp [List.mem_range'_1] at hi; exact hi)
    simp [this]
theorem sumR_sm {f : Nat → Int} {n : Nat} : sumR f 0 n = sm f (List.range n) := by
  have : ∀ l : List Nat, (l.map f).sum = sm f l := by
    intro l
    induction l with
    | nil => rfl
    | cons a l ih => rw [List.map_cons, List.sum_cons, sm, ih]
  rw [sumR, Nat.sub_zero, this, ← List.range_eq_range']
theorem plan_getD {n i : Nat} {g : Nat → Nat} (hi : i < n) : ((List.range n).map fun i => (g i : Int)).getD i 0 = (g i : Int) := by
  rw [List.getD_eq_getElem?_getD, List.getElem?_map, List.getElem?_range hi]; rfl
theorem cst_of {T : List (List Int)} {t0 : List Int} {g : Nat → Nat} (hc : chkE T = 0) (R : TabR T t0) (hg : Feas T (freeL T) T.length t0.length g) : cstE T ((List.range T.length).map fun i => (g i : Int)) = (costT T T.length g, 0) := by
  have hlen : ((List.range T.length).map fun i => (g i : Int)).length = T.length := by simp
  have hp : ∀ i, i < T.length → ((List.range T.length).map fun i => (g i : Int)).getD i 0 = (g i : Int) := fun i hi => plan_getD hi
  generalize (List.range T.length).map (fun i => (g i : Int)) = p at *
  have hv : ∀ i, i < T.length → cVal T p i = (T.getD i []).getD (g i) 0 := fun i hi => by rw [cVal, hp i hi, Int.toNat_natCast]
  have b1 : p.any (badP (T.headD []).length) = false := by
    rw [headD_of R, List.any_eq_false]
    intro x hx
    obtain ⟨i, hi, rfl⟩ := mem_getD hx
    rw [hp i (by omega)]
    have := hg.asg.lt i (by omega)
    simp only [badP, Bool.or_eq_true, decide_eq_true_eq]
    omega
  have b2 : anyR (dupP p) 0 p.length = false := by
    rw [anyR_false]
    intro i hi
    rw [dup_any (by omega), anyR_false]
    intro k hk
    rw [hp i (by omega), hp k (by omega)]
    have : g i ≠ g k := fun e => by have := hg.asg.inj i k (by omega) (by omega) e; omega
    simp; omega
  have b3 : anyR (voidP T p) 0 p.length = false := by
    rw [anyR_false]
    intro i hi
    rw [voidP, hv i (by omega)]
    have := hg.pos i (by omega)
    exact decide_eq_false (by omega)
  rw [cstE, if_neg (by rw [hc]; simp), if_neg (by omega), if_neg (by rw [b1]; simp), if_neg (by rw [b2]; simp), if_neg (by rw [b3]; simp), hlen, sumR_sm, costT]
  congr 1
  exact sm_congr fun i hi => hv i (List.mem_range.1 hi)
theorem of_cst {T : List (List Int)} {t0 p : List Int} (R : TabR T t0) (h : (cstE T p).2 = 0) : ∃ g, Feas T (freeL T) T.length t0.length g ∧ p = (List.range T.length).map (fun i => (g i : Int)) ∧ (cstE T p).1 = costT T T.length g := by
  rw [cstE] at h ⊢
  split at h
  · cases h
  rename_i h0
  split at h
  · cases h
  rename_i h1
  split at h
  · cases h
  rename_i h2
  split at h
  · cases h
  rename_i h3
  split at h
  · cases h
  rename_i h4
  rw [if_neg h0, if_neg h1, if_neg h2, if_neg h3, if_neg h4]
  have h1 : p.length = T.length := by simpa using h1
  have h2 : p.any (badP t0.length) = false := by rw [headD_of R] at h2; simpa using h2
  have h3 : anyR (dupP p) 0 p.length = false := by simpa using h3
  have h4 : anyR (voidP T p) 0 p.length = false := by simpa using h4
  rw [anyR_false] at h3 h4
  have hr : ∀ i, i < p.length → 0 ≤ p.getD i 0 ∧ p.getD i 0 < (t0.length : Int) := by
    intro i hi
    have := List.any_eq_false.1 h2 _ (getD_mem hi)
    simp only [badP, Bool.or_eq_true, decide_eq_true_eq, not_or] at this
    omega
  have hd : ∀ i k, i < p.length → k < i → p.getD i 0 ≠ p.getD k 0 := by
    intro i k hi hk e
    have := h3 i hi
    rw [dup_any (by omega), anyR_false] at this
    have := this k hk
    rw [e] at this
    simp at this
  refine ⟨fun i => (p.getD i 0).toNat, feas_free.2 ⟨⟨fun i hi => ?_, fun i k hi hk e => ?_⟩, fun i hi => ?_⟩, ?_, ?_⟩
  · have := hr i (by omega)
    show (p.getD i 0).toNat < t0.length
    omega
  · have e : (p.getD i 0).toNat = (p.getD k 0).toNat := e
    have a1 := hr i (by omega)
    have a2 := hr k (by omega)
    have e2 : p.getD i 0 = p.getD k 0 := by omega
    rcases Nat.lt_trichotomy i k with hlt | heq | hgt
    · exact absurd e2.symm (hd k i (by omega) hlt)
    · exact heq
    · exact absurd e2 (hd i k (by omega) hgt)
  · have := h4 i (by omega)
    simp only [voidP, decide_eq_false_iff_not] at this
    show 0 ≤ cVal T p i
    omega
  · refine List.ext_getElem (by simp [h1]) fun j j1 j2 => ?_
    have := hr j j1
    rw [List.getElem_map, List.getElem_range]
    have e : p.getD j 0 = p[j] := by rw [List.getD_eq_getElem?_getD, List.getElem?_eq_getElem j1]; rfl
    rw [← e]
    show p.getD j 0 = (((p.getD j 0).toNat : Nat) : Int)
    omega
  · show sumR (cVal T p) 0 p.length = _
    rw [sumR_sm, h1]; rfl
end Go.Abs.L38
