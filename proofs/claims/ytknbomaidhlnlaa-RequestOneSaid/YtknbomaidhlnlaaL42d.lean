import Derived.Test.YtknbomaidhlnlaaL42c
namespace Go.Abs.L42
open Go Go.Abs Go.Proofs
set_option linter.unusedVariables false
set_option maxRecDepth 20000
/-- what makes a list right, pair by pair -/
structure Valid (l : List Req) : Prop where
  len : l.length ≤ 256
  form : ∀ (i : Nat) a, l[i]? = some a → formedB a = true
  ord : ∀ (i j : Nat) a b, i < j → l[i]? = some a → l[j]? = some b → a.id < b.id ∧ a.dy ≤ b.dy
  lent : ∀ (i j : Nat) a b, i < j → l[i]? = some a → l[j]? = some b → ¬ (a.st = 2 ∧ b.st = 2 ∧ a.bx = b.bx)
  dbl : ∀ (i j : Nat) a b, i < j → l[i]? = some a → l[j]? = some b → ¬ (openB a = true ∧ openB b = true ∧ a.rd = b.rd ∧ a.un = b.un)
theorem dys_le {l : List Req} (h : checkE l = 0) : ∀ (j i : Nat) a b, i < j → l[i]? = some a → l[j]? = some b → a.dy ≤ b.dy
  | 0, i, a, b, hij, _, _ => by omega
  | j + 1, i, a, b, hij, ha, hb => by
    have hjl : j + 1 < l.length := (List.getElem?_eq_some_iff.1 hb).1
    obtain ⟨p, hp⟩ : ∃ p, l[j]? = some p := ⟨l[j], by simp⟩
    have hbo := (err1_iff.1 ((check_iff.1 h).2 (j + 1) b hb)).2.1
    rw [badOrd_i (by omega) (by omega) hp] at hbo
    simp at hbo
    by_cases e : i = j
    · subst e; rw [ha] at hp; injection hp with hp; subst hp; omega
    · have := dys_le h j i a p (by omega) ha hp
      omega
theorem valid_iff {l : List Req} : checkE l = 0 ↔ Valid l := by
  constructor
  · intro h
    refine ⟨check_len h, fun i a ha => mem_formed h a (List.mem_of_getElem? ha), fun i j a b hij ha hb => ⟨ids_lt h j i a b hij ha hb, dys_le h j i a b hij ha hb⟩, fun i j a b hij ha hb hc => ?_, fun i j a b hij ha hb hc => ?_⟩
    · have := (err1_iff.1 ((check_iff.1 h).2 j b hb)).2.2.1
      have hl : lentP (l.take j) b.bx = true := List.any_eq_true.2 ⟨a, mem_take ha hij, by simp [hc.1, hc.2.2]⟩
      simp [hl, hc.2.1] at this
    · have := (err1_iff.1 ((check_iff.1 h).2 j b hb)).2.2.2
      have hl : dblP (l.take j) b.rd b.un = true := List.any_eq_true.2 ⟨a, mem_take ha hij, by simp [hc.1, hc.2.2.1, hc.2.2.2]⟩
      simp [hl, hc.2.1] at this
  · intro h
    rw [check_iff]
    refine ⟨h.len, fun i a ha => err1_iff.2 ⟨h.form i a ha, ?_, ?_, ?_⟩⟩
    · have hil : i < l.length := (List.getElem?_eq_some_iff.1 ha).1
      by_cases h0 : i = 0
      · subst h0; rfl
      · obtain ⟨p, hp⟩ : ∃ p, l[i - 1]? = some p := ⟨l[i-1], by simp⟩
        rw [badOrd_i h0 (by omega) hp]
        have := h.ord (i - 1) i p a (by omega) hp ha
        simp; omega
    · cases hc : ((a.st == 2) && lentP (l.take i) a.bx) with
      | false => rfl
      | true =>
        exfalso
        simp only [Bool.and_eq_true, beq_iff_eq] at hc
        obtain ⟨x, hx, hp⟩ := List.any_eq_true.1 hc.2
        obtain ⟨k, hk⟩ := List.getElem?_of_mem hx
        rw [List.getElem?_take] at hk
        split at hk
        · rename_i hki
          simp at hp
          exact h.lent k i x a hki hk ha ⟨hp.1, hc.1, hp.2⟩
        · cases hk
    · cases hc : (openB a && dblP (l.take i) a.rd a.un) with
      | false => rfl
      | true =>
        exfalso
        simp only [Bool.and_eq_true] at hc
        obtain ⟨x, hx, hp⟩ := List.any_eq_true.1 hc.2
        obtain ⟨k, hk⟩ := List.getElem?_of_mem hx
        rw [List.getElem?_take] at hk
        split at hk
        · rename_i hki
          simp at hp
          exact h.dbl k i x a hki hk ha ⟨hp.1.1, hc.1, hp.1.2, hp.2⟩
        · cases hk
theorem set_get {l : List Req} {i k : Nat} {b x : Req} (h : (l.set i b)[k]? = some x) : (k = i ∧ x = b) ∨ (k ≠ i ∧ l[k]? = some x) := by
  rw [List.getElem?_set] at h
  by_cases e : i = k
  · rw [if_pos e] at h
    split at h
    · injection h with h; exact .inl ⟨e.symm, h.symm⟩
    · cases h
  · rw [if_neg e] at h; exact .inr ⟨fun e' => e e'.symm, h⟩
/-- a step that can be made, and what it leaves -/
theorem act_ok {l : List Req} {x n d : Int} {m : List Req} (h : actE l x n d = (m, 0)) : ∃ (i : Nat) (b : Req) (s : Int), checkE l = 0 ∧ l[i]? = some b ∧ b.id = n ∧ b.ch ≤ d ∧ d ≤ 1048575 ∧ m = l.set i { b with st := s, ch := d } ∧
    ((s = 2 ∧ canLend l i = true) ∨ (s = 3 ∧ b.st = 2) ∨ ((s = 4 ∨ s = 5) ∧ b.st = 1)) := by
  have key : ∀ s can, makeE s can l n d = (m, 0) → ∃ (i : Nat) (b : Req), checkE l = 0 ∧ l[i]? = some b ∧ b.id = n ∧ b.ch ≤ d ∧ d ≤ 1048575 ∧ m = l.set i { b with st := s, ch := d } ∧ can i = true := by
    intro s can hm
    unfold makeE at hm
    split at hm
    · injection hm with _ hm; cases hm
    · rename_i hc
      split at hm
      · injection hm with _ hm; cases hm
      · rename_i hi
        obtain ⟨i, b, hb, hbn, hie⟩ := index_get (l := l) (n := n) (by omega)
        have e1 : (indexE l n).toNat = i := by rw [hie]; simp
        rw [e1] at hm
        simp only [hb] at hm
        split at hm
        · injection hm with _ hm; cases hm
        · rename_i hd
          split at hm
          · injection hm with _ hm; cases hm
          · rename_i hcan
            injection hm with hm _
            simp at hd
            exact ⟨i, b, by simpa using hc, hb, hbn, by omega, by omega, hm.symm, by simpa using hcan⟩
  unfold actE at h
  split at h
  · obtain ⟨i, b, h1, h2, h3, h4, h5, h6, h7⟩ := key 2 (canLend l) h
    exact ⟨i, b, 2, h1, h2, h3, h4, h5, h6, .inl ⟨rfl, h7⟩⟩
  · split at h
    · obtain ⟨i, b, h1, h2, h3, h4, h5, h6, h7⟩ := key 3 (canSt l 2) h
      exact ⟨i, b, 3, h1, h2, h3, h4, h5, h6, .inr (.inl ⟨rfl, by simpa [canSt, h2] using h7⟩)⟩
    · obtain ⟨i, b, h1, h2, h3, h4, h5, h6, h7⟩ := key (dropSt (x == 2)) (canSt l 1) h
      refine ⟨i, b, _, h1, h2, h3, h4, h5, h6, .inr (.inr ⟨?_, by simpa [canSt, h2] using h7⟩)⟩
      cases (x == 2) <;> simp [dropSt]
theorem lend_facts {l : List Req} (hc : checkE l = 0) {i : Nat} {b : Req} (hb : l[i]? = some b) (h : canLend l i = true) : b.st = 1 ∧ lentP l b.bx = false ∧ ∀ (j : Nat) y, l[j]? = some y → y.st = 1 → y.bx = b.bx → i ≤ j := by
  simp only [canLend, hb, beq_iff_eq] at h
  unfold nextE at h
  split at h
  · omega
  · rename_i hnl
    rcases idxF_spec (fun x : Req => (x.st == 1) && (x.bx == b.bx)) l 0 with ⟨h1, _⟩ | ⟨k, a, h1, h2, h3, h4⟩
    · omega
    · rw [h3] at h
      have : k = i := by omega
      subst this
      rw [hb] at h1; injection h1 with h1; subst h1
      simp at h2
      refine ⟨h2, by simpa using hnl, fun j y hy hs hbx => ?_⟩
      by_cases hlt : j < k
      · have := h4 j y hlt hy
        simp [hs, hbx] at this
      · omega
theorem act_valid {l : List Req} {x n d : Int} {m : List Req} (h : actE l x n d = (m, 0)) : checkE m = 0 := by
  obtain ⟨i, b, s, hc, hb, hbn, hd1, hd2, rfl, hs⟩ := act_ok h
  have hv := valid_iff.1 hc
  rw [valid_iff]
  have hfb := formed_iff.1 (hv.form i b hb)
  have hs5 : s = 2 ∨ s = 3 ∨ s = 4 ∨ s = 5 := by rcases hs with h | h | h <;> omega
  have hopen : openB { b with st := s, ch := d } = true → s = 2 := by
    intro ho
    simp [openB] at ho
    omega
  have hlend : s = 2 → b.st = 1 ∧ lentP l b.bx = false := by
    intro e
    rcases hs with ⟨_, h⟩ | ⟨h, _⟩ | ⟨h, _⟩
    · have := lend_facts hc hb h; exact ⟨this.1, this.2.1⟩
    · omega
    · omega
  refine ⟨by simpa using hv.len, fun k a ha => ?_, fun k j a c hkj ha hcj => ?_, fun k j a c hkj ha hcj hcon => ?_, fun k j a c hkj ha hcj hcon => ?_⟩
  · rcases set_get ha with ⟨rfl, rfl⟩ | ⟨_, ha⟩
    · rw [formed_iff]
      exact ⟨hfb.1, hfb.2.1, hfb.2.2.1, hfb.2.2.2.1, hfb.2.2.2.2.1, hfb.2.2.2.2.2.1, hfb.2.2.2.2.2.2.1, by simp only; omega, by simp only; omega, by simp only; omega, by simp only; omega, fun e => by simp only at e; omega⟩
    · exact hv.form k a ha
  · rcases set_get ha with ⟨rfl, rfl⟩ | ⟨_, ha'⟩ <;> rcases set_get hcj with ⟨rfl, rfl⟩ | ⟨_, hcj'⟩
    · omega
    · exact hv.ord k j b c hkj hb hcj'
    · exact hv.ord k j a b hkj ha' hb
    · exact hv.ord k j a c hkj ha' hcj'
  · have nl : ∀ (k : Nat) a, s = 2 → l[k]? = some a → a.st = 2 → a.bx = b.bx → False := by
      intro k a e ha hst hbx
      have := (hlend e).2
      rw [lentP, List.any_eq_false] at this
      exact this a (List.mem_of_getElem? ha) (by simp [hst, hbx])
    rcases set_get ha with ⟨rfl, rfl⟩ | ⟨_, ha'⟩ <;> rcases set_get hcj with ⟨rfl, rfl⟩ | ⟨_, hcj'⟩
    · omega
    · exact nl j c hcon.1 hcj' hcon.2.1 hcon.2.2.symm
    · exact nl k a hcon.2.1 ha' hcon.1 hcon.2.2
    · exact hv.lent k j a c hkj ha' hcj' hcon
  · rcases set_get ha with ⟨rfl, rfl⟩ | ⟨_, ha'⟩ <;> rcases set_get hcj with ⟨rfl, rfl⟩ | ⟨_, hcj'⟩
    · omega
    · have hob : openB b = true := by simp [openB, (hlend (hopen hcon.1)).1]
      exact hv.dbl k j b c hkj hb hcj' ⟨hob, hcon.2.1, hcon.2.2⟩
    · have hob : openB b = true := by simp [openB, (hlend (hopen hcon.2.1)).1]
      exact hv.dbl k j a b hkj ha' hb ⟨hcon.1, hob, hcon.2.2⟩
    · exact hv.dbl k j a c hkj ha' hcj' hcon
theorem cnt_le {p q : Nat → Req → Bool} : ∀ {l m : List Req} {k : Nat}, l.length = m.length → (∀ (j : Nat) a b, l[j]? = some a → m[j]? = some b → q (k + j) b = true → p (k + j) a = true) → cnt q k m ≤ cnt p k l
  | [], [], k, _, _ => by simp [cnt]
  | [], _ :: _, k, h, _ => by simp at h
  | _ :: _, [], k, h, _ => by simp at h
  | a :: l, b :: m, k, h, hp => by
    have ih := cnt_le (p := p) (q := q) (l := l) (m := m) (k := k + 1) (by simpa using h) fun j a b ha hb => by
      have := hp (j + 1) a b (by simpa using ha) (by simpa using hb)
      rw [show k + (j + 1) = k + 1 + j by omega] at this; exact this
    have h0 := hp 0 a b (by simp) (by simp)
    simp only [Nat.add_zero] at h0
    simp only [cnt]
    cases hq : q k b with
    | false => simp only [Bool.false_eq_true, if_false]; split <;> omega
    | true => rw [h0 hq]; simp only [if_true]; omega
theorem act_near {l : List Req} {x n d : Int} {m : List Req} (h : actE l x n d = (m, 0)) {j : Nat} {y : Req} (hy : l[j]? = some y) (hst : y.st = 1) (hne : y.id ≠ n) : ∃ c, positionE m y.id = (c, 0) ∧ c ≤ cnt (posP j y) 0 l := by
  have hcm := act_valid h
  obtain ⟨i, b, s, hc, hb, hbn, hd1, hd2, rfl, hs⟩ := act_ok h
  have hij : i ≠ j := by
    rintro rfl
    rw [hb] at hy; injection hy with hy; subst hy; exact hne hbn
  have hym : (l.set i { b with st := s, ch := d })[j]? = some y := by rw [List.getElem?_set, if_neg hij]; exact hy
  refine ⟨_, position_of hcm hym hst, cnt_le (by simp) fun k a c ha hck hq => ?_⟩
  simp only [Nat.zero_add] at hq ⊢
  rcases set_get hck with ⟨rfl, rfl⟩ | ⟨_, hck⟩
  · rw [hb] at ha; injection ha with ha; subst ha
    simp only [posP, Bool.and_eq_true, beq_iff_eq, Bool.or_eq_true, decide_eq_true_eq, openB] at hq ⊢
    obtain ⟨⟨hbx, hkj⟩, hq⟩ := hq
    have e2 : s = 2 := by
      rcases hq with hq | ⟨_, hq | hq⟩
      · exact hq
      · rcases hs with h | h | h <;> omega
      · exact hq
    rcases hs with ⟨_, hcan⟩ | ⟨h, _⟩ | ⟨h, _⟩
    · obtain ⟨f1, _, f3⟩ := lend_facts hc hb hcan
      have := f3 j y hy hst hbx.symm
      exact ⟨⟨hbx, hkj⟩, .inr ⟨by omega, .inl f1⟩⟩
    · omega
    · omega
  · rw [ha] at hck; injection hck with hck; subst hck; exact hq
theorem place_ok {l : List Req} {r : Req} {m : List Req} (h : placeE l r = (m, 0)) : checkE l = 0 ∧ badP r = false ∧ badOrd l r = false ∧ dblP l r.rd r.un = false ∧ l.length < 256 ∧ m = l ++ [placeN r] := by
  unfold placeE at h
  split at h
  · injection h with _ h; cases h
  · rename_i hc
    split at h
    · injection h with _ h; cases h
    · rename_i h1
      split at h
      · injection h with _ h; cases h
      · rename_i h2
        split at h
        · injection h with _ h; cases h
        · rename_i h3
          split at h
          · injection h with _ h; cases h
          · rename_i h4
            injection h with h _
            exact ⟨by simpa using hc, by simpa using h1, by simpa using h2, by simpa using h3, by omega, h.symm⟩
theorem app_get {l : List Req} {p x : Req} {k : Nat} (h : (l ++ [p])[k]? = some x) : l[k]? = some x ∨ (k = l.length ∧ x = p) := by
  by_cases hk : k < l.length
  · rw [List.getElem?_append_left hk] at h; exact .inl h
  · rw [List.getElem?_append_right (by omega)] at h
    have : k - l.length = 0 := by
      cases hh : k - l.length with
      | zero => rfl
      | succ j => rw [hh] at h; simp at h
    rw [this] at h
    simp at h
    exact .inr ⟨by omega, h.symm⟩
theorem place_valid {l : List Req} {r : Req} {m : List Req} (h : placeE l r = (m, 0)) : checkE m = 0 := by
  obtain ⟨hc, h1, h2, h3, h4, rfl⟩ := place_ok h
  have hv := valid_iff.1 hc
  rw [valid_iff]
  simp only [badP, Bool.or_eq_false_iff, Bool.not_eq_false'] at h1
  obtain ⟨⟨⟨⟨b1, b2⟩, b3⟩, b4⟩, b5⟩ := h1
  have hlast : ∀ (k : Nat) a, l[k]? = some a → a.id < r.id ∧ a.dy ≤ r.dy := by
    intro k a ha
    have hkl : k < l.length := (List.getElem?_eq_some_iff.1 ha).1
    obtain ⟨p, hp⟩ : ∃ p, l[l.length - 1]? = some p := ⟨l[l.length - 1], by simp⟩
    rw [badOrd_last hp] at h2
    simp at h2
    by_cases e : k = l.length - 1
    · subst e; rw [ha] at hp; injection hp with hp; subst hp; omega
    · have := hv.ord k (l.length - 1) a p (by omega) ha hp
      omega
  refine ⟨by simp; omega, fun k a ha => ?_, fun k j a c hkj ha hcj => ?_, fun k j a c hkj ha hcj hcon => ?_, fun k j a c hkj ha hcj hcon => ?_⟩
  · rcases app_get ha with ha | ⟨_, rfl⟩
    · exact hv.form k a ha
    · rw [formed_iff]
      simp only [placeN]
      simp [idB] at b1
      simp [dayB] at b5
      exact ⟨by omega, by omega, b2, b3, b4, by omega, by omega, by omega, by omega, by omega, by omega, by simp⟩
  · rcases app_get ha with ha | ⟨e1, rfl⟩ <;> rcases app_get hcj with hcj | ⟨e2, rfl⟩
    · exact hv.ord k j a c hkj ha hcj
    · exact hlast k a ha
    · have := (List.getElem?_eq_some_iff.1 hcj).1; omega
    · omega
  · rcases app_get ha with ha | ⟨e1, rfl⟩ <;> rcases app_get hcj with hcj | ⟨e2, rfl⟩
    · exact hv.lent k j a c hkj ha hcj hcon
    · have := hcon.2.1; simp [placeN] at this
    · have := hcon.1; simp [placeN] at this
    · omega
  · rcases app_get ha with ha | ⟨e1, rfl⟩ <;> rcases app_get hcj with hcj | ⟨e2, rfl⟩
    · exact hv.dbl k j a c hkj ha hcj hcon
    · have : dblP l r.rd r.un = true := List.any_eq_true.2 ⟨a, List.mem_of_getElem? ha, by simp [hcon.1]; exact ⟨hcon.2.2.1, hcon.2.2.2⟩⟩
      rw [h3] at this; cases this
    · have := (List.getElem?_eq_some_iff.1 hcj).1; omega
    · omega
theorem cnt_app (p : Nat → Req → Bool) (x : Req) : ∀ (l : List Req) (k : Nat), cnt p k (l ++ [x]) = cnt p k l + (if p (k + l.length) x = true then 1 else 0)
  | [], k => by simp [cnt]
  | r :: l, k => by
    simp only [List.cons_append, cnt, List.length_cons]
    rw [cnt_app p x l (k + 1), show k + 1 + l.length = k + (l.length + 1) by omega]
    omega
theorem place_near {l : List Req} {r : Req} {m : List Req} (h : placeE l r = (m, 0)) {j : Nat} {y : Req} (hy : l[j]? = some y) (hst : y.st = 1) : positionE m y.id = (cnt (posP j y) 0 l, 0) := by
  have hcm := place_valid h
  obtain ⟨hc, h1, h2, h3, h4, rfl⟩ := place_ok h
  have hjl : j < l.length := (List.getElem?_eq_some_iff.1 hy).1
  have hym : (l ++ [placeN r])[j]? = some y := by rw [List.getElem?_append_left hjl]; exact hy
  rw [position_of hcm hym hst, cnt_app]
  have : posP j y (0 + l.length) (placeN r) = false := by
    simp [posP, placeN]
    intros; omega
  rw [this]; simp
end Go.Abs.L42
