import Derived.Test.YteihenhffdckiaaGreatDoorJ18
import Derived.Test.YteihenhffdckiaaGreatDoorFrza
section
namespace Go.Abs.Ltop
open Go Go.Abs
set_option linter.unusedVariables false
/-! ### the ledger behind one more move -/
theorem readGo_app {x : Lg} {ms : List Mv} {m : Mv} (h0 : (readGo x ms).2 = 0) : readGo x (ms ++ [m]) = (nextL (readGo x ms).1 m, nextE (readGo x ms).1 m) := by
  induction ms generalizing x with
  | nil =>
    show readGo x [m] = (nextL x m, nextE x m)
    by_cases h : nextE x m = 0
    · have e : readGo x [m] = (nextL x m, 0) := if_neg (fun k => k h)
      rw [e, h]
    · have e : readGo x [m] = (x, nextE x m) := if_pos h
      have e2 : nextL x m = x := if_neg h
      rw [e, e2]
  | cons a r ih =>
    by_cases h : nextE x a = 0
    · have e : readGo x (a :: r) = readGo (nextL x a) r := if_neg (fun k => k h)
      have e2 : readGo x (a :: r ++ [m]) = readGo (nextL x a) (r ++ [m]) := if_neg (fun k => k h)
      rw [e] at h0 ⊢
      rw [e2]
      exact ih h0
    · have e : readGo x (a :: r) = (x, nextE x a) := if_pos h
      rw [e] at h0
      exact absurd h0 h
theorem readE_app {ms : List Mv} {m : Mv} (h0 : (readE ms).2 = 0) (hl : ms.length < 1024) : readE (ms ++ [m]) = (nextL (readE ms).1 m, nextE (readE ms).1 m) := by
  have e1 : readE ms = readGo Lg0 ms := by unfold readE; rw [if_neg (by omega)]
  rw [e1] at h0 ⊢
  unfold readE
  rw [if_neg (by simp; omega), readGo_app h0]
theorem pget_put (b c : Int) (p : Int × Int) : ∀ l : Pl, pget b (pput c p l) = if b = c then p else pget b l
  | [] => by simp only [pput, pget]
  | x :: r => by
    simp only [pput]
    by_cases h : c = x.1
    · subst h
      rw [if_pos rfl]
      simp only [pget]
      by_cases h2 : b = x.1
      · simp [h2]
      · simp [h2]
    · rw [if_neg h]
      simp only [pget]
      by_cases h2 : b = x.1
      · subst h2
        rw [if_pos rfl, if_neg (fun e => h e.symm), if_pos rfl]
      · rw [if_neg h2, if_neg h2]
        exact pget_put b c p r
theorem read_day {ms : List Mv} (h : ∀ m ∈ ms, m.day = 0) : (readE ms).1.day = 0 := by
  have : ∀ (l : List Mv) (x : Lg), x.day = 0 → (∀ m ∈ l, m.day = 0) → (readGo x l).1.day = 0 := by
    intro l
    induction l with
    | nil => intro x hx _; exact hx
    | cons a r ih =>
      intro x hx hl
      simp only [readGo]
      split
      · exact hx
      · refine ih _ ?_ fun m hm => hl m (by simp [hm])
        unfold nextL; split
        · exact hl a (by simp)
        · exact hx
  unfold readE
  split
  · rfl
  · exact this ms Lg0 rfl h
/-! ### where the boxes stand: a list with a shelf, or 0, for each box -/
structure Rep (ls : List Sh) (bs : List Bx) (ms : List Mv) (x : List Int) : Prop where
  len : x.length = bs.length
  rd : (readE ms).2 = 0
  d0 : ∀ m ∈ ms, m.day = 0
  pl : ∀ (i : Nat) (b : Bx) (a : Int), bs[i]? = some b → x[i]? = some a → placeE ms b.id = if a = 0 then (0, 0) else (1, a)
  mb : ∀ m ∈ ms, (∃ b ∈ bs, b.id = m.box) ∧ (m.fk = 0 ∨ m.fk = 1 ∧ ∃ s ∈ ls, s.id = m.fo) ∧ (m.tk = 1 ∧ ∃ s ∈ ls, s.id = m.to)
  sh : ∀ a ∈ x, a = 0 ∨ ∃ s ∈ ls, s.id = a
theorem Rep.nil {ls : List Sh} {bs : List Bx} : Rep ls bs [] (List.replicate bs.length 0) :=
  ⟨by simp, rfl, by simp, fun i b a h1 h2 => by rw [List.getElem?_replicate] at h2; split at h2 <;> cases h2; rfl, by simp, fun a h => .inl (by simp [List.mem_replicate] at h; omega)⟩
theorem sid_bd {ls : List Sh} {bs : List Bx} (h : Hs ls bs) {s : Sh} (hs : s ∈ ls) : 1 ≤ s.id ∧ s.id ≤ 1073741824 ∧ 1 ≤ s.len ∧ s.len ≤ 10000 := by
  have := h.sb s hs
  unfold badS inB at this
  simp at this
  omega
abbrev mvOf (b : Int) (p : Int × Int) (s : Int) : Mv := ⟨0, b, p.1, p.2, 1, s⟩
theorem next_zero {x : Lg} {b : Int} {p : Int × Int} {s : Int} (hd : x.day = 0) (hb : isId b = true) (hp : isPlaceB p.1 p.2 = true) (hs : isId s = true) (hpl : pget b x.pl = p) (hne : p ≠ (1, s)) : nextE x (mvOf b p s) = 0 := by
  have h4 : isPlaceB 1 s = true := by unfold isPlaceB; rw [if_neg (by omega), if_pos (by omega)]; exact hs
  unfold nextE
  rw [if_neg, if_neg, if_neg, if_neg]
  · simp [hpl]
  · simp only; omega
  · rintro ⟨h1, h2⟩
    exact hne (Prod.ext h1 h2)
  · simp only [hb, hp, h4, or_false, Bool.true_eq_false]
    decide
theorem next_same {x : Lg} {b : Int} {s : Int} : nextE x (mvOf b (1, s) s) ≠ 0 := by
  unfold nextE
  split
  · decide
  · rw [if_pos ⟨rfl, rfl⟩]; decide
theorem isId_of {n : Int} (h1 : 1 ≤ n) (h2 : n ≤ 1073741824) : isId n = true := by unfold isId; simp; omega
theorem Rep.move {ls : List Sh} {bs : List Bx} {ms : List Mv} {x : List Int} (h : Hs ls bs) (r : Rep ls bs ms x) {i : Nat} {b : Bx} {a : Int} {s : Sh} (hb : bs[i]? = some b) (ha : x[i]? = some a) (hs : s ∈ ls) (hne : s.id ≠ a) (hl : ms.length < 1024) :
    nextE (readE ms).1 (mvOf b.id (placeE ms b.id) s.id) = 0 ∧ Rep ls bs (ms ++ [mvOf b.id (placeE ms b.id) s.id]) (x.set i s.id) := by
  have hp := r.pl i b a hb ha
  have hsb := sid_bd h hs
  have hbb := h.bw b (List.mem_of_getElem? hb)
  have hN : nextE (readE ms).1 (mvOf b.id (placeE ms b.id) s.id) = 0 := by
    refine next_zero (read_day r.d0) (isId_of hbb.2.2.1 hbb.2.2.2.1) ?_ (isId_of hsb.1 hsb.2.1) rfl ?_
    · rw [hp]
      rcases r.sh a (List.mem_of_getElem? ha) with rfl | ⟨t, ht, rfl⟩
      · rfl
      · have := sid_bd h ht
        rw [if_neg (by omega)]
        unfold isPlaceB
        rw [if_neg (by omega), if_pos (by omega)]
        exact isId_of this.1 this.2.1
    · rw [hp]
      split
      · simp
      · intro e; simp at e; exact hne e.symm
  have hR := readE_app (m := mvOf b.id (placeE ms b.id) s.id) r.rd hl
  refine ⟨hN, by rw [List.length_set]; exact r.len, by rw [hR]; exact hN, ?_, ?_, ?_, ?_⟩
  · intro m hm
    rcases List.mem_append.1 hm with hm | hm
    · exact r.d0 m hm
    · simp at hm; rw [hm]
  · intro j c a' hc ha'
    have e : placeE (ms ++ [mvOf b.id (placeE ms b.id) s.id]) c.id = if c.id = b.id then (1, s.id) else placeE ms c.id := by
      show pget c.id (readE (ms ++ [mvOf b.id (placeE ms b.id) s.id])).1.pl = _
      rw [hR]
      show pget c.id (nextL _ _).pl = _
      unfold nextL
      rw [if_pos hN]
      exact pget_put _ _ _ _
    rw [e]
    by_cases hij : c.id = b.id
    · have : j = i := bx_inj h.bp hc hb hij
      subst this
      rw [List.getElem?_set_self (List.getElem?_eq_some_iff.1 ha).1] at ha'
      cases ha'
      rw [if_pos hij, if_neg (by omega)]
    · rw [if_neg hij]
      refine r.pl j c a' hc ?_
      rw [List.getElem?_set_ne] at ha'
      · exact ha'
      · rintro rfl; rw [hb] at hc; cases hc; exact hij rfl
  · intro m hm
    rcases List.mem_append.1 hm with hm | hm
    · exact r.mb m hm
    · simp only [List.mem_singleton] at hm
      subst hm
      refine ⟨⟨b, List.mem_of_getElem? hb, rfl⟩, ?_, rfl, s, hs, rfl⟩
      show (placeE ms b.id).1 = 0 ∨ (placeE ms b.id).1 = 1 ∧ ∃ t ∈ ls, t.id = (placeE ms b.id).2
      rw [hp]
      rcases r.sh a (List.mem_of_getElem? ha) with rfl | ⟨t, ht, rfl⟩
      · exact .inl rfl
      · have := sid_bd h ht
        rw [if_neg (by omega)]
        exact .inr ⟨rfl, t, ht, rfl⟩
  · intro a' ha'
    rcases List.mem_or_eq_of_mem_set ha' with q | q
    · exact r.sh a' q
    · exact .inr ⟨s, hs, q.symm⟩
/-- the widths of the other boxes that stand on a shelf -/
def hsum (ms : List Mv) (b s : Int) : List Bx → Int
  | [] => 0
  | x :: r => (if x.id ≠ b ∧ placeE ms x.id = (1, s) then x.width else 0) + hsum ms b s r
theorem hsum_wid {ls : List Sh} {bs : List Bx} {ms : List Mv} {x : List Int} (h : Hs ls bs) (r : Rep ls bs ms x) {i : Nat} {b : Bx} (hb : bs[i]? = some b) {s : Int} (hs : s ≠ 0) : b.width + hsum ms b.id s bs = wid s (x.set i s) bs := by
  have key : ∀ (k : Nat) (cs : List Bx) (y : List Int), cs = bs.drop k → y = x.drop k → (if k ≤ i then b.width else 0) + hsum ms b.id s cs = wid s (if k ≤ i then y.set (i - k) s else y) cs := by
    intro k cs
    induction cs generalizing k with
    | nil =>
      intro y hc hy
      have : bs.length ≤ k := by
        have := congrArg List.length hc; simp at this; omega
      have := (List.getElem?_eq_some_iff.1 hb).1
      rw [if_neg (by omega), if_neg (by omega)]
      cases y <;> simp [hsum, wid]
    | cons c cs ih =>
      intro y hc hy
      have hk : k < bs.length := by
        have := congrArg List.length hc; simp at this; omega
      have hck : bs[k]? = some c := by
        have := congrArg (·[0]?) hc; simpa using this.symm
      have hcs : cs = bs.drop (k + 1) := by
        have := congrArg List.tail hc; simpa using this
      cases y with
      | nil =>
        have := congrArg List.length hy; simp at this; have := r.len; omega
      | cons a y =>
        have hak : x[k]? = some a := by
          have := congrArg (·[0]?) hy; simpa using this.symm
        have hy' : y = x.drop (k + 1) := by
          have := congrArg List.tail hy; simpa using this
        have := ih (k + 1) y hcs hy'
        have hp := r.pl k c a hck hak
        rcases Nat.lt_trichotomy k i with q | q | q
        · rw [if_pos (by omega), if_pos (by omega)] at this ⊢
          simp only [hsum]
          rw [show i - k = (i - (k + 1)) + 1 by omega, List.set_cons_succ]
          simp only [wid]
          rw [← this]
          have hne : c.id ≠ b.id := fun e => by have := bx_inj h.bp hck hb e; omega
          by_cases ha : a = s
          · have e1 : (if c.id ≠ b.id ∧ placeE ms c.id = (1, s) then c.width else 0) = c.width := if_pos ⟨hne, by rw [hp, ha, if_neg hs]⟩
            have e2 : (if a = s then c.width else 0) = c.width := if_pos ha
            omega
          · have e1 : (if c.id ≠ b.id ∧ placeE ms c.id = (1, s) then c.width else 0) = 0 := if_neg (by
              rintro ⟨_, e⟩
              rw [hp] at e
              by_cases h0 : a = 0
              · rw [if_pos h0] at e; simp at e
              · rw [if_neg h0] at e; simp at e; exact ha e)
            have e2 : (if a = s then c.width else 0) = 0 := if_neg ha
            omega
        · subst q
          have hcb : c = b := by rw [hck] at hb; exact Option.some.inj hb
          rw [if_neg (by omega), if_neg (by omega)] at this
          rw [if_pos (by omega), if_pos (by omega), Nat.sub_self, List.set_cons_zero]
          simp only [wid, hsum]
          have e1 : (if c.id ≠ b.id ∧ placeE ms c.id = (1, s) then c.width else 0) = 0 := if_neg (by simp [hcb])
          have e2 : (if True then c.width else 0) = c.width := if_pos trivial
          rw [e1, e2, hcb]
          omega
        · rw [if_neg (by omega), if_neg (by omega)] at this ⊢
          simp only [wid, hsum]
          rw [← this]
          have hne : c.id ≠ b.id := fun e => by have := bx_inj h.bp hck hb e; omega
          by_cases ha : a = s
          · have e1 : (if c.id ≠ b.id ∧ placeE ms c.id = (1, s) then c.width else 0) = c.width := if_pos ⟨hne, by rw [hp, ha, if_neg hs]⟩
            have e2 : (if a = s then c.width else 0) = c.width := if_pos ha
            omega
          · have e1 : (if c.id ≠ b.id ∧ placeE ms c.id = (1, s) then c.width else 0) = 0 := if_neg (by
              rintro ⟨_, e⟩
              rw [hp] at e
              by_cases h0 : a = 0
              · rw [if_pos h0] at e; simp at e
              · rw [if_neg h0] at e; simp at e; exact ha e)
            have e2 : (if a = s then c.width else 0) = 0 := if_neg ha
            omega
  have := key 0 bs x (by simp) (by simp)
  rw [if_pos (Nat.zero_le _), if_pos (Nat.zero_le _)] at this
  exact this
/-! ### states in which not all boxes stand on a shelf -/
def climP (ls : List Sh) : List Int → List Bx → Prop
  | a :: at', b :: bs => (a = 0 ∨ ∃ s ∈ ls, s.id = a ∧ s.clim = b.clim) ∧ climP ls at' bs
  | _, _ => True
structure OkP (ls : List Sh) (bs : List Bx) (x : List Int) : Prop where
  len : x.length = bs.length
  clim : climP ls x bs
  wid : ∀ s ∈ ls, wid s.id x bs ≤ s.len
theorem climP_set {ls : List Sh} {s : Sh} (hs : s ∈ ls) : ∀ {x : List Int} {bs : List Bx} {i : Nat} {b : Bx}, bs[i]? = some b → s.clim = b.clim → climP ls x bs → climP ls (x.set i s.id) bs
  | [], _, _, _, _, _, _ => by simp [climP]
  | a :: r, [], _, _, h, _, _ => by simp at h
  | a :: r, c :: bs, 0, b, h, hc, hx => by
    simp at h; subst h
    exact ⟨.inr ⟨s, hs, rfl, hc⟩, hx.2⟩
  | a :: r, c :: bs, i + 1, b, h, hc, hx => ⟨hx.1, climP_set hs (by simpa using h) hc hx.2⟩
theorem wid_le_set {bs : List Bx} (hw : ∀ b ∈ bs, 1 ≤ b.width) {s t : Int} (hne : t ≠ s) : ∀ (x : List Int) (i : Nat), wid t (x.set i s) bs ≤ wid t x bs := by
  induction bs with
  | nil => intro x i; cases x <;> cases i <;> simp [wid]
  | cons b bs ih =>
    intro x i
    cases x with
    | nil => simp
    | cons a r =>
      have hb := hw b (by simp)
      cases i with
      | zero =>
        simp only [List.set_cons_zero, wid]
        rw [if_neg (fun e => hne e.symm)]
        split <;> omega
      | succ i =>
        simp only [List.set_cons_succ, wid]
        have := ih (fun y hy => hw y (by simp [hy])) r i
        omega
theorem OkP.set {ls : List Sh} {bs : List Bx} {x : List Int} (h : Hs ls bs) (hx : OkP ls bs x) {i : Nat} {b : Bx} {s : Sh} (hb : bs[i]? = some b) (hs : s ∈ ls) (hc : s.clim = b.clim) (hw : Ltop.wid s.id (x.set i s.id) bs ≤ s.len) : OkP ls bs (x.set i s.id) := by
  refine ⟨by rw [List.length_set]; exact hx.len, climP_set hs hb hc hx.clim, fun t ht => ?_⟩
  by_cases e : t.id = s.id
  · obtain ⟨k, hk⟩ := List.getElem?_of_mem hs
    obtain ⟨j, hj⟩ := List.getElem?_of_mem ht
    have := sh_inj h.sp hj hk e
    subst this
    rw [hj] at hk; cases hk
    exact hw
  · exact Int.le_trans (wid_le_set (fun b hb => (h.bw b hb).1) e x i) (hx.wid t ht)
theorem OkAt.p {ls : List Sh} {bs : List Bx} {x : List Int} (hx : OkAt ls bs x) : OkP ls bs x := by
  refine ⟨hx.len, ?_, hx.wid⟩
  have : ∀ (x : List Int) (bs : List Bx), climOK ls x bs → climP ls x bs := by
    intro x
    induction x with
    | nil => intro bs _; simp [climP]
    | cons a r ih =>
      intro bs h
      cases bs with
      | nil => simp [climP]
      | cons b bs => exact ⟨.inr h.1, ih bs h.2⟩
  exact this x bs hx.clim
theorem OkP.at {ls : List Sh} {bs : List Bx} {x : List Int} (hx : OkP ls bs x) (h0 : ∀ a ∈ x, a ≠ 0) : OkAt ls bs x := by
  refine ⟨hx.len, ?_, hx.wid⟩
  have : ∀ (x : List Int) (bs : List Bx), (∀ a ∈ x, a ≠ 0) → climP ls x bs → climOK ls x bs := by
    intro x
    induction x with
    | nil => intro bs _ _; simp [climOK]
    | cons a r ih =>
      intro bs h0 h
      cases bs with
      | nil => simp [climOK]
      | cons b bs => exact ⟨h.1.resolve_left (h0 a (by simp)), ih bs (fun c hc => h0 c (by simp [hc])) h.2⟩
  exact this x bs h0 hx.clim
theorem clim_get {ls : List Sh} : ∀ {x : List Int} {bs : List Bx} {i : Nat} {b : Bx} {a : Int}, climOK ls x bs → bs[i]? = some b → x[i]? = some a → ∃ s ∈ ls, s.id = a ∧ s.clim = b.clim
  | [], _, _, _, _, _, _, h => by simp at h
  | c :: r, [], _, _, _, _, h, _ => by simp at h
  | c :: r, d :: bs, 0, b, a, h, hb, ha => by
    simp at hb ha; subst hb; subst ha
    exact h.1
  | c :: r, d :: bs, i + 1, b, a, h, hb, ha => clim_get h.2 (by simpa using hb) (by simpa using ha)
/-- the first k boxes stand where they shall, the others nowhere -/
def pref (k : Nat) (x : List Int) : List Int := x.take k ++ List.replicate (x.length - k) 0
theorem pref_zero (x : List Int) : pref 0 x = List.replicate x.length 0 := by simp [pref]
theorem pref_all (x : List Int) : pref x.length x = x := by simp [pref]
theorem pref_succ {x : List Int} {k : Nat} {a : Int} (h : x[k]? = some a) : (pref k x).set k a = pref (k + 1) x := by
  have hk := (List.getElem?_eq_some_iff.1 h).1
  unfold pref
  rw [List.set_append_right _ _ (by simp; omega)]
  rw [List.length_take, Nat.min_eq_left (by omega), Nat.sub_self, show x.length - k = (x.length - (k + 1)) + 1 by omega, List.replicate_succ, List.set_cons_zero, List.take_add_one, h]
  simp
theorem pref_get {x : List Int} {k : Nat} (hk : k < x.length) : (pref k x)[k]? = some 0 := by
  unfold pref
  rw [List.getElem?_append_right (by simp; omega), List.length_take, Nat.min_eq_left (by omega), Nat.sub_self, List.getElem?_replicate, if_pos (by omega)]
theorem wid_pref {bs : List Bx} (hw : ∀ b ∈ bs, 1 ≤ b.width) {s : Int} (hs : s ≠ 0) : ∀ (x : List Int) (k : Nat), wid s (pref k x) bs ≤ wid s x bs := by
  induction bs with
  | nil => intro x k; cases x <;> cases (pref k _) <;> simp [wid]
  | cons b bs ih =>
    intro x k
    cases x with
    | nil => simp [pref, wid]
    | cons a r =>
      have hb := hw b (by simp)
      have hn := wid_nn (bs := bs) (fun y hy => hw y (by simp [hy])) s r
      have i1 := ih (fun y hy => hw y (by simp [hy])) r
      cases k with
      | zero =>
        have := i1 0
        rw [pref_zero] at this ⊢
        simp only [List.length_cons, List.replicate_succ, wid]
        rw [if_neg (fun e => hs e.symm)]
        split <;> omega
      | succ k =>
        have := i1 k
        have e : pref (k + 1) (a :: r) = a :: pref k r := by simp [pref]
        rw [e]
        simp only [wid]
        omega
theorem climP_pref {ls : List Sh} : ∀ (x : List Int) (bs : List Bx) (k : Nat), climP ls x bs → climP ls (pref k x) bs
  | [], bs, k, _ => by simp [pref, climP]
  | a :: r, [], k, _ => by cases h : pref k (a :: r) <;> simp [climP]
  | a :: r, b :: bs, 0, h => by
    rw [pref_zero]
    have := climP_pref r bs 0 h.2
    rw [pref_zero] at this
    exact ⟨.inl rfl, this⟩
  | a :: r, b :: bs, k + 1, h => by
    have e : pref (k + 1) (a :: r) = a :: pref k r := by simp [pref]
    rw [e]
    exact ⟨h.1, climP_pref r bs k h.2⟩
theorem OkP.pref {ls : List Sh} {bs : List Bx} {x : List Int} (h : Hs ls bs) (hx : OkP ls bs x) (k : Nat) : OkP ls bs (pref k x) := by
  refine ⟨?_, climP_pref x bs k hx.clim, fun s hs => ?_⟩
  · have := hx.len
    simp [Ltop.pref]; omega
  · have := sid_bd h hs
    exact Int.le_trans (wid_pref (fun b hb => (h.bw b hb).1) (by omega) x k) (hx.wid s hs)
end Go.Abs.Ltop
end
section
namespace Go.Abs.Ltop
open Go Go.Abs
set_option linter.unusedVariables false
/-! ### the search: what is known of its entries and its queue -/
abbrev Ent := List Int × List Cy
def encE (ls : List Sh) (e : Ent) : List AV := [keyS ls e.1, NS e.1, YS e.2]
structure SI (ls : List Sh) (bs : List Bx) (frm : List Int) (E : List Ent) (q : List (List Int)) : Prop where
  fr : frm ∈ E.map (·.1)
  nd : (E.map (·.1)).Nodup
  pt : ∀ e ∈ E, PathR ls bs frm e.2 e.1
  ln : ∀ e ∈ E, e.2.length < E.length
  qi : ∀ x ∈ q, x ∈ E.map (·.1)
  cl : ∀ e ∈ E, e.1 ∈ q ∨ ∀ c y, StepR ls bs e.1 c y → y ∈ E.map (·.1)
variable {ls : List Sh} {bs : List Bx} {frm : List Int} {E : List Ent} {q : List (List Int)}
theorem SI.init : SI ls bs frm [(frm, [])] [frm] :=
  ⟨by simp, by simp, by intro e h; simp at h; subst h; exact .nil, by intro e h; simp at h; subst h; simp, by simp, by intro e h; simp at h; subst h; exact .inl (by simp)⟩
theorem SI.push (h : SI ls bs frm E q) {x y : List Int} {p : List Cy} {c : Cy} (he : (x, p) ∈ E) (hs : StepR ls bs x c y) (hy : y ∉ E.map (·.1)) : SI ls bs frm (E ++ [(y, p ++ [c])]) (q ++ [y]) := by
  refine ⟨?_, ?_, ?_, ?_, ?_, ?_⟩
  · rw [List.map_append]; exact List.mem_append_left _ h.fr
  · rw [List.map_append, List.nodup_append]
    refine ⟨h.nd, by simp, fun a ha b hb => ?_⟩
    simp at hb; subst hb
    rintro rfl
    exact hy ha
  · intro e hm
    rcases List.mem_append.1 hm with hm | hm
    · exact h.pt e hm
    · simp at hm; subst hm
      exact .snoc (h.pt _ he) hs
  · intro e hm
    rw [List.length_append]
    rcases List.mem_append.1 hm with hm | hm
    · have := h.ln e hm; simp; omega
    · simp at hm; subst hm
      have := h.ln _ he
      simp at this ⊢; omega
  · intro z hz
    rw [List.map_append]
    rcases List.mem_append.1 hz with hz | hz
    · exact List.mem_append_left _ (h.qi z hz)
    · exact List.mem_append_right _ (by simpa using hz)
  · intro e hm
    rcases List.mem_append.1 hm with hm | hm
    · rcases h.cl e hm with k | k
      · exact .inl (List.mem_append_left _ k)
      · refine .inr fun c' y' hs' => ?_
        rw [List.map_append]
        exact List.mem_append_left _ (k c' y' hs')
    · simp at hm; subst hm
      exact .inl (by simp)
theorem SI.pop {x : List Int} (h : SI ls bs frm E (x :: q)) (hc : ∀ c y, StepR ls bs x c y → y ∈ E.map (·.1)) : SI ls bs frm E q := by
  refine ⟨h.fr, h.nd, h.pt, h.ln, fun z hz => h.qi z (by simp [hz]), fun e he => ?_⟩
  rcases h.cl e he with k | k
  · rcases List.mem_cons.1 k with k | k
    · rw [k]; exact .inr hc
    · exact .inl k
  · exact .inr k
theorem SI.ok (h : SI ls bs frm E q) (hf : OkAt ls bs frm) : ∀ e ∈ E, OkAt ls bs e.1 := fun e he => (h.pt e he).ok hf
theorem SI.few (h : SI ls bs frm E q) (hh : Hs ls bs) (hf : OkAt ls bs frm) : E.length ≤ ls.length ^ bs.length := by
  have := states_few hh h.nd fun x hx => by
    obtain ⟨e, he, rfl⟩ := List.mem_map.1 hx
    exact h.ok hf e he
  simpa using this
theorem SI.done (h : SI ls bs frm E []) {p : List Cy} {z : List Int} (hp : PathR ls bs frm p z) : z ∈ E.map (·.1) := by
  refine closed_path (S := fun z => z ∈ E.map (·.1)) h.fr (fun y c z hy hs => ?_) hp
  obtain ⟨e, he, rfl⟩ := List.mem_map.1 hy
  rcases h.cl e he with k | k
  · cases k
  · exact k c z hs
/-- the plan that stands with a state -/
def planE (y : List Int) : List Ent → Option (List Cy)
  | [] => none
  | e :: E => if y = e.1 then some e.2 else planE y E
theorem planE_mem {y : List Int} : ∀ {E : List Ent} {p : List Cy}, planE y E = some p → (y, p) ∈ E
  | [], _, h => by cases h
  | e :: E, p, h => by
    simp only [planE] at h
    split at h
    · rename_i he; injection h with h; subst h; subst he; simp
    · exact List.mem_cons_of_mem _ (planE_mem h)
theorem planE_none {y : List Int} : ∀ {E : List Ent}, planE y E = none ↔ y ∉ E.map (·.1)
  | [] => by simp [planE]
  | e :: E => by
    simp only [planE, List.map_cons, List.mem_cons, not_or]
    by_cases he : y = e.1
    · rw [if_pos he]; simp [he]
    · rw [if_neg he, planE_none (E := E)]; simp [he]
theorem mget_E (hh : Hs ls bs) {y : List Int} (hy : OkAt ls bs y) : ∀ {E : List Ent}, (∀ e ∈ E, OkAt ls bs e.1) → mget (keyS ls y) (E.map (encE ls)) = (planE y E).map fun p => [NS y, YS p]
  | [], _ => rfl
  | e :: E, hE => by
    have hE' : ∀ e ∈ E, OkAt ls bs e.1 := fun e' h => hE e' (by simp [h])
    obtain ⟨x, p⟩ := e
    have hx := hE (x, p) (by simp)
    simp only [List.map_cons, encE, mget, planE]
    by_cases hxy : y = x
    · subst hxy
      rw [keyS_refl, if_pos rfl]; rfl
    · have hk : keyEq (keyS ls y) (keyS ls x) = false := by
        cases hk : keyEq (keyS ls y) (keyS ls x) with
        | false => rfl
        | true => exact absurd (keyS_inj hh hy.has hx.has hk) hxy
      simp only [hk]
      rw [if_neg hxy]
      exact mget_E hh hy hE'
theorem mput_E (hh : Hs ls bs) {y : List Int} (hy : OkAt ls bs y) {p : List Cy} : ∀ {E : List Ent}, (∀ e ∈ E, OkAt ls bs e.1) → planE y E = none → mput (keyS ls y) [NS y, YS p] (E.map (encE ls)) = (E ++ [(y, p)]).map (encE ls)
  | [], _, _ => rfl
  | e :: E, hE, hn => by
    have hE' : ∀ e ∈ E, OkAt ls bs e.1 := fun e' h => hE e' (by simp [h])
    obtain ⟨x, p'⟩ := e
    have hx := hE (x, p') (by simp)
    simp only [planE] at hn
    split at hn
    · cases hn
    · rename_i hxy
      have hxy : ¬ y = x := hxy
      simp only [List.map_cons, encE, mput, List.cons_append]
      have hk : keyEq (keyS ls y) (keyS ls x) = false := by
        cases hk : keyEq (keyS ls y) (keyS ls x) with
        | false => rfl
        | true => exact absurd (keyS_inj hh hy.has hx.has hk) hxy
      simp only [hk]
      exact congrArg _ (mput_E hh hy hE' hn)
/-- one step of the search -/
def stp (bs : List Bx) (x : List Int) (p : List Cy) (c : Cy) (E : List Ent) (q : List (List Int)) : List Ent × List (List Int) :=
  match planE (x.set (bxI bs c.box).toNat c.to) E with
  | some _ => (E, q)
  | none => (E ++ [(x.set (bxI bs c.box).toNat c.to, p ++ [c])], q ++ [x.set (bxI bs c.box).toNat c.to])
def inner (bs : List Bx) (x : List Int) (p : List Cy) : List Cy → List Ent → List (List Int) → List Ent × List (List Int)
  | [], E, q => (E, q)
  | c :: r, E, q => inner bs x p r (stp bs x p c E q).1 (stp bs x p c E q).2
def outer (ls : List Sh) (bs : List Bx) : Nat → List Ent → List (List Int) → List Ent
  | 0, E, _ => E
  | n + 1, E, [] => E
  | n + 1, E, x :: q => outer ls bs n (inner bs x ((planE x E).getD []) (stepsE ls bs x) E (x :: q)).1 (inner bs x ((planE x E).getD []) (stepsE ls bs x) E (x :: q)).2.tail
/-- what is known within the steps of a state -/
structure SJ (ls : List Sh) (bs : List Bx) (frm x : List Int) (p : List Cy) (j : Nat) (E0 : List Ent) (q0 : List (List Int)) (E : List Ent) (q : List (List Int)) : Prop where
  si : SI ls bs frm E q
  xp : (x, p) ∈ E
  hd : ∃ r, q = x :: r
  dn : ∀ c ∈ (stepsE ls bs x).take j, x.set (bxI bs c.box).toNat c.to ∈ E.map (·.1)
  ms : E0.length ≤ E.length ∧ E.length + q0.length = E0.length + q.length
theorem SJ.step (hh : Hs ls bs) (hf : OkAt ls bs frm) {x : List Int} {p : List Cy} {j : Nat} {E0 : List Ent} {q0 : List (List Int)} {c : Cy} (h : SJ ls bs frm x p j E0 q0 E q) (hc : (stepsE ls bs x)[j]? = some c) :
    SJ ls bs frm x p (j + 1) E0 q0 (stp bs x p c E q).1 (stp bs x p c E q).2 := by
  have hx : OkAt ls bs x := h.si.ok hf _ h.xp
  obtain ⟨_, _, hst⟩ := hh.mem hx (List.mem_of_getElem? hc)
  obtain ⟨r, hr⟩ := h.hd
  have ht : (stepsE ls bs x).take (j + 1) = (stepsE ls bs x).take j ++ [c] := by rw [List.take_add_one, hc]; rfl
  unfold stp
  cases hp : planE (x.set (bxI bs c.box).toNat c.to) E with
  | some p' =>
    refine ⟨h.si, h.xp, h.hd, fun d hd => ?_, h.ms⟩
    rw [ht] at hd
    rcases List.mem_append.1 hd with hd | hd
    · exact h.dn d hd
    · simp only [List.mem_singleton] at hd; subst hd
      exact List.mem_map.2 ⟨_, planE_mem hp, rfl⟩
  | none =>
    have hy := planE_none.1 hp
    refine ⟨h.si.push h.xp hst hy, List.mem_append_left _ h.xp, ⟨r ++ [x.set (bxI bs c.box).toNat c.to], by simp [hr]⟩, fun d hd => ?_, by have := h.ms; simp; omega⟩
    rw [ht] at hd
    rw [List.map_append]
    rcases List.mem_append.1 hd with hd | hd
    · exact List.mem_append_left _ (h.dn d hd)
    · simp only [List.mem_singleton] at hd; subst hd
      exact List.mem_append_right _ (by simp)
theorem SJ.all (hh : Hs ls bs) (hf : OkAt ls bs frm) {x : List Int} {p : List Cy} {E0 : List Ent} {q0 : List (List Int)} : ∀ (l : List Cy) (j : Nat) (E : List Ent) (q : List (List Int)), l = (stepsE ls bs x).drop j → SJ ls bs frm x p j E0 q0 E q →
    SJ ls bs frm x p (stepsE ls bs x).length E0 q0 (inner bs x p l E q).1 (inner bs x p l E q).2
  | [], j, E, q, hl, h => by
    refine ⟨h.si, h.xp, h.hd, fun c hc => h.dn c ?_, h.ms⟩
    have : (stepsE ls bs x).length ≤ j := by
      have := congrArg List.length hl; simp at this; omega
    rw [List.take_of_length_le (by omega)]
    rw [List.take_of_length_le (by omega)] at hc
    exact hc
  | c :: r, j, E, q, hl, h => by
    have hc : (stepsE ls bs x)[j]? = some c := by
      have := congrArg (·[0]?) hl; simpa using this.symm
    have hr : r = (stepsE ls bs x).drop (j + 1) := by
      have := congrArg List.tail hl; simpa using this
    exact SJ.all hh hf r (j + 1) _ _ hr (h.step hh hf hc)
theorem SJ.pop (hh : Hs ls bs) (hf : OkAt ls bs frm) {x : List Int} {p : List Cy} {E0 : List Ent} {q0 : List (List Int)} (h : SJ ls bs frm x p (stepsE ls bs x).length E0 q0 E q) : SI ls bs frm E q.tail := by
  obtain ⟨r, hr⟩ := h.hd
  have hs := h.si
  rw [hr] at hs ⊢
  refine hs.pop fun c y hst => ?_
  obtain ⟨h1, h2⟩ := hh.step hst
  rw [h2]
  exact h.dn c (by rw [List.take_of_length_le (Nat.le_refl _)]; exact h1)
theorem SI.start (h : SI ls bs frm E q) {x : List Int} {r : List (List Int)} (hq : q = x :: r) : ∃ p, planE x E = some p ∧ SJ ls bs frm x p 0 E q E q := by
  have hx := h.qi x (by rw [hq]; simp)
  cases hp : planE x E with
  | none => exact absurd hx (planE_none.1 hp)
  | some p => exact ⟨p, rfl, h, planE_mem hp, ⟨r, hq⟩, by simp, Nat.le_refl _, rfl⟩
theorem SI.outer (hh : Hs ls bs) (hf : OkAt ls bs frm) : ∀ (n : Nat) (E : List Ent) (q : List (List Int)), SI ls bs frm E q → 2 * (4096 - E.length) + q.length ≤ n → SI ls bs frm (outer ls bs n E q) []
  | n, E, [], h, _ => by cases n <;> exact h
  | 0, E, x :: q, _, h => by simp at h
  | n + 1, E, x :: q, h, hn => by
    obtain ⟨p, hp, hj⟩ := h.start rfl
    have ha := SJ.all hh hf (stepsE ls bs x) 0 E (x :: q) (by simp) hj
    simp only [Ltop.outer, hp, Option.getD_some]
    refine SI.outer hh hf n _ _ (ha.pop hh hf) ?_
    have h1 := ha.ms
    have h2 := (ha.pop hh hf).few hh hf
    have h3 := hh.sz
    obtain ⟨r, hr⟩ := ha.hd
    rw [hr] at h1 ⊢
    simp only [List.length_cons, List.tail_cons] at h1 hn ⊢
    omega
/-- all that is found from a state -/
def searchE (ls : List Sh) (bs : List Bx) (frm : List Int) : List Ent := outer ls bs 8192 [(frm, [])] [frm]
theorem search_SI (hh : Hs ls bs) (hf : OkAt ls bs frm) : SI ls bs frm (searchE ls bs frm) [] := SI.outer hh hf _ _ _ SI.init (by simp)
end Go.Abs.Ltop
end
section
namespace Go.Abs.Ltop
open Go Go.Abs Go.Proofs
set_option linter.unusedVariables false
set_option maxRecDepth 20000
theorem wrapU8 {n : Int} (h1 : 0 ≤ n) (h2 : n < 256) : IntKind.u8.wrap n = n := by
  unfold IntKind.wrap
  simp [IntKind.signed, IntKind.bits]
  omega
abbrev U8 (n : Int) : AV := .int .u8 n
/-- the indices of shelves, as cells -/
abbrev kyR (ls : List Sh) (x : List Int) : List (List AV) := (kyL ls x).map fun k => [U8 (Int.ofNat k)]
theorem u8s_map : ∀ l : List Nat, u8s (l.map fun k => U8 (Int.ofNat k)) = l.map Int.ofNat
  | [] => rfl
  | a :: r => by simp only [List.map_cons, u8s]; rw [u8s_map r]
abbrev OK25 (ls : List Sh) (bs : List Bx) (x : List Int) : List (Nat × OBlk) := [(32, ⟨89, 2, .any, [[SS ls, BS bs]], []⟩), (336, ⟨5, 1, .pure, kyR ls x, []⟩)]
theorem c25 (ls : List Sh) (bs : List Bx) (at' : List Int) (hl : ls.length ≤ 200) (hb : at'.length ≤ 1000) (hn : ∀ a ∈ at', ¬ shI ls a < 0) : Fn Tryz.prog 25 [HS ls bs, NS at'] (keyS ls at') := by
  refine mkG25 [] [] rfl ?_
  refine ⟨fun n c => ∃ i : Nat, i ≤ at'.length ∧ n = at'.length - i ∧ c = ⟨[(2, .ovar 32 0), (5, .osl 336 1 i), (8, NS at'), (9, I at'.length), (10, I i)], OK25 ls bs (at'.take i)⟩,
    ⟨_, _, (Wk.nilKeep 5 336 ⟨5, 1, .pure, [], []⟩ [2, 5, 8, 9, 10] [32, 336] rfl rfl rfl).p, 0, by omega, rfl, rfl⟩, ?_⟩
  rintro n c ⟨i, hi, rfl, rfl⟩
  refine ⟨fun hlt => ?_, fun hlt => ?_⟩
  · simp at hlt
    obtain ⟨a, ha, hd, ht⟩ := drop_cons hlt
    obtain ⟨s, _, _, hsl, hsn⟩ := shI_lt (hn a (List.mem_of_getElem? ha))
    refine ⟨⟨by omega, by omega⟩, [I a], by simp [ha], _, c47 ls bs a (by omega), _, wrapU8 (by omega) (by omega), ⟨by show (i + 1) * 1 ≤ 140737488355328; omega, by omega⟩, ?_⟩
    refine ⟨_, wrap64 (by omega) (by omega), ?_⟩
    refine ⟨_, _, WkP.keep [2, 5, 8, 9, 10] [32, 336], by omega, i + 1, by omega, rfl, ?_⟩
    have hr : kyR ls (at'.take (i + 1)) = (kyR ls (at'.take i)).take i ++ [[U8 (shI ls a)]] := by
      have h0 : (kyR ls (at'.take i)).take i = kyR ls (at'.take i) := List.take_of_length_le (by simp only [kyR, kyL, List.length_map, List.length_take]; omega)
      rw [h0, ht]
      simp only [kyR, kyL, List.map_append, List.map_cons, List.map_nil]
      rw [show (Int.ofNat (shI ls a).toNat) = shI ls a from hsn]
    show _ = (⟨[(2, .ovar 32 0), (5, .osl 336 1 (i + 1)), (8, NS at'), (9, I at'.length), (10, I ((i + 1 : Nat) : Int))], [(32, ⟨89, 2, .any, [[SS ls, BS bs]], []⟩), (336, ⟨5, 1, .pure, kyR ls (at'.take (i + 1)), []⟩)]⟩ : Cfg)
    rw [hr]
    rfl
  · simp at hlt
    have : i = at'.length := by omega
    subst this
    rw [List.take_length]
    refine ⟨(kyL ls at').map fun k => U8 (Int.ofNat k), ⟨by show (kyR ls at').take _ = _; rw [List.take_of_length_le (by simp [kyR, kyL])]; simp [kyR], fun u hu => ?_⟩, ?_⟩
    · obtain ⟨k, _, rfl⟩ := List.mem_map.1 hu
      exact ⟨_, rfl⟩
    · rw [u8s_map]
      exact ⟨_, WkP.refl _ _, rfl, rfl, rfl⟩
end Go.Abs.Ltop
end
section
namespace Go.Abs
open Go.RowKit
set_option linter.unusedVariables false
/-! ### an append to later rows of a block of one's own (a queue) -/
theorem addrAdd (g o j : Nat) : (⟨g, o, none⟩ : Addr).add j = ⟨g, o + j, none⟩ := by unfold Addr.add; split <;> simp_all
theorem run_append_room_at {P : Program} (w : World) (t ty e : TypeId) (i : TypeInfo) (ht : P.underlying t = some (.slice e)) (hi : P.info? e = some i)
    (g off sLen sCap : Nat) (cur : Array Value) (hg : w.heap[g]? = some (.cells cur e (0, 0)))
    (a : Addr) (m c : Nat) (news : List Value) (hl : news.length = m * i.size) (hnews : ∀ j u, news[j]? = some u → w.cell? (a.add j) = some u) (h1 : ∀ u ∈ news, u.oneCell' = true)
    (hroom : sLen + m ≤ sCap) (hfit : off + sLen * i.size + news.length ≤ cur.size) :
    (Builtin.append_ #[t, t] ty #[.slice (some ⟨g, off, none⟩) sLen sCap, .slice (some a) m c]).run P w =
      .ok (.slice (some ⟨g, off, none⟩) (sLen + m) sCap) (w.setRow g (cur.toList.take (off + sLen * i.size) ++ news ++ cur.toList.drop (off + sLen * i.size + news.length)).toArray) := by
  have hf := run_firstCells_some (P := P) w i.size m a m c news hl hnews
  have hst := run_storeCells_at P g (off + sLen * i.size) e news 0 cur w hg (by simpa using hfit) h1
  simp only [Nat.add_zero] at hst
  simp [Builtin.append_, run_underlying ht, sizeOf, typeInfo, hi, Builtin.lenOf, hroom, hf, Addr.add_lit, hst]
section
variable {P : Program} {T : Tab} {E : Env} {K : KM} {c : Cfg} {a : Act} {w : World}
theorem BlkR_app {X' : Nat → Prop} {K' : KM} {w' : World} {g sz e : Nat} {old rows : List (List AV)} {cells : Array Value} {news : List Value}
    (hc : w'.heap[g]? = some (.cells cells e (0, 0))) (hou : ∀ row ∈ old, row.length = sz) (hru : ∀ row ∈ rows, row.length = sz) (hnl : news.length = rows.length * sz)
    (h1 : ∀ (j : Nat) u, old.flatten[j]? = some u → ∃ y, cells[j]? = some y ∧ y.oneCell' = true ∧ VR w' X' K0 u y)
    (h2 : ∀ j, j < news.length → cells[old.length * sz + j]? = news[j]?) (hone : ∀ u ∈ news, u.oneCell' = true)
    (h3 : ∀ (j : Nat) u x, rows.flatten[j]? = some u → news[j]? = some x → VR w' X' K0 u x) : BlkR w' X' K' g { e := e, sz := sz, kd := .flat, rows := old ++ rows } := by
  refine ⟨cells, HoldsObj.mk (by intro ag st; simp) hc, fun j u hj => ?_⟩
  have hj : (old ++ rows).flatten[j]? = some u := hj
  rw [List.flatten_append] at hj
  rcases Nat.lt_or_ge j old.flatten.length with hlt | hge
  · rw [List.getElem?_append_left hlt] at hj
    exact h1 j u hj
  · rw [List.getElem?_append_right hge] at hj
    have hfo := flat_len hou
    have hjl := (List.getElem?_eq_some_iff.1 hj).1
    have hfr := flat_len hru
    have hjn : j - old.flatten.length < news.length := by rw [hnl, ← hfr]; exact hjl
    have hy : news[j - old.flatten.length]? = some news[j - old.flatten.length] := List.getElem?_eq_getElem hjn
    refine ⟨_, ?_, hone _ (List.getElem_mem hjn), h3 _ u _ hj hy⟩
    have := h2 _ hjn
    rw [hy] at this
    rw [← this, ← hfo]; congr 1; omega
end
theorem opx_append {P : Program} {T : Tab} {N : Nat} {ps : List Nat} {ops : Array Oper} {p : Nat} {c : Cfg} {o : Oper} {s x : Operand} {t d b sz lo n m e : Nat} {ti ei : TyI} {blk : OBlk} {rows : List (List AV)} {skd : Kd}
    (hT : TabOK P T) (h1 : TabOne T = true) (ho : ops[p]? = some o) (hop : o.op = .call { callee := .builtin .append, args := #[s, x], argTypes := #[t, t] }) (hd : o.dst = some d) (hg : o.guard = none)
    (hti : T.get t = some ti) (htk : ti.k = .slice e) (hei : T.get e = some ei) (hes : ei.size = sz) (hsz : 0 < sz)
    (hs : opv c s = .osuf b sz lo n) (hn : 0 < n) (hb : olk c.O b = some blk) (hbl : blk.rows.length = lo + n) (hbs : blk.sz = sz) (hbe : blk.e = e) (hbk : blk.kd = .flat) (hbn : blk.ents = []) (hb1 : Nat.ble (b % 16) 1 = true)
    (hsrc : srcRows (olk c.O) sz (opv c x) = some (m, rows, skd)) (hm : 0 < m) (hsk : isPF skd = true)
    (hlim : (n + m) * ei.bytes ≤ 140737488355328 ∧ n + m ≤ 9223372036854775807) (hdN : dstOK N c (some d) = true) (hfr : fresh (16 * d) c = true) :
    OpX P N ps ops p c (fun c' => c' = ⟨(d, .osuf b sz lo (n + m)) :: purgeF b c.fr, setO b { blk with rows := blk.rows ++ rows } (purgeO b c.O)⟩ ∨
      c' = ⟨(d, .osuf (16 * d) sz 0 (n + m)) :: c.fr, setO (16 * d) { blk with rows := blk.rows.drop lo ++ rows } c.O⟩) := by
  rintro E a w Q hN hp ⟨K, h⟩
  obtain ⟨⟨dd, hdd, hdk⟩, _⟩ := hT.get hti
  rw [htk] at hdk
  have := of_slice hdk
  subst this
  obtain ⟨_, ⟨je, hje, hjz, hjs, hjb⟩, _⟩ := hT.get hei
  obtain ⟨_, hzs⟩ := TabOne.get h1 hei
  have hval := opv_vals (c := c) h
  obtain ⟨A, cap, e1, hA, hC⟩ := VR.osuf_inv2 (hval.at hs)
  obtain ⟨g, m', hK, hm', rfl⟩ := hA hn
  obtain ⟨hncap, hcapm, g', o', cur, e', hAe, hc, hcur⟩ := hC hn
  injection hAe with hAe; injection hAe with hg' ho'; subst hg' ho'
  have hxv : VR w (XX E K c.O) K (opv c x) (a.eval x) := (hval x).vr (by rintro d want u e'; rw [e'] at hsrc; cases hsrc)
  obtain ⟨hml, huni, A2, cp, news, e2, hnl, hcell, hone, hvn⟩ := src_sound h hsrc hxv
  obtain ⟨ga, oa, rfl, hcl⟩ := hcell hm
  have hcl' : ∀ (j : Nat) u, news[j]? = some u → w.cell? ((⟨ga, oa, none⟩ : Addr).add j) = some u := fun j u hu => by
    rw [show (⟨ga, oa, none⟩ : Addr).add j = ⟨ga, oa + j, none⟩ from by unfold Addr.add; split <;> simp_all]; exact hcl j u hu
  have hvf : ∀ (j : Nat) u x, rows.flatten[j]? = some u → news[j]? = some x → VR w (XX E K c.O) K0 u x := by
    intro j u x hu hx
    have := hvn j u x hu hx
    cases skd with
    | pure => exact VR.sub this fun _ _ _ => trivial
    | flat => exact this
    | any => cases hsk
    | map _ _ => cases hsk
  have hbu := h.rows b blk hb
  rw [hbs] at hbu
  rcases h.own b blk hb with ⟨k1, _⟩ | ⟨g2, k1, cur2, hc2, hu⟩
  · rw [hK] at k1; cases k1
  rw [hK] at k1; injection k1 with k1; injection k1 with k1 k2; injection k1 with k1; subst k1
  replace hc2 := hc2.of_obj hc; rw [hc] at hc2; injection hc2 with hc2; injection hc2 with q1 q2; subst q1
  have hee : e' = e := by rw [q2, hbe]
  subst hee
  rw [hbk] at hu
  have hfl : blk.rows.flatten.length = (lo + n) * sz := by rw [flat_len hbu, hbl]
  have hle : (lo + n) * sz ≤ cur.size := by
    rw [← hcur, Nat.add_mul]
    exact Nat.add_le_add_left (Nat.mul_le_mul_right _ hncap) _
  have hd0 : dstOK E.N c (some d) = true := by rw [hN]; exact hdN
  unfold wpOp
  rw [ho]
  simp only
  rw [if_pos (by simp [Region.wanted, hg])]
  left
  unfold Oper.wp
  have hje' : je.size = sz := by rw [hjs, hes]
  rcases Nat.lt_or_ge cap (n + m) with hlt | hge
  · -- a new block
    have hr := run_append_grow (P := P) w t o.type e' je _ hdd hje hjz ⟨g, lo * sz, none⟩ n cap ((cur.toList.drop (lo * sz)).take (n * sz)) (by
        rw [hje', List.length_take, List.length_drop, Array.length_toList]
        rw [Nat.add_mul] at hle; omega) (fun j u hu => by
        rw [List.getElem?_take] at hu
        split at hu
        · rw [List.getElem?_drop] at hu
          rw [addrAdd]
          simp only [World.cell?, hc]
          simpa using hu
        · cases hu) ⟨ga, oa, none⟩ m cp news (by rw [hje']; exact hnl) hcl' hlt (by omega) (growslice_fits hlt (by rw [hjb]; exact hlim.1))
    have hrun := run_append_op (a := a) hop (by rw [e1, e2]; exact hr)
    rw [hrun]
    have hge := grownCap_ge w (n + m) cap e'
    generalize hcells : ((cur.toList.drop (lo * sz)).take (n * sz)).toArray ++ news.toArray ++ Builtin.zeroCells (ei.zero).cells (grownCap w (n + m) cap e' - (n + m)) = cells
    have hst : Step (fun _ => False) w (w.drew.alloc (.cells cells e')) := (Step.drawn _ w (w.drawn + 1)).trans (Step.alloc _ w.drew _)
    have hol : ((cur.toList.drop (lo * sz)).take (n * sz)).length = n * sz := by
      rw [List.length_take, List.length_drop, Array.length_toList]; rw [Nat.add_mul] at hle; omega
    have hcs : cells.size = grownCap w (n + m) cap e' * sz := by
      rw [← hcells]
      simp only [Array.size_append, List.size_toArray, hol, hnl, size_zeroCells, hzs, hes]
      rw [← Nat.add_mul, ← Nat.add_mul]; congr 1; omega
    have hnewh : (w.drew.alloc (.cells cells e')).heap[w.heap.size]? = some (.cells cells e' (0, 0)) := heap_new w.drew _
    have hdl : (blk.rows.drop lo).length = n := by rw [List.length_drop, hbl]; omega
    have hrl : (blk.rows.drop lo ++ rows).length = n + m := by rw [List.length_append, hdl, ← hml]
    have hdu : ∀ row ∈ blk.rows.drop lo, row.length = sz := fun row hr => hbu row (List.mem_of_mem_drop hr)
    have hdf : (blk.rows.drop lo).flatten.length = n * sz := by rw [flat_len hdu, hdl]
    have hflat : ∀ j, j < n * sz → blk.rows.flatten[lo * sz + j]? = (blk.rows.drop lo).flatten[j]? := by
      intro j hj
      have h0 : blk.rows = blk.rows.take lo ++ blk.rows.drop lo := (List.take_append_drop _ _).symm
      have ht : (blk.rows.take lo).flatten.length = lo * sz := by
        rw [flat_len (fun row hr => hbu row (List.mem_of_mem_take hr)), List.length_take, hbl]; congr 1; omega
      conv => lhs; rw [h0, List.flatten_append, List.getElem?_append_right (by omega), ht]
      congr 1; omega
    have hB : BlkR (w.drew.alloc (.cells cells e')) (fun h => XX E K c.O h ∨ h = w.heap.size) K w.heap.size { e := e', sz := sz, kd := .flat, rows := blk.rows.drop lo ++ rows } := by
      refine BlkR_app (news := news) hnewh hdu huni (by rw [hnl, hml]) (fun j u hj => ?_) (fun j hj => ?_) hone (fun j u x hu hx => ?_)
      · have hjl := (List.getElem?_eq_some_iff.1 hj).1
        rw [hdf] at hjl
        rw [← hflat j hjl] at hj
        obtain ⟨y, hy, h1y, hvy⟩ := hu _ u hj
        refine ⟨y, ?_, h1y, VR.keep hvy (hst.keep.mono fun _ _ h => h.elim) (fun r hr hx => ?_) (fun _ _ => rfl)⟩
        · rw [← hcells]
          simp only [Array.getElem?_append, Array.size_append, List.size_toArray, hol]
          rw [if_pos (by omega), if_pos hjl]
          simp only [List.getElem?_toArray]
          rw [List.getElem?_take, if_pos hjl, List.getElem?_drop]
          simpa using hy
        · rcases hx with hx | hx
          · exact hx
          · omega
      · rw [hdl, ← hcells]
        simp only [Array.getElem?_append, Array.size_append, List.size_toArray, hol]
        rw [if_pos (by omega), if_neg (by omega)]
        simp
      · refine VR.keep (hvf j u x hu hx) (hst.keep.mono fun _ _ h => h.elim) (fun r hr hx => ?_) (fun _ _ => rfl)
        rcases hx with hx | hx
        · exact hx
        · have : w.heap.size ≤ r := by omega
          omega
    obtain ⟨curB, hoB, huB⟩ := hB
    have hs2 := bind_new (blk := { e := e', sz := sz, kd := .flat, rows := blk.rows.drop lo ++ rows }) h hfr hst (Nat.le_refl _) (by
      intro row hr
      rcases List.mem_append.1 hr with hr | hr
      · exact hdu row hr
      · exact huni row hr) hoB (fun j u hj => ⟨fun hk => (by cases hk), huB j u hj⟩)
    refine ⟨_, .inr rfl, upd K (16 * d) (some w.heap.size, (blk.rows.drop lo ++ rows).length), ?_⟩
    have hblk : ({ blk with rows := blk.rows.drop lo ++ rows } : OBlk) = { e := e', sz := sz, kd := .flat, rows := blk.rows.drop lo ++ rows } := by
      rw [← hbe, ← hbs, ← hbk, ← hbn]
    rw [hblk]
    have hd0' : dstOK E.N ⟨c.fr, setO (16 * d) { e := e', sz := sz, kd := .flat, rows := blk.rows.drop lo ++ rows } c.O⟩ o.dst = true := by rw [hd]; exact hd0
    have := hs2.put (dst := o.dst) (u := .osuf (16 * d) sz 0 (n + m)) (v := .slice (some ⟨w.heap.size, 0, none⟩) (n + m) (grownCap w (n + m) cap e')) hd0' fun _ _ => FV.of (.osuf (fun _ => ⟨w.heap.size, _, upd_same _ _ _, by rw [hrl]; omega, by simp⟩) (fun _ => ⟨hge, grownCap_le_maxLen w (n + m) cap e' (by unfold maxLen; omega), w.heap.size, 0, cells, e', rfl, hnewh, by rw [hcs]; omega⟩))
    rw [hd] at this ⊢
    exact this
  · -- the rows behind
    have hfit : lo * sz + n * je.size + news.length ≤ cur.size := by
      rw [hje', hnl, ← hcur, Nat.add_assoc, ← Nat.add_mul]
      exact Nat.add_le_add_left (Nat.mul_le_mul_right _ hge) _
    have hr := run_append_room_at (P := P) w t o.type e' je hdd hje g (lo * sz) n cap cur hc ⟨ga, oa, none⟩ m cp news (by rw [hje']; exact hnl) hcl' hone hge hfit
    have hrun := run_append_op (a := a) hop (by rw [e1, e2]; exact hr)
    rw [hrun]
    rw [hje'] at hfit ⊢
    have hlz : lo * sz + n * sz = (lo + n) * sz := (Nat.add_mul _ _ _).symm
    rw [hlz] at hfit ⊢
    generalize hnew : (cur.toList.take ((lo + n) * sz) ++ news ++ cur.toList.drop ((lo + n) * sz + news.length)).toArray = new
    have hns : new.size = cur.size := by
      rw [← hnew]; simp only [List.size_toArray, List.length_append, List.length_take, List.length_drop, Array.length_toList]; omega
    have hnewh := setRow_heap w g cur new e' (0, 0) hc
    have hst : Step (fun r => r = g) w (w.setRow g new) := Step.setRow hc hns
    have hP := h.purge b
    have hpb : (olk (purgeO b c.O) b).isSome = true := by rw [olk_purge, hb]; rfl
    have hX : ∀ g, g < w.heap.size → XX E K (purgeO b c.O) g → XX E K c.O g := fun g _ hg => XX.sub (fun i x hi => by
      rw [olk_purge] at hi
      cases hy : olk c.O i with
      | none => rw [hy] at hi; cases hi
      | some y => exact ⟨y, rfl⟩) g hg
    have hfr' : ∀ t, (lk (purgeF b c.fr) t).has b = false := by
      intro t
      rw [lk_purge]
      split
      · rfl
      · rename_i h'; simpa using h'
    have hO : ∀ i x, olk (purgeO b c.O) i = some x → i ≠ b → x.kd = .any → hasRow b x.rows = false := by
      intro i x hi _ hk
      rw [olk_purge] at hi
      cases hy : olk c.O i with
      | none => rw [hy] at hi; cases hi
      | some y =>
        rw [hy] at hi
        injection hi with hi
        cases hyk : y.kd <;> simp only [hyk] at hi
        · rw [← hi, hyk] at hk; cases hk
        · rw [← hi, hyk] at hk; cases hk
        · rw [← hi]; exact hasRow_purge b y.rows
        · rw [← hi, hyk] at hk; cases hk
    have hrl : (blk.rows ++ rows).length = lo + (n + m) := by rw [List.length_append, hbl, ← hml]; omega
    have hgl : g < w.heap.size := (Array.getElem?_eq_some_iff.1 hc).1
    have hKb : blkOf K b = some g := blkOf_of hK
    have hXg : XX E K c.O g := .inl ⟨b, by rw [hb]; rfl, hKb⟩
    have hkp : Keep (XX E K c.O) w (w.setRow g new) := hst.keep.mono fun r _ hr => by rw [hr]; exact hXg
    have hs2 := hP.rebind (blk := { e := e', sz := sz, kd := .flat, rows := blk.rows ++ rows }) hb1 (w' := w.setRow g new) (g := g) (hst.mono fun r _ hr => ⟨hpb, by rw [hr]; exact hKb⟩) hfr' hO (.inr ⟨hpb, hKb⟩) (by
      intro row hr
      rcases List.mem_append.1 hr with hr | hr
      · exact hbu row hr
      · exact huni row hr) (BlkR_app (news := news) hnewh hbu huni (by rw [hnl, hml]) (fun j u hj => by
        have hjl := (List.getElem?_eq_some_iff.1 hj).1
        rw [hfl] at hjl
        obtain ⟨y, hy, h1y, hvy⟩ := hu j u hj
        refine ⟨y, ?_, h1y, VR.keep hvy hkp (fun r hr hx => ?_) (fun _ _ => rfl)⟩
        · rw [← hnew]
          simp only [List.getElem?_toArray]
          rw [List.append_assoc, List.getElem?_append_left (by rw [List.length_take, Array.length_toList]; omega), List.getElem?_take, if_pos hjl]
          simpa using hy
        · rcases hx with ⟨i, hi, hk⟩ | hx
          · by_cases e : i = b
            · subst e; rw [upd_blk] at hk; injection hk with hk; subst hk; exact hXg
            · rw [upd_blk_other _ _ e, olk_setO, if_neg (fun e' => e e'.symm)] at *
              exact hX r (by simpa [World.setRow] using hr) (.inl ⟨i, by assumption, by assumption⟩)
          · exact .inr hx) (fun j hj => by
        rw [hbl, ← hnew]
        simp only [List.getElem?_toArray]
        have hmin : min ((lo + n) * sz) cur.toList.length = (lo + n) * sz := Nat.min_eq_left hle
        rw [List.append_assoc, List.getElem?_append_right (by rw [List.length_take, hmin]; omega), List.length_take, hmin, List.getElem?_append_left (by omega)]
        congr 1; omega) hone (fun j u x hu hx => VR.keep (hvf j u x hu hx) hkp (fun r hr hx => by
          rcases hx with ⟨i, hi, hk⟩ | hx
          · by_cases e : i = b
            · subst e; rw [upd_blk] at hk; injection hk with hk; subst hk; exact hXg
            · rw [upd_blk_other _ _ e] at hk
              rw [olk_setO, if_neg (fun e' => e e'.symm)] at hi
              exact hX r (by simpa [World.setRow] using hr) (.inl ⟨i, hi, hk⟩)
          · exact .inr hx) (fun _ _ => rfl)))
    refine ⟨_, .inl rfl, upd K b (some g, (blk.rows ++ rows).length), ?_⟩
    have hblk : ({ blk with rows := blk.rows ++ rows } : OBlk) = { e := e', sz := sz, kd := .flat, rows := blk.rows ++ rows } := by
      rw [← hbe, ← hbs, ← hbk, ← hbn]
    rw [hblk]
    have hd0' : dstOK E.N ⟨purgeF b c.fr, setO b { e := e', sz := sz, kd := .flat, rows := blk.rows ++ rows } (purgeO b c.O)⟩ o.dst = true := by
      rw [hd]
      simp only [dstOK, Bool.and_eq_true] at hd0 ⊢
      exact ⟨hd0.1, noOpt_purge hd0.2⟩
    have := hs2.put (dst := o.dst) (u := .osuf b sz lo (n + m)) (v := .slice (some ⟨g, lo * sz, none⟩) (n + m) cap) hd0' fun _ _ => FV.of (.osuf (fun _ => ⟨g, _, upd_same _ _ _, by rw [hrl]; omega, rfl⟩) (fun _ => ⟨hge, hcapm, g, lo * sz, new, e', rfl, hnewh, by rw [hns]; exact hcur⟩))
    rw [hd] at this ⊢
    exact this
end Go.Abs
end
