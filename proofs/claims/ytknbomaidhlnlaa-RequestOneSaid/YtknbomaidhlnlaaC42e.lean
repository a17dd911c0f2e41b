import Derived.Test.YtknbomaidhlnlaaC42d
namespace Go.Abs.L42
open Go Go.Abs Go.Proofs
set_option linter.unusedVariables false
set_option maxRecDepth 20000
theorem chk_ok : ∀ {l pre : List Req}, chk pre l = 0 ↔ ∀ (i : Nat) a, l[i]? = some a → err1 (pre ++ l.take i) a = 0
  | [], pre => by simp [chk]
  | r :: rest, pre => by
    have ih := chk_ok (l := rest) (pre := pre ++ [r])
    simp only [chk]
    constructor
    · intro h
      split at h
      · rename_i h1; exact absurd h h1
      · rename_i h1
        intro i a ha
        cases i with
        | zero => simp at ha; subst ha; simpa using h1
        | succ i =>
          have := ih.1 h i a (by simpa using ha)
          simpa using this
    · intro h
      have h0 := h 0 r (by simp)
      simp only [List.take_zero, List.append_nil] at h0
      rw [if_neg (by simp [h0])]
      refine ih.2 fun i a ha => ?_
      have := h (i + 1) a (by simpa using ha)
      simpa using this
theorem check_iff {l : List Req} : checkE l = 0 ↔ l.length ≤ 256 ∧ ∀ (i : Nat) a, l[i]? = some a → err1 (l.take i) a = 0 := by
  constructor
  · intro h
    have hl := check_len h
    rw [checkE_le hl, chk_ok] at h
    exact ⟨hl, by simpa using h⟩
  · rintro ⟨hl, h⟩
    rw [checkE_le hl, chk_ok]
    simpa using h
theorem err1_iff {pre : List Req} {a : Req} : err1 pre a = 0 ↔ formedB a = true ∧ badOrd pre a = false ∧ ((a.st == 2) && lentP pre a.bx) = false ∧ (openB a && dblP pre a.rd a.un) = false := by
  unfold err1
  constructor
  · intro h
    split at h
    · cases h
    · rename_i h1
      split at h
      · cases h
      · rename_i h2
        split at h
        · cases h
        · rename_i h3
          split at h
          · cases h
          · rename_i h4
            exact ⟨by simpa using h1, by simpa using h2, by simpa using h3, by simpa using h4⟩
  · rintro ⟨h1, h2, h3, h4⟩
    rw [h1, h2, h3, h4]; simp
theorem formed_iff {r : Req} : formedB r = true ↔ 1 ≤ r.id ∧ r.id ≤ 1073741824 ∧ idB r.rd = true ∧ idB r.un = true ∧ idB r.bx = true ∧ 0 ≤ r.dy ∧ r.dy ≤ 1048575 ∧ 1 ≤ r.st ∧ r.st ≤ 5 ∧ r.dy ≤ r.ch ∧ r.ch ≤ 1048575 ∧ (r.st = 1 → r.ch = r.dy) := by
  simp only [formedB, idB, dayB, Bool.and_eq_true, decide_eq_true_eq, Bool.or_eq_true, bne_iff_ne, beq_iff_eq]
  constructor
  · rintro ⟨⟨⟨⟨⟨⟨⟨⟨⟨h1, h2⟩, h3⟩, h4⟩, h5⟩, h6⟩, h7⟩, h8⟩, h9⟩, h10⟩
    exact ⟨h1.1, h1.2, h2, h3, h4, h5.1, h5.2, h6, h7, h8, h9.2, fun h => by rcases h10 with h | h' <;> omega⟩
  · rintro ⟨h1, h2, h3, h4, h5, h6, h7, h8, h9, h10, h11, h12⟩
    refine ⟨⟨⟨⟨⟨⟨⟨⟨⟨⟨h1, h2⟩, h3⟩, h4⟩, h5⟩, ⟨h6, h7⟩⟩, h8⟩, h9⟩, h10⟩, ⟨by omega, h11⟩⟩, ?_⟩
    by_cases h : r.st = 1
    · exact .inr (h12 h)
    · exact .inl h
theorem ids_lt {l : List Req} (h : checkE l = 0) : ∀ (j i : Nat) a b, i < j → l[i]? = some a → l[j]? = some b → a.id < b.id
  | 0, i, a, b, hij, _, _ => by omega
  | j + 1, i, a, b, hij, ha, hb => by
    have hjl : j + 1 < l.length := (List.getElem?_eq_some_iff.1 hb).1
    obtain ⟨p, hp⟩ : ∃ p, l[j]? = some p := ⟨l[j], by simp⟩
    have hbo := (err1_iff.1 ((check_iff.1 h).2 (j + 1) b hb)).2.1
    rw [badOrd_i (by omega) (by omega) hp] at hbo
    simp at hbo
    by_cases e : i = j
    · subst e; rw [ha] at hp; injection hp with hp; subst hp; omega
    · have := ids_lt h j i a p (by omega) ha hp
      omega
theorem ids_inj {l : List Req} (h : checkE l = 0) {i j : Nat} {a b : Req} (ha : l[i]? = some a) (hb : l[j]? = some b) (e : a.id = b.id) : i = j := by
  rcases Nat.lt_trichotomy i j with hlt | heq | hgt
  · have := ids_lt h j i a b hlt ha hb; omega
  · exact heq
  · have := ids_lt h i j b a hgt hb ha; omega
theorem mem_formed {l : List Req} (h : checkE l = 0) : ∀ a ∈ l, formedB a = true := by
  intro a ha
  obtain ⟨i, hi⟩ := List.getElem?_of_mem ha
  exact (err1_iff.1 ((check_iff.1 h).2 i a hi)).1
def pW (b : Int) (r : Req) : Bool := (r.st == 1) && (r.bx == b)
def fW (l : List Req) (b : Int) : Int := match l.find? (pW b) with | some r => r.id | none => 0
theorem find_idx {α : Type} (p : α → Bool) : ∀ (l : List α) (k : Nat), (idxF p k l = -1 ∧ l.find? p = none) ∨ ∃ (i : Nat) (a : α), l[i]? = some a ∧ p a = true ∧ idxF p k l = (k + i : Nat) ∧ l.find? p = some a
  | [], k => .inl ⟨rfl, rfl⟩
  | a :: r, k => by
    simp only [idxF, List.find?_cons]
    cases h : p a with
    | true => exact .inr ⟨0, a, by simp, h, by simp, rfl⟩
    | false =>
      rcases find_idx p r (k + 1) with ⟨h1, h2⟩ | ⟨i, b, h1, h2, h3, h4⟩
      · exact .inl ⟨by simpa using h1, h2⟩
      · exact .inr ⟨i + 1, b, by simpa using h1, h2, by simp only [Bool.false_eq_true, if_false]; rw [h3]; congr 1; omega, h4⟩
def nextQ (l : List Req) (b : Int) : Int × Bool := if checkE l ≠ 0 then (0, false) else if lentP l b = true then (0, false) else (fW l b, fW l b != 0)
theorem c19 (l : List Req) (hl : l.length ≤ 9223372036854775807) (b : Int) : Fn Try.prog 19 [A l, I b] (.tup [I (nextQ l b).1, .bool (nextQ l b).2]) := by
  refine mk19 rfl ⟨_, c45 l hl b, [], _, c15 l, fun h => ?_, fun h => ?_⟩
  · have : nextQ l b = (0, false) := by
      unfold nextQ
      split
      · rfl
      · rename_i hc
        split
        · rfl
        · rename_i hle
          have hc : checkE l = 0 := by simpa using hc
          simp [hc] at h
          rw [nextE, if_neg hle] at h
          rcases find_idx (fun r : Req => (r.st == 1) && (r.bx == b)) l 0 with ⟨h1, h2⟩ | ⟨i, a, h1, h2, h3, h4⟩
          · have : l.find? (pW b) = none := h2
            simp [fW, this]
          · omega
    rw [this]
    exact ⟨_, _, rfl, ⟨rfl, rfl⟩, rfl, rfl, trivial⟩
  · have hc : checkE l = 0 ∧ 0 ≤ nextE l b := by simp at h; exact ⟨h.2, h.1⟩
    have hn := hc.2
    rw [nextQ, if_neg (by simp [hc.1])]
    by_cases hle : lentP l b = true
    · rw [nextE, if_pos hle] at hn; omega
    · rw [if_neg hle]
      have hne : nextE l b = idxF (fun r : Req => (r.st == 1) && (r.bx == b)) 0 l := by rw [nextE, if_neg hle]
      rcases find_idx (fun r : Req => (r.st == 1) && (r.bx == b)) l 0 with ⟨h1, h2⟩ | ⟨i, a, h1, h2, h3, h4⟩
      · omega
      · rw [Nat.zero_add] at h3
        have hf : l.find? (pW b) = some a := h4
        have hil : i < l.length := (List.getElem?_eq_some_iff.1 h1).1
        have hid := (formed_iff.1 (mem_formed hc.1 a (List.mem_of_getElem? h1))).1
        have hfw : fW l b = a.id := by simp [fW, hf]
        rw [hfw, hne, h3]
        refine ⟨⟨by omega, by omega⟩, encR a, get_map h1, _, _, rfl, ⟨rfl, rfl⟩, rfl, ?_, trivial⟩
        show AV.bool (a.id != 0) = AV.bool true
        rw [show (a.id != 0) = true by simp; omega]
theorem fW_snoc {l : List Req} {x : Req} {b : Int} (h : ∀ r ∈ l, r.id ≠ 0) : fW (l ++ [x]) b = if ((x.bx == b) && (x.st == 1) && (fW l b == 0)) = true then x.id else fW l b := by
  unfold fW
  rw [List.find?_append]
  cases hf : l.find? (pW b) with
  | some r =>
    have := h r (List.mem_of_find?_eq_some hf)
    simp [this]
  | none =>
    simp only [Option.none_or, List.find?_cons, List.find?_nil, pW]
    cases h1 : (x.st == 1) <;> cases h2 : (x.bx == b) <;> simp
theorem c29 (l : List Req) (b : Int) : Fn Try.prog 29 [A l, I b] (.tup [I (nextQ l b).1, .bool (nextQ l b).2]) := by
  refine mk29 rfl ⟨_, c16 l, fun h => ?_, fun h => ?_⟩
  · simp at h
    rw [nextQ, if_pos h]
    exact ⟨_, _, rfl, ⟨rfl, rfl⟩, rfl, rfl, trivial⟩
  · simp at h
    have hl := check_len h
    have hfm := mem_formed h
    rw [nextQ, if_neg (by simp [h])]
    refine ⟨fun n c => ∃ i : Nat, i ≤ l.length ∧ n = l.length - i ∧ c = ⟨[(1, I b), (4, I 0), (5, .bool false), (6, I (fW (l.take i) b)), (12, A l), (13, I l.length), (14, I i)], []⟩ ∧ lentP (l.take i) b = false, ⟨_, _, Wk.keep [1, 4, 5, 6, 12, 13, 14] [], 0, by omega, rfl, rfl, by simp [lentP]⟩, ?_⟩
    rintro n c ⟨i, hi, rfl, rfl, hI⟩
    refine ⟨fun h => ?_, fun h => ?_⟩
    · simp at h
      obtain ⟨x, hx, _, htx⟩ := drop_cons (l := l) (i := i) (by omega)
      have hsn := fW_snoc (l := l.take i) (x := x) (b := b) fun r hr => by
        have := (formed_iff.1 (hfm r (List.mem_of_mem_take hr))).1; omega
      rw [← htx] at hsn
      refine ⟨⟨by omega, by omega⟩, encR x, get_map hx, [], fun hq => ?_, fun hq => ?_⟩
      · have hq : ((x.bx == b) && (x.st == 2)) = true := hq
        have : lentP l b = true := List.any_eq_true.2 ⟨x, List.mem_of_getElem? hx, by simp at hq ⊢; exact ⟨hq.2, hq.1⟩⟩
        rw [if_pos this]
        exact ⟨_, _, rfl, ⟨rfl, rfl⟩, rfl, rfl, trivial⟩
      · have hq : ((x.bx == b) && (x.st == 2)) = false := hq
        have hnl : lentP (l.take (i + 1)) b = false := by
          unfold lentP at hI ⊢
          rw [htx, List.any_append, hI]
          simp at hq ⊢
          intro h1 h2; exact hq h2 h1
        refine ⟨[], fun hq => ?_, fun hq => ?_⟩
        · have hq : ((x.bx == b) && (x.st == 1) && (fW (l.take i) b == 0)) = true := hq
          rw [if_pos hq] at hsn
          refine ⟨_, wrap64 (by omega) (by omega), ?_⟩
          refine ⟨_, _, Wk.keep [1, 4, 5, 6, 12, 13, 14] [], by omega, i + 1, by omega, rfl, ?_, hnl⟩
          rw [hsn]; rfl
        · have hq : ((x.bx == b) && (x.st == 1) && (fW (l.take i) b == 0)) = false := hq
          rw [if_neg (by rw [hq]; simp)] at hsn
          refine ⟨_, wrap64 (by omega) (by omega), ?_⟩
          refine ⟨_, _, Wk.keep [1, 4, 5, 6, 12, 13, 14] [], by omega, i + 1, by omega, rfl, ?_, hnl⟩
          rw [hsn]; rfl
    · simp at h
      have : i = l.length := by omega
      subst this
      rw [List.take_length] at hI ⊢
      rw [if_neg (by simp [hI])]
      exact ⟨_, _, rfl, ⟨rfl, rfl⟩, rfl, rfl, trivial⟩
theorem canLend_iff {l : List Req} (h : checkE l = 0) {i : Nat} {b : Req} (hb : l[i]? = some b) : canLend l i = ((nextQ l b.bx).2 && ((nextQ l b.bx).1 == b.id)) := by
  simp only [canLend, hb, nextQ, h]
  simp only [ne_eq, not_true_eq_false, if_false]
  have hbid := (formed_iff.1 (mem_formed h b (List.mem_of_getElem? hb))).1
  unfold nextE
  split
  · simp
  · rcases find_idx (fun r : Req => (r.st == 1) && (r.bx == b.bx)) l 0 with ⟨h1, h2⟩ | ⟨j, a, h1, h2, h3, h4⟩
    · have hf : l.find? (pW b.bx) = none := h2
      rw [h1]
      simp [fW, hf]
    · rw [Nat.zero_add] at h3
      have hf : l.find? (pW b.bx) = some a := h4
      have haid := (formed_iff.1 (mem_formed h a (List.mem_of_getElem? h1))).1
      rw [h3]
      simp only [fW, hf]
      rw [Bool.eq_iff_iff]
      simp only [beq_iff_eq, Bool.and_eq_true, bne_iff_ne]
      constructor
      · intro e
        have e : j = i := by omega
        subst e
        rw [hb] at h1; injection h1 with h1; subst h1
        exact ⟨by omega, rfl⟩
      · rintro ⟨_, e⟩
        have := ids_inj h h1 hb e
        omega
theorem c23 (l : List Req) (n d : Int) : Fn Try.prog 23 [A l, I n, I d] (.tup [fA (lendE l n d).1, I (lendE l n d).2]) := by
  have h49 := c49 l n d
  rcases start_cases l n d with ⟨e, he, hs, hm⟩ | ⟨i, b, hc, hb, hbn, hs, hm⟩
  · simp only [hs] at h49
    simp only [lendE, hm]
    refine mk23 rfl ⟨_, h49, fun h => ?_, fun h => ?_⟩
    · exact ⟨_, _, rfl, .inr ⟨_, _, _, rfl⟩, rfl, rfl, trivial⟩
    · simp at h; exact absurd h he
  · have hl := check_len hc
    have hil : i < l.length := (List.getElem?_eq_some_iff.1 hb).1
    simp only [hs] at h49
    simp only [lendE, hm, canLend_iff hc hb]
    refine mk23 rfl ⟨_, h49, fun h => (by cases h), fun h => ⟨⟨by omega, by omega⟩, encR b, get_map hb, _, c29 l b.bx, [], fun hf => ?_, fun hf => ?_⟩⟩
    · have hf : (!(nextQ l b.bx).2 || ((nextQ l b.bx).1 != n)) = true := hf
      rw [if_pos (by rw [hbn]; revert hf; cases (nextQ l b.bx).2 <;> simp)]
      exact ⟨_, _, rfl, .inr ⟨_, _, _, rfl⟩, rfl, rfl, trivial⟩
    · have hf : (!(nextQ l b.bx).2 || ((nextQ l b.bx).1 != n)) = false := hf
      rw [if_neg (by rw [hbn]; revert hf; cases (nextQ l b.bx).2 <;> simp)]
      exact ⟨_, c50 l hl i b hb 2 d, _, _, rfl, ⟨_, rfl, rfl, ret_fs, .inl ⟨rfl, rfl⟩⟩, rfl, rfl, trivial⟩
end Go.Abs.L42
