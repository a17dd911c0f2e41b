import Derived.Test.YtknbomaidhlnlaaC42e
namespace Go.Abs.L42
open Go Go.Abs Go.Proofs
set_option linter.unusedVariables false
set_option maxRecDepth 20000
def cnt (p : Nat → Req → Bool) : Nat → List Req → Int
  | _, [] => 0
  | k, r :: rest => (if p k r = true then 1 else 0) + cnt p (k + 1) rest
theorem cnt_bd (p : Nat → Req → Bool) : ∀ (l : List Req) (k : Nat), 0 ≤ cnt p k l ∧ cnt p k l ≤ l.length
  | [], k => by simp [cnt]
  | r :: rest, k => by
    have := cnt_bd p rest (k + 1)
    simp only [cnt, List.length_cons]
    split <;> omega
def posP (i : Nat) (b : Req) (k : Nat) (r : Req) : Bool := (r.bx == b.bx) && ((k : Int) != i) && ((r.st == 2) || (decide ((k : Int) < i) && openB r))
def posR (i : Nat) (b : Req) (k : Nat) (r : Req) : Bool := (r.bx == b.bx) && ((r.st == 2) || (decide ((k : Int) < i) && (r.st == 1)))
def positionE (l : List Req) (n : Int) : Int × Int :=
  if checkE l ≠ 0 then (0, 1) else if indexE l n < 0 then (0, 7) else match l[(indexE l n).toNat]? with
    | some b => if b.st ≠ 1 then (0, 11) else (cnt (posP (indexE l n).toNat b) 0 l, 0)
    | none => (0, 7)
theorem c18 (l : List Req) (n : Int) : Fn Try.prog 18 [A l, I n] (.tup [I (positionE l n).1, I (positionE l n).2]) := by
  refine mk18 rfl ⟨_, c15 l, fun h => ?_, fun h => ?_⟩
  · simp at h
    rw [positionE, if_pos h]
    exact ⟨_, _, rfl, ⟨rfl, rfl⟩, rfl, rfl, trivial⟩
  · simp at h
    have hl := check_len h
    rw [positionE, if_neg (by simp [h])]
    refine ⟨_, c44 l (by omega) n, fun h => ?_, fun h => ?_⟩
    · simp at h
      rw [if_pos h]
      exact ⟨_, _, rfl, ⟨rfl, rfl⟩, rfl, rfl, trivial⟩
    · simp at h
      rw [if_neg (by omega)]
      obtain ⟨i, b, hb, hbn, hi⟩ := index_get h
      have hil : i < l.length := (List.getElem?_eq_some_iff.1 hb).1
      rw [hi]
      simp only [Int.toNat_natCast, hb]
      refine ⟨⟨by omega, by omega⟩, encR b, get_map hb, fun hf => ?_, fun hf => ?_⟩
      · have hf : (b.st != 1) = true := hf
        rw [if_pos (by simpa using hf)]
        exact ⟨_, _, rfl, ⟨rfl, rfl⟩, rfl, rfl, trivial⟩
      · have hf : (b.st != 1) = false := hf
        rw [if_neg (by simpa using hf)]
        refine ⟨fun m c => ∃ (k : Nat) (x : Int), k ≤ l.length ∧ 0 ≤ x ∧ x ≤ k ∧ m = l.length - k ∧ c = ⟨[(0, A l), (4, I 0), (5, I 0), (6, I i), (7, I x), (26, A l), (27, I l.length), (28, I k)], []⟩ ∧ x + cnt (posP i b) k (l.drop k) = cnt (posP i b) 0 l, ⟨_, _, Wk.keep [0, 4, 5, 6, 7, 26, 27, 28] [], 0, 0, by omega, by omega, by omega, rfl, rfl, by simp⟩, ?_⟩
        rintro m c ⟨k, x, hk, hx0, hxk, rfl, rfl, hI⟩
        refine ⟨fun h => ?_, fun h => ?_⟩
        · simp at h
          obtain ⟨a, ha, hd, _⟩ := drop_cons (l := l) (i := k) (by omega)
          rw [hd, cnt] at hI
          refine ⟨⟨by omega, by omega⟩, encR a, get_map ha, [], ⟨by omega, by omega⟩, encR b, get_map hb, _, c42 a, fun hq => ?_, fun hq => ?_⟩
          · have hq : posP i b k a = true := hq
            rw [if_pos hq] at hI
            refine ⟨_, wrap64 (by omega) (by omega), _, wrap64 (by omega) (by omega), ?_⟩
            exact ⟨_, _, Wk.keep [0, 4, 5, 6, 7, 26, 27, 28] [], by omega, k + 1, x + 1, by omega, by omega, by omega, rfl, rfl, by omega⟩
          · have hq : posP i b k a = false := hq
            rw [if_neg (by simp [hq])] at hI
            refine ⟨_, wrap64 (by omega) (by omega), ?_⟩
            exact ⟨_, _, Wk.keep [0, 4, 5, 6, 7, 26, 27, 28] [], by omega, k + 1, x, by omega, by omega, by omega, rfl, rfl, by omega⟩
        · simp at h
          have : k = l.length := by omega
          subst this
          simp [cnt] at hI
          rw [← hI]
          exact ⟨_, _, rfl, ⟨rfl, rfl⟩, rfl, rfl, trivial⟩
theorem cnt_congr {p q : Nat → Req → Bool} : ∀ {l : List Req} {k : Nat}, (∀ (j : Nat) r, l[j]? = some r → p (k + j) r = q (k + j) r) → cnt p k l = cnt q k l
  | [], _, _ => rfl
  | r :: rest, k, h => by
    have h0 := h 0 r (by simp)
    simp only [Nat.add_zero] at h0
    simp only [cnt, h0]
    have ih := cnt_congr (p := p) (q := q) (l := rest) (k := k + 1) fun j r' hj => (by have := h (j + 1) r' (by simpa using hj); rw [show k + (j + 1) = k + 1 + j by omega] at this; exact this)
    rw [ih]
theorem pos_eq {l : List Req} {i : Nat} {b : Req} (hb : l[i]? = some b) (hst : b.st = 1) : cnt (posP i b) 0 l = cnt (posR i b) 0 l := by
  refine cnt_congr fun j r hj => ?_
  simp only [Nat.zero_add, posP, posR]
  by_cases e : j = i
  · subst e
    rw [hb] at hj; injection hj with hj; subst hj
    simp [hst]
  · rw [show ((j : Int) != i) = true by simp; omega, Bool.and_true]
    simp only [openB]
    cases (r.st == 2) <;> simp
theorem c30 (l : List Req) (n : Int) : Fn Try.prog 30 [A l, I n] (.tup [I (positionE l n).1, I (positionE l n).2]) := by
  refine mk30 rfl ⟨_, c16 l, fun h => ?_, fun h => ?_⟩
  · simp at h
    rw [positionE, if_pos h]
    exact ⟨_, _, rfl, ⟨rfl, rfl⟩, rfl, rfl, trivial⟩
  · simp at h
    have hl := check_len h
    rw [positionE, if_neg (by simp [h])]
    refine ⟨_, c53 l (by omega) n, fun h => ?_, fun h => ?_⟩
    · simp at h
      rw [if_pos h]
      exact ⟨_, _, rfl, ⟨rfl, rfl⟩, rfl, rfl, trivial⟩
    · simp at h
      rw [if_neg (by omega)]
      obtain ⟨i, b, hb, hbn, hi⟩ := index_get h
      have hil : i < l.length := (List.getElem?_eq_some_iff.1 hb).1
      rw [hi]
      simp only [Int.toNat_natCast, hb]
      refine ⟨⟨by omega, by omega⟩, encR b, get_map hb, fun hf => ?_, fun hf => ?_⟩
      · have hf : (b.st != 1) = true := hf
        rw [if_pos (by simpa using hf)]
        exact ⟨_, _, rfl, ⟨rfl, rfl⟩, rfl, rfl, trivial⟩
      · have hf : (b.st != 1) = false := hf
        rw [if_neg (by simpa using hf), pos_eq hb (by simpa using hf)]
        refine ⟨fun m c => ∃ (k : Nat) (x : Int), k ≤ l.length ∧ 0 ≤ x ∧ x ≤ k ∧ m = l.length - k ∧ c = ⟨[(0, A l), (4, I 0), (5, I 0), (6, I i), (7, I x), (24, A l), (25, I l.length), (26, I k)], []⟩ ∧ x + cnt (posR i b) k (l.drop k) = cnt (posR i b) 0 l, ⟨_, _, Wk.keep [0, 4, 5, 6, 7, 24, 25, 26] [], 0, 0, by omega, by omega, by omega, rfl, rfl, by simp⟩, ?_⟩
        rintro m c ⟨k, x, hk, hx0, hxk, rfl, rfl, hI⟩
        refine ⟨fun h => ?_, fun h => ?_⟩
        · simp at h
          obtain ⟨a, ha, hd, _⟩ := drop_cons (l := l) (i := k) (by omega)
          rw [hd, cnt] at hI
          refine ⟨⟨by omega, by omega⟩, encR a, get_map ha, [], ⟨by omega, by omega⟩, encR b, get_map hb, fun hq => ?_, fun hq => ?_⟩
          · have hq : posR i b k a = true := hq
            rw [if_pos hq] at hI
            refine ⟨_, wrap64 (by omega) (by omega), _, wrap64 (by omega) (by omega), ?_⟩
            exact ⟨_, _, Wk.keep [0, 4, 5, 6, 7, 24, 25, 26] [], by omega, k + 1, x + 1, by omega, by omega, by omega, rfl, rfl, by omega⟩
          · have hq : posR i b k a = false := hq
            rw [if_neg (by simp [hq])] at hI
            refine ⟨_, wrap64 (by omega) (by omega), ?_⟩
            exact ⟨_, _, Wk.keep [0, 4, 5, 6, 7, 24, 25, 26] [], by omega, k + 1, x, by omega, by omega, by omega, rfl, rfl, by omega⟩
        · simp at h
          have : k = l.length := by omega
          subst this
          simp [cnt] at hI
          rw [← hI]
          exact ⟨_, _, rfl, ⟨rfl, rfl⟩, rfl, rfl, trivial⟩
def actE (l : List Req) (x n d : Int) : List Req × Int := if x = 0 then lendE l n d else if x = 1 then returnE l n d else dropE' l n d (x == 2)
theorem c28 (l : List Req) (hl : l.length ≤ 2000) (x n d : Int) : Fn Try.prog 28 [A l, .agg [I x, I n, I d]] (.tup [fA (actE l x n d).1, I (actE l x n d).2]) := by
  refine mk28 rfl ⟨fun h => ?_, fun h => ⟨fun h' => ?_, fun h' => ?_⟩⟩
  · simp at h
    subst h
    exact ⟨_, c13 l hl, true, _, c20 l n d, false, _, _, rfl, ⟨_, rfl, rfl, ret_fs, .inl ⟨rfl, rfl⟩⟩, rfl, rfl, trivial⟩
  · simp at h'
    subst h'
    exact ⟨_, c13 l hl, true, _, c24 l n d, false, _, _, rfl, ⟨_, rfl, rfl, ret_fs, .inl ⟨rfl, rfl⟩⟩, rfl, rfl, trivial⟩
  · simp at h h'
    rw [actE, if_neg h, if_neg h']
    exact ⟨_, c13 l hl, true, _, c26 l n d _, false, _, _, rfl, ⟨_, rfl, rfl, ret_fs, .inl ⟨rfl, rfl⟩⟩, rfl, rfl, trivial⟩
def r1 : Req := ⟨1, 7, 3, 5, 10, 0, 0⟩
def r2 : Req := ⟨2, 8, 3, 5, 10, 0, 0⟩
def r1' : Req := ⟨1, 7, 3, 5, 10, 1, 10⟩
def r2' : Req := ⟨2, 8, 3, 5, 10, 1, 10⟩
def w1 : List Req := [⟨1, 7, 3, 5, 10, 2, 11⟩, r2']
def w2 : List Req := [⟨1, 7, 3, 5, 10, 3, 12⟩, r2']
theorem c10 : Fn Try.prog 10 [] (.bool true) := by
  have h1 := fn_nil 7 (c12 [] r1)
  have h2 := c12 [r1'] r2
  have h3 := c19 [r1', r2'] (by decide) 5
  have h4 := c18 [r1', r2'] 2
  have h5 := c20 [r1', r2'] 1 11
  have h6 := c19 w1 (by decide) 5
  have h7 := c18 w1 2
  have h8 := c24 w1 1 12
  have h9 := c18 w2 2
  rw [show placeE [] r1 = ([r1'], 0) by decide] at h1
  rw [show placeE [r1'] r2 = ([r1', r2'], 0) by decide] at h2
  rw [show nextQ [r1', r2'] 5 = (1, true) by decide] at h3
  rw [show positionE [r1', r2'] 2 = (1, 0) by decide] at h4
  rw [show lendE [r1', r2'] 1 11 = (w1, 0) by decide] at h5
  rw [show nextQ w1 5 = (0, false) by decide] at h6
  rw [show positionE w1 2 = (1, 0) by decide] at h7
  rw [show returnE w1 1 12 = (w2, 0) by decide] at h8
  rw [show positionE w2 2 = (0, 0) by decide] at h9
  exact mk10 rfl ⟨_, h1, _, h2, _, h3, _, h4, _, h5, _, h6, _, h7, _, h8, _, h9, [], _, rfl, _, rfl, _, rfl, _, rfl, _, rfl, _, rfl, rfl, rfl, rfl⟩
end Go.Abs.L42
