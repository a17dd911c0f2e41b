import Derived.Test.YtknbomaidhlnlaaB42
namespace Go.Abs.L42
open Go Go.Abs Go.Proofs
set_option linter.unusedVariables false
set_option maxRecDepth 20000
structure Req where
  id : Int
  rd : Int
  un : Int
  bx : Int
  dy : Int
  st : Int
  ch : Int
  deriving DecidableEq
def encR (r : Req) : List AV := [.int .i64 r.id, .int .i64 r.rd, .int .i64 r.un, .int .i64 r.bx, .int .i64 r.dy, .int .i64 r.st, .int .i64 r.ch]
abbrev I (n : Int) : AV := .int .i64 n
abbrev A (l : List Req) : AV := .rsl 7 l.length (l.map encR)
abbrev fA (l : List Req) : AV := .fsl true 24 7 l.length (l.map encR)
abbrev X (n : Int) : AV := .rptr [I n] 0
def idB (n : Int) : Bool := decide (n ≥ 1) && decide (n ≤ 1073741824)
def dayB (n : Int) : Bool := decide (n ≥ 0) && decide (n ≤ 1048575)
def openB (r : Req) : Bool := (r.st == 1) || (r.st == 2)
def formedB (r : Req) : Bool := idB r.id && idB r.rd && idB r.un && idB r.bx && dayB r.dy && decide (r.st ≥ 1) && decide (r.st ≤ 5) && decide (r.ch ≥ r.dy) && dayB r.ch && ((r.st != 1) || (r.ch == r.dy))
theorem c34 (n : Int) : Fn Try.prog 34 [I n] (.bool (idB n)) := mk34 rfl ⟨[], rfl, rfl, rfl⟩
theorem c35 (n : Int) : Fn Try.prog 35 [I n] (.bool (dayB n)) := mk35 rfl ⟨[], rfl, rfl, rfl⟩
theorem c37 (n : Int) : Fn Try.prog 37 [I n] (.bool (idB n)) := mk37 rfl ⟨[], rfl, rfl, rfl⟩
theorem c38 (n : Int) : Fn Try.prog 38 [I n] (.bool (dayB n)) := mk38 rfl ⟨[], rfl, rfl, rfl⟩
theorem c39 (r : Req) : Fn Try.prog 39 [.agg (encR r)] (.bool (openB r)) := mk39 rfl ⟨[], rfl, rfl, rfl⟩
theorem c42 (r : Req) : Fn Try.prog 42 [.agg (encR r)] (.bool (openB r)) := mk42 rfl ⟨[], rfl, rfl, rfl⟩
theorem c40 (r : Req) : Fn Try.prog 40 [.agg (encR r)] (.bool (formedB r)) := mk40 rfl ⟨[], _, c34 r.id, _, c34 r.rd, _, c34 r.un, _, c34 r.bx, _, c35 r.dy, _, c35 r.ch, rfl, rfl, rfl⟩
def formR (r : Req) : Bool := idB r.id && idB r.rd && idB r.un && idB r.bx && dayB r.dy && decide (r.st ≥ 1) && decide (r.st ≤ 5) && decide (r.ch ≥ r.dy) && decide (r.ch ≤ 1048575) && ((r.st != 1) || (r.ch == r.dy))
theorem form_eq (r : Req) : formR r = formedB r := by
  rw [Bool.eq_iff_iff]
  simp only [formR, formedB, idB, dayB, Bool.and_eq_true, decide_eq_true_eq]
  constructor
  · rintro ⟨⟨⟨⟨⟨⟨⟨⟨⟨h1, h2⟩, h3⟩, h4⟩, h5⟩, h6⟩, h7⟩, h8⟩, h9⟩, h10⟩
    exact ⟨⟨⟨⟨⟨⟨⟨⟨⟨h1, h2⟩, h3⟩, h4⟩, h5⟩, h6⟩, h7⟩, h8⟩, ⟨by omega, h9⟩⟩, h10⟩
  · rintro ⟨⟨⟨⟨⟨⟨⟨⟨⟨h1, h2⟩, h3⟩, h4⟩, h5⟩, h6⟩, h7⟩, h8⟩, h9⟩, h10⟩
    exact ⟨⟨⟨⟨⟨⟨⟨⟨⟨h1, h2⟩, h3⟩, h4⟩, h5⟩, h6⟩, h7⟩, h8⟩, h9.2⟩, h10⟩
theorem c43 (r : Req) : Fn Try.prog 43 [.agg (encR r)] (.bool (formedB r)) := mk43 rfl ⟨[], _, c37 r.id, _, c37 r.rd, _, c37 r.un, _, c37 r.bx, _, c38 r.dy, rfl, rfl, by rw [← form_eq]; rfl⟩
theorem c11 (l : List Req) : Fn Try.prog 11 [A l] (.bool (decide ((l.length : Int) ≤ 40))) := mk11 rfl ⟨rfl, rfl, rfl⟩
theorem scalR (l : List Req) : Scal (l.map encR) := by
  intro row hr u hu
  simp only [List.mem_map] at hr
  obtain ⟨a, _, rfl⟩ := hr
  simp only [encR, List.mem_cons, List.not_mem_nil, or_false] at hu
  rcases hu with rfl | rfl | rfl | rfl | rfl | rfl | rfl <;> rfl
theorem c13n : Fn Try.prog 13 [.nilsl] (fA []) := mk13 rfl ⟨fun _ => ⟨rfl, .inr ⟨_, _, _, rfl⟩⟩, fun h => by cases h⟩
theorem c13e : Fn Try.prog 13 [.esl] (fA []) := mk13 rfl ⟨fun h => (by cases h), fun _ => ⟨by decide, rfl, _, rfl, rfl, rfl, .inl ⟨rfl, rfl⟩⟩⟩
theorem c13 (l : List Req) (h : l.length ≤ 2000) : Fn Try.prog 13 [A l] (fA l) := by
  cases l with
  | nil => exact fn_empty c13n c13e
  | cons a l =>
    refine mk13 rfl ⟨by simp, fun h => (by cases h), fun _ => ?_⟩
    exact ⟨⟨by simp at h ⊢; omega, by simp at h ⊢; omega⟩, scalR (a :: l), rfl, _, rfl, rfl, by simp, .inl ⟨rfl, by simp⟩⟩
theorem c54 (r : Req) (x y : Int) : Fn Try.prog 54 [.agg (encR r), X x, X y] (.bool (openB r && (r.rd == x) && (r.un == y))) := mk54 rfl ⟨[], _, c42 r, rfl, rfl, rfl⟩
theorem c55 (r : Req) (x : Int) : Fn Try.prog 55 [.agg (encR r), X x] (.bool ((r.st == 2) && (r.bx == x))) := mk55 rfl ⟨[], rfl, rfl, rfl⟩
theorem c56 (r : Req) (x : Int) : Fn Try.prog 56 [.agg (encR r), X x] (.bool (r.id == x)) := mk56 rfl ⟨rfl, rfl, rfl⟩
theorem c57 (r : Req) (x : Int) : Fn Try.prog 57 [.agg (encR r), X x] (.bool ((r.st == 1) && (r.bx == x))) := mk57 rfl ⟨[], rfl, rfl, rfl⟩
theorem c48a (l : List Req) (hl : l.length ≤ 9223372036854775807) (p : Req → Bool) (g : FuncId) (xs : List AV) (hp : ∀ a ∈ l, Fn Try.prog g [.agg (encR a), .rptr xs 0] (.bool (p a))) : Fn Try.prog 48 [A l, .func g [.rptr xs 0]] (I (idxF p 0 l)) := by
  refine mk48 rfl ?_
  refine ⟨fun n c => ∃ i : Nat, i ≤ l.length ∧ n = l.length - i ∧ c = ⟨[(0, A l), (1, .func g [.rptr xs 0]), (4, I 0), (7, I l.length), (8, I i)], []⟩ ∧ idxF p i (l.drop i) = idxF p 0 l, ⟨_, _, Wk.keep [0, 1, 4, 7, 8] [], 0, by omega, rfl, rfl, by simp⟩, ?_⟩
  rintro n c ⟨i, hi, rfl, rfl, hI⟩
  refine ⟨fun h => ?_, fun h => ?_⟩
  · simp at h
    obtain ⟨a, ha, hd, _⟩ := drop_cons h
    rw [hd, idxF] at hI
    refine ⟨⟨by omega, by omega⟩, encR a, by simp [ha], _, hp a (List.mem_of_getElem? ha), fun hf => ?_, fun hf => ?_⟩
    · rw [if_pos hf] at hI
      exact ⟨rfl, rfl, by rw [← hI]; rfl⟩
    · rw [if_neg (by simp [hf])] at hI
      refine ⟨_, wrap64 (by omega) (by omega), ?_⟩
      exact ⟨_, _, Wk.keep [0, 1, 4, 7, 8] [], by omega, i + 1, by omega, rfl, rfl, hI⟩
  · simp at h
    have : i = l.length := by omega
    subst this
    simp [idxF] at hI
    exact ⟨rfl, rfl, by rw [← hI]; rfl⟩
theorem c48b (l : List Req) (hl : l.length ≤ 9223372036854775807) (p : Req → Bool) (g : FuncId) (xs ys : List AV) (hp : ∀ a ∈ l, Fn Try.prog g [.agg (encR a), .rptr xs 0, .rptr ys 0] (.bool (p a))) : Fn Try.prog 48 [A l, .func g [.rptr xs 0, .rptr ys 0]] (I (idxF p 0 l)) := by
  refine mk48 rfl ?_
  refine ⟨fun n c => ∃ i : Nat, i ≤ l.length ∧ n = l.length - i ∧ c = ⟨[(0, A l), (1, .func g [.rptr xs 0, .rptr ys 0]), (4, I 0), (7, I l.length), (8, I i)], []⟩ ∧ idxF p i (l.drop i) = idxF p 0 l, ⟨_, _, Wk.keep [0, 1, 4, 7, 8] [], 0, by omega, rfl, rfl, by simp⟩, ?_⟩
  rintro n c ⟨i, hi, rfl, rfl, hI⟩
  refine ⟨fun h => ?_, fun h => ?_⟩
  · simp at h
    obtain ⟨a, ha, hd, _⟩ := drop_cons h
    rw [hd, idxF] at hI
    refine ⟨⟨by omega, by omega⟩, encR a, by simp [ha], _, hp a (List.mem_of_getElem? ha), fun hf => ?_, fun hf => ?_⟩
    · rw [if_pos hf] at hI
      exact ⟨rfl, rfl, by rw [← hI]; rfl⟩
    · rw [if_neg (by simp [hf])] at hI
      refine ⟨_, wrap64 (by omega) (by omega), ?_⟩
      exact ⟨_, _, Wk.keep [0, 1, 4, 7, 8] [], by omega, i + 1, by omega, rfl, rfl, hI⟩
  · simp at h
    have : i = l.length := by omega
    subst this
    simp [idxF] at hI
    exact ⟨rfl, rfl, by rw [← hI]; rfl⟩
theorem c21a (l : List Req) (hl : l.length ≤ 9223372036854775807) (p : Req → Bool) (g : FuncId) (xs : List AV) (hp : ∀ a ∈ l, Fn Try.prog g [.agg (encR a), .rptr xs 0] (.bool (p a))) : Fn Try.prog 21 [A l, .func g [.rptr xs 0]] (.bool (l.any p)) :=
  mk21 rfl ⟨_, c48a l hl p g xs hp, rfl, rfl, by rw [← idxF_any]; rfl⟩
theorem c21b (l : List Req) (hl : l.length ≤ 9223372036854775807) (p : Req → Bool) (g : FuncId) (xs ys : List AV) (hp : ∀ a ∈ l, Fn Try.prog g [.agg (encR a), .rptr xs 0, .rptr ys 0] (.bool (p a))) : Fn Try.prog 21 [A l, .func g [.rptr xs 0, .rptr ys 0]] (.bool (l.any p)) :=
  mk21 rfl ⟨_, c48b l hl p g xs ys hp, rfl, rfl, by rw [← idxF_any]; rfl⟩
def lentP (l : List Req) (b : Int) : Bool := l.any fun r => (r.st == 2) && (r.bx == b)
def dblP (l : List Req) (x y : Int) : Bool := l.any fun r => openB r && (r.rd == x) && (r.un == y)
theorem c41 (l : List Req) (hl : l.length ≤ 9223372036854775807) (b : Int) : Fn Try.prog 41 [A l, I b] (.bool (lentP l b)) := mk41 rfl ⟨_, c21a l hl _ 55 [I b] (fun a _ => c55 a b), rfl, rfl, rfl⟩
theorem c36 (l : List Req) (hl : l.length ≤ 9223372036854775807) (x y : Int) : Fn Try.prog 36 [A l, I x, I y] (.bool (dblP l x y)) := mk36 rfl ⟨_, c21b l hl _ 54 [I x] [I y] (fun a _ => c54 a x y), rfl, rfl, rfl⟩
def indexE (l : List Req) (n : Int) : Int := idxF (fun r : Req => r.id == n) 0 l
theorem c44 (l : List Req) (hl : l.length ≤ 9223372036854775807) (n : Int) : Fn Try.prog 44 [A l, I n] (I (indexE l n)) := mk44 rfl ⟨_, c48a l hl _ 56 [I n] (fun a _ => c56 a n), rfl, rfl, rfl⟩
def nextE (l : List Req) (b : Int) : Int := if lentP l b = true then -1 else idxF (fun r : Req => (r.st == 1) && (r.bx == b)) 0 l
theorem c45 (l : List Req) (hl : l.length ≤ 9223372036854775807) (b : Int) : Fn Try.prog 45 [A l, I b] (I (nextE l b)) := by
  refine mk45 rfl ⟨_, c41 l hl b, fun h => ?_, fun h => ?_⟩
  · rw [nextE, if_pos h]; exact ⟨rfl, rfl, rfl⟩
  · rw [nextE, if_neg (by simp [h])]
    exact ⟨_, c48a l hl _ 57 [I b] (fun a _ => c57 a b), rfl, rfl, rfl⟩
end Go.Abs.L42
