import Derived.Test.YtncihdldkhkajaaC32i
namespace Go.Abs.L32
open Go Go.Abs Go.Abs.Day Go.Proofs Go.RowKit
set_option linter.unusedVariables false
set_option maxRecDepth 20000
theorem at_drop {l : List Per} {id : Int} {i : Nat} {a : Per} (ha : l[i]? = some a) (hp : ∀ (j : Nat) b, j < i → l[j]? = some b → b.id ≠ id) (h : a.id = id) : at? l id = i := by
  rcases at_spec l id with ⟨h1, h2⟩ | ⟨k, c, h1, h2, h3, h4⟩
  · exact absurd h (h2 a (List.mem_of_getElem? ha))
  · rw [h3]
    rcases Nat.lt_trichotomy k i with hlt | he | hlt
    · exact absurd h2 (hp k c hlt h1)
    · rw [he]
    · exact absurd h (h4 i a hlt ha)
theorem at_none {l : List Per} {id : Int} (hp : ∀ (j : Nat) b, j < l.length → l[j]? = some b → b.id ≠ id) : at? l id < 0 := by
  rcases at_spec l id with ⟨h1, h2⟩ | ⟨k, c, h1, h2, h3, h4⟩
  · omega
  · exact absurd h2 (hp k c (List.getElem?_eq_some_iff.1 h1).1 h1)
theorem c29 (l : List Per) (hl : l.length ≤ 9223372036854775807) (hz : ∀ p ∈ l, p.sz) (id : Int) (b d : Dat) : Fn Try.prog 29 [A l, I id, .agg (encD b), .agg (encD d)] (.tup [fA (learnR l id b d).1, I (learnR l id b d).2]) := by
  refine mk29 rfl ⟨[], _, c25 l hz, _, c_rdCheck b, _, c_rdCheck d, fun h => ?_, fun h => ?_⟩
  · have h : ((checkE l != 0) || (chkD b != 0) || (chkD d != 0)) = true := h
    rw [chk_bne, chk_bne] at h
    rw [learnR, if_pos (by simpa [or_assoc] using h)]
    exact ⟨_, _, rfl, .inr ⟨_, _, _, rfl⟩, rfl, rfl, trivial⟩
  · have h : ((checkE l != 0) || (chkD b != 0) || (chkD d != 0)) = false := h
    rw [chk_bne, chk_bne] at h
    have h' : (checkE l = 0 ∧ okD b = true) ∧ okD d = true := by simpa using h
    obtain ⟨⟨hc, hb⟩, hd⟩ := h'
    rw [learnR, if_neg (by simp [hc, hb, hd])]
    have hlen := check_len hc
    refine ⟨⟨by simp; omega, by simp; omega⟩, scalP l, ?_⟩
    refine ⟨fun n c => ∃ i m : Nat, m = l.length ∧ i ≤ l.length ∧ n = l.length - i ∧ c = ⟨[(1, I id), (6, .ovar 96 0), (7, .ovar 112 0), (8, .nilsl), (9, I 0), (10, .osl 448 6 m), (31, .osl 448 6 m), (32, I m), (33, I i)], [(96, ⟨28, 2, .any, [encD b]⟩), (112, ⟨28, 2, .any, [encD d]⟩), (448, ⟨35, 6, .pure, l.map encP⟩)]⟩ ∧ (∀ (j : Nat) b, j < i → l[j]? = some b → b.id ≠ id), ⟨_, _, Wk.keep [1, 6, 7, 8, 9, 10, 31, 32, 33] [96, 112, 448], 0, 0 + l.length, by omega, by omega, rfl, rfl, by omega⟩, ?_⟩
    rintro n c ⟨i, _, rfl, hi, rfl, rfl, hI⟩
    refine ⟨fun h => ?_, fun h => ?_⟩
    · simp at h
      obtain ⟨a, ha, hdr, _⟩ := drop_cons h
      have hm := List.mem_of_getElem? ha
      refine ⟨⟨by omega, by omega⟩, encP a, by simp [ha], fun hf => ?_, fun hf => ?_⟩
      · have hf : a.id ≠ id := by simpa using hf
        refine ⟨_, wrap64 (by omega) (by omega), _, _, Wk.keep [1, 6, 7, 8, 9, 10, 31, 32, 33] [96, 112, 448], by omega, i + 1, _, rfl, by omega, rfl, rfl, fun j b hj hb => ?_⟩
        rcases Nat.lt_or_eq_of_le (Nat.lt_succ_iff.1 hj) with hj | hj
        · exact hI j b hj hb
        · subst hj; rw [ha] at hb; injection hb with hb; subst hb; exact hf
      · have hf : a.id = id := by simpa using hf
        have hat := at_drop ha hI hf
        have hg : l.getD i zeroP = a := by simp [List.getD, ha]
        rw [if_neg (by omega), hat, Int.toNat_natCast, hg]
        have h44 := c44 a (hz a hm) b d
        by_cases hn : mayL a b d
        · rw [if_pos hn, if_pos hn] at h44
          rw [if_pos hn]
          refine ⟨_, h44, fun hk => (by cases hk), fun hk => ?_⟩
          refine ⟨⟨by omega, by omega⟩, encP a, get_map' ha rfl, ?_⟩
          refine ⟨_, _, rfl, ⟨_, rfl, rfl, ?_, .inl ⟨rfl, ?_⟩⟩, rfl, rfl, trivial⟩
          · simp
          · simp [List.map_set]; rfl
        · rw [if_neg hn, if_neg hn] at h44
          rw [if_neg hn]
          refine ⟨_, h44, fun hk => ?_, fun hk => (by cases hk)⟩
          exact ⟨_, _, rfl, .inr ⟨_, _, _, rfl⟩, rfl, rfl, trivial⟩
    · simp at h
      have : i = l.length := by omega
      subst this
      rw [if_pos (at_none hI)]
      exact ⟨_, _, rfl, .inr ⟨_, _, _, rfl⟩, rfl, rfl, trivial⟩
/-! ### joining -/
def joinR (p q : Per) : Per × Int :=
  if faultE p ≠ 0 ∨ faultE q ≠ 0 then (zeroP, 1)
  else if q.id < p.id then (if mayL q p.b p.d then (lrn q p.b p.d, 0) else (zeroP, 10))
  else (if mayL p q.b q.d then (lrn p q.b q.d, 0) else (zeroP, 10))
theorem c30 (p q : Per) (hp : p.sz) (hq : q.sz) : Fn Try.prog 30 [.agg (encP p), .agg (encP q)] (.tup [.agg (encP (joinR p q).1), I (joinR p q).2]) := by
  refine mk30 rfl ⟨[], _, c37 p hp, _, c37 q hq, fun h => ?_, fun h => ?_⟩
  · rw [joinR, if_pos (by simpa using h)]
    exact ⟨_, _, rfl, ⟨rfl, rfl⟩, rfl, rfl, trivial⟩
  · have h : faultE p = 0 ∧ faultE q = 0 := by simpa using h
    obtain ⟨p1, p2, _⟩ := fault_ok h.1
    obtain ⟨q1, q2, _⟩ := fault_ok h.2
    rw [joinR, if_neg (by simp [h.1, h.2])]
    refine ⟨fun hs => ?_, fun hs => ?_⟩
    · rw [if_pos (by simpa using hs)]
      obtain ⟨k1, k2⟩ := mlrn_eq q1 q2 p1 p2
      refine ⟨_, c36 q hq p.b p.d, fun hk => ?_, fun hk => ?_⟩
      · have hk : (!((meetE q.b p.b).2 && (meetE q.d p.d).2 && (faultE (mlrn q p.b p.d) == 0))) = true := hk
        rw [k1] at hk
        rw [if_neg (by simpa using hk)]
        exact ⟨_, _, rfl, ⟨rfl, rfl⟩, rfl, rfl, trivial⟩
      · have hk : (!((meetE q.b p.b).2 && (meetE q.d p.d).2 && (faultE (mlrn q p.b p.d) == 0))) = false := hk
        rw [k1] at hk
        have hk : mayL q p.b p.d := by simpa using hk
        rw [if_pos hk, k2 hk]
        exact ⟨_, _, rfl, ⟨rfl, rfl⟩, rfl, rfl, trivial⟩
    · rw [if_neg (by simpa using hs)]
      obtain ⟨k1, k2⟩ := mlrn_eq p1 p2 q1 q2
      refine ⟨_, c36 p hp q.b q.d, fun hk => ?_, fun hk => ?_⟩
      · have hk : (!((meetE p.b q.b).2 && (meetE p.d q.d).2 && (faultE (mlrn p q.b q.d) == 0))) = true := hk
        rw [k1] at hk
        rw [if_neg (by simpa using hk)]
        exact ⟨_, _, rfl, ⟨rfl, rfl⟩, rfl, rfl, trivial⟩
      · have hk : (!((meetE p.b q.b).2 && (meetE p.d q.d).2 && (faultE (mlrn p q.b q.d) == 0))) = false := hk
        rw [k1] at hk
        have hk : mayL p q.b q.d := by simpa using hk
        rw [if_pos hk, k2 hk]
        exact ⟨_, _, rfl, ⟨rfl, rfl⟩, rfl, rfl, trivial⟩
theorem c31 (p q : Per) (hp : p.sz) (hq : q.sz) : Fn Try.prog 31 [.agg (encP p), .agg (encP q)] (.tup [.agg (encP (joinR p q).1), I (joinR p q).2]) := by
  refine mk31 rfl ⟨[], _, c41 p hp, _, c41 q hq, fun h => ?_, fun h => ?_⟩
  · rw [joinR, if_pos (by simpa using h)]
    exact ⟨_, _, rfl, ⟨rfl, rfl⟩, rfl, rfl, trivial⟩
  · have h : faultE p = 0 ∧ faultE q = 0 := by simpa using h
    rw [joinR, if_neg (by simp [h.1, h.2])]
    refine ⟨fun hs => ?_, fun hs => ?_⟩
    · rw [if_pos (by simpa using hs)]
      refine ⟨_, c44 q hq p.b p.d, ?_⟩
      by_cases hm : mayL q p.b p.d
      · simp only [if_pos hm]
        exact ⟨_, _, rfl, ⟨rfl, rfl⟩, rfl, rfl, trivial⟩
      · simp only [if_neg hm]
        exact ⟨_, _, rfl, ⟨rfl, rfl⟩, rfl, rfl, trivial⟩
    · rw [if_neg (by simpa using hs)]
      refine ⟨_, c44 p hp q.b q.d, ?_⟩
      by_cases hm : mayL p q.b q.d
      · simp only [if_pos hm]
        exact ⟨_, _, rfl, ⟨rfl, rfl⟩, rfl, rfl, trivial⟩
      · simp only [if_neg hm]
        exact ⟨_, _, rfl, ⟨rfl, rfl⟩, rfl, rfl, trivial⟩
/-! ### comparing -/
theorem c19 (l m : List Per) (hl : l.length ≤ 9223372036854775807) : Fn Try.prog 19 [A l, A m] (.bool (decide (l = m))) := by
  refine mk19 rfl ⟨fun h => ?_, fun h => ?_⟩
  · simp at h
    exact ⟨rfl, rfl, by rw [decide_eq_false (by rintro rfl; omega)]; rfl⟩
  · simp at h
    have hlen : l.length = m.length := by omega
    refine ⟨fun n c => ∃ i : Nat, i ≤ l.length ∧ n = l.length - i ∧ c = ⟨[(0, A l), (1, A m), (4, .bool false), (12, I l.length), (13, I i)], []⟩ ∧ l.take i = m.take i, ⟨_, _, Wk.keep [0, 1, 4, 12, 13] [], 0, by omega, rfl, rfl, by simp⟩, ?_⟩
    rintro n c ⟨i, hi, rfl, rfl, hI⟩
    refine ⟨fun h => ?_, fun h => ?_⟩
    · simp at h
      obtain ⟨a, ha, _, _⟩ := drop_cons h
      obtain ⟨b, hb, _, _⟩ := drop_cons (l := m) (i := i) (by omega)
      obtain ⟨k1, k2⟩ := drop2 ha hb hI
      refine ⟨⟨by omega, by omega⟩, encP a, by simp [ha], ⟨by omega, by omega⟩, encP b, by simp [hb], fun hf => ?_, fun hf => ?_⟩
      · have hf : (!eqL (encP a) (encP b)) = true := hf
        simp only [Bool.not_eq_true', eqL_P, decide_eq_false_iff_not] at hf
        exact ⟨rfl, rfl, by rw [decide_eq_false (k1 hf)]; rfl⟩
      · have hf : (!eqL (encP a) (encP b)) = false := hf
        simp only [Bool.not_eq_false', eqL_P, decide_eq_true_eq] at hf
        refine ⟨_, wrap64 (by omega) (by omega), ?_⟩
        exact ⟨_, _, Wk.keep [0, 1, 4, 12, 13] [], by omega, i + 1, by omega, rfl, rfl, k2 hf⟩
    · simp at h
      have : i = l.length := by omega
      subst this
      rw [List.take_length, hlen, List.take_length] at hI
      exact ⟨rfl, rfl, by rw [decide_eq_true hI]; rfl⟩
structure Gr where
  kind : Int
  src : Int
  oth : Int
  til : Int
  deriving DecidableEq
def encG (g : Gr) : List AV := [I g.kind, I g.src, I g.oth, I g.til]
abbrev G (l : List Gr) : AV := .rsl 4 l.length (l.map encG)
abbrev fG (l : List Gr) : AV := .fsl true 64 4 l.length (l.map encG)
theorem eqL_G (a b : Gr) : eqL (encG a) (encG b) = decide (a = b) := by
  rw [Bool.eq_iff_iff]; cases a; cases b; simp [eqL, encG, eqC]
theorem c17 (l m : List Gr) (hl : l.length ≤ 9223372036854775807) : Fn Try.prog 17 [G l, G m] (.bool (decide (l = m))) := by
  refine mk17 rfl ⟨fun h => ?_, fun h => ?_⟩
  · simp at h
    exact ⟨rfl, rfl, by rw [decide_eq_false (by rintro rfl; omega)]; rfl⟩
  · simp at h
    have hlen : l.length = m.length := by omega
    refine ⟨fun n c => ∃ i : Nat, i ≤ l.length ∧ n = l.length - i ∧ c = ⟨[(0, G l), (1, G m), (4, .bool false), (12, I l.length), (13, I i)], []⟩ ∧ l.take i = m.take i, ⟨_, _, Wk.keep [0, 1, 4, 12, 13] [], 0, by omega, rfl, rfl, by simp⟩, ?_⟩
    rintro n c ⟨i, hi, rfl, rfl, hI⟩
    refine ⟨fun h => ?_, fun h => ?_⟩
    · simp at h
      obtain ⟨a, ha, _, _⟩ := drop_cons h
      obtain ⟨b, hb, _, _⟩ := drop_cons (l := m) (i := i) (by omega)
      obtain ⟨k1, k2⟩ := drop2 ha hb hI
      refine ⟨⟨by omega, by omega⟩, encG a, by simp [ha], ⟨by omega, by omega⟩, encG b, by simp [hb], fun hf => ?_, fun hf => ?_⟩
      · have hf : (!eqL (encG a) (encG b)) = true := hf
        simp only [Bool.not_eq_true', eqL_G, decide_eq_false_iff_not] at hf
        exact ⟨rfl, rfl, by rw [decide_eq_false (k1 hf)]; rfl⟩
      · have hf : (!eqL (encG a) (encG b)) = false := hf
        simp only [Bool.not_eq_false', eqL_G, decide_eq_true_eq] at hf
        refine ⟨_, wrap64 (by omega) (by omega), ?_⟩
        exact ⟨_, _, Wk.keep [0, 1, 4, 12, 13] [], by omega, i + 1, by omega, rfl, rfl, k2 hf⟩
    · simp at h
      have : i = l.length := by omega
      subst this
      rw [List.take_length, hlen, List.take_length] at hI
      exact ⟨rfl, rfl, by rw [decide_eq_true hI]; rfl⟩
def fewB (l : List Per) : Bool := l.all (fun p => decide (p.name.length ≤ 200)) && decide (l.length ≤ 20)
theorem c12 (l : List Per) (hl : l.length ≤ 9223372036854775807) : Fn Try.prog 12 [A l] (.bool (fewB l)) := by
  refine mk12 rfl ?_
  refine ⟨fun n c => ∃ i : Nat, i ≤ l.length ∧ n = l.length - i ∧ c = ⟨[(0, A l), (2, .bool false), (5, A l), (6, I l.length), (7, I i)], []⟩ ∧ (l.drop i).all (fun p => decide (p.name.length ≤ 200)) = l.all (fun p => decide (p.name.length ≤ 200)), ⟨_, _, Wk.keep [0, 2, 5, 6, 7] [], 0, by omega, rfl, rfl, by simp⟩, ?_⟩
  rintro n c ⟨i, hi, rfl, rfl, hI⟩
  refine ⟨fun h => ?_, fun h => ?_⟩
  · simp at h
    obtain ⟨a, ha, hd, _⟩ := drop_cons h
    rw [hd, List.all_cons] at hI
    refine ⟨⟨by omega, by omega⟩, encP a, by simp [ha], fun hf => ?_, fun hf => ?_⟩
    · have hf : 200 < a.name.length := by
        have : decide ((((bs a.name).size : Nat) : Int) > 200) = true := hf
        rw [bs_size] at this
        simp at this
        omega
      rw [decide_eq_false (by omega), Bool.false_and] at hI
      rw [fewB, ← hI]
      exact ⟨rfl, rfl, rfl⟩
    · have hf : a.name.length ≤ 200 := by
        have : decide ((((bs a.name).size : Nat) : Int) > 200) = false := hf
        rw [bs_size] at this
        simp at this
        omega
      rw [decide_eq_true hf, Bool.true_and] at hI
      exact ⟨_, wrap64 (by omega) (by omega), _, _, Wk.keep [0, 2, 5, 6, 7] [], by omega, i + 1, by omega, rfl, rfl, hI⟩
  · simp at h
    have : i = l.length := by omega
    subst this
    simp only [List.drop_length, List.all_nil] at hI
    rw [fewB, ← hI]
    refine ⟨rfl, rfl, ?_⟩
    show AV.bool _ = AV.bool (decide ((l.length : Int) ≤ 20))
    simp
    omega
theorem few_len {l : List Per} (h : fewB l = true) : l.length ≤ 20 := by
  unfold fewB at h; simp at h; exact h.2
end Go.Abs.L32
