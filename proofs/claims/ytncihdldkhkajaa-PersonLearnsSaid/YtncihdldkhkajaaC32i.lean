import Derived.Test.YtncihdldkhkajaaC32h
namespace Go.Abs.L32
open Go Go.Abs Go.Abs.Day Go.Proofs Go.RowKit
set_option linter.unusedVariables false
set_option maxRecDepth 20000
/-! ### learning -/
def bothE (a b : Dat) : Dat := ⟨maxI a.lo b.lo, minI a.hi b.hi⟩
def lrn (p : Per) (b d : Dat) : Per := { p with b := bothE p.b b, d := bothE p.d d }
def mayL (p : Per) (b d : Dat) : Prop := (bothE p.b b).lo ≤ (bothE p.b b).hi ∧ (bothE p.d d).lo ≤ (bothE p.d d).hi ∧ faultE (lrn p b d) = 0
instance (p : Per) (b d : Dat) : Decidable (mayL p b d) := by unfold mayL; infer_instance
theorem c60 (a b : Dat) : Fn Try.prog 60 [.agg (encD a), .agg (encD b)] (.tup [.agg (encD (bothE a b)), .bool (decide ((bothE a b).lo ≤ (bothE a b).hi))]) := by
  refine mk60 rfl ?_
  exact ⟨_, _, rfl, ⟨rfl, rfl⟩, rfl, rfl, trivial⟩
theorem c44 (p : Per) (hp : p.sz) (b d : Dat) : Fn Try.prog 44 [.agg (encP p), .agg (encD b), .agg (encD d)] (.tup [.agg (encP (if mayL p b d then lrn p b d else zeroP)), I (if mayL p b d then 0 else 10)]) := by
  refine mk44 rfl ⟨_, c60 p.b b, _, c60 p.d d, [], _, c41 (lrn p b d) hp, fun h => ?_, fun h => ?_⟩
  · have h : (!decide ((bothE p.b b).lo ≤ (bothE p.b b).hi) || !decide ((bothE p.d d).lo ≤ (bothE p.d d).hi) || (faultE (lrn p b d) != 0)) = true := h
    have hn : ¬ mayL p b d := by
      rintro ⟨h1, h2, h3⟩
      simp [h1, h2, h3] at h
    rw [if_neg hn, if_neg hn]
    exact ⟨_, _, rfl, ⟨rfl, rfl⟩, rfl, rfl, trivial⟩
  · have h : (!decide ((bothE p.b b).lo ≤ (bothE p.b b).hi) || !decide ((bothE p.d d).lo ≤ (bothE p.d d).hi) || (faultE (lrn p b d) != 0)) = false := h
    have hn : mayL p b d := by
      simp at h
      exact ⟨h.1.1, h.1.2, h.2⟩
    rw [if_pos hn, if_pos hn]
    exact ⟨_, _, rfl, ⟨rfl, rfl⟩, rfl, rfl, trivial⟩
def mlrn (p : Per) (b d : Dat) : Per := { p with b := (meetE p.b b).1, d := (meetE p.d d).1 }
theorem c36 (p : Per) (hp : p.sz) (b d : Dat) : Fn Try.prog 36 [.agg (encP p), .agg (encD b), .agg (encD d)] (.tup [.agg (encP (mlrn p b d)), .bool ((meetE p.b b).2 && (meetE p.d d).2 && (faultE (mlrn p b d) == 0))]) := by
  refine mk36 rfl ⟨_, c_Meet p.b b, _, c_Meet p.d d, [], _, c37 (mlrn p b d) hp, ?_⟩
  exact ⟨_, _, rfl, ⟨rfl, rfl⟩, rfl, rfl, trivial⟩
theorem meet_eq {a b : Dat} (ha : okD a = true) (hb : okD b = true) : (meetE a b).2 = decide ((bothE a b).lo ≤ (bothE a b).hi) ∧ ((bothE a b).lo ≤ (bothE a b).hi → (meetE a b).1 = bothE a b) := by
  unfold meetE
  by_cases h : maxI a.lo b.lo ≤ minI a.hi b.hi
  · rw [if_pos ⟨ha, hb, h⟩]
    exact ⟨(decide_eq_true h).symm, fun _ => rfl⟩
  · rw [if_neg (by simp [h])]
    exact ⟨(decide_eq_false h).symm, fun h' => absurd h' h⟩
theorem mlrn_eq {p : Per} {b d : Dat} (h1 : okD p.b = true) (h2 : okD p.d = true) (hb : okD b = true) (hd : okD d = true) :
    ((meetE p.b b).2 && (meetE p.d d).2 && (faultE (mlrn p b d) == 0)) = decide (mayL p b d) ∧ (mayL p b d → mlrn p b d = lrn p b d) := by
  obtain ⟨e1, f1⟩ := meet_eq h1 hb
  obtain ⟨e2, f2⟩ := meet_eq h2 hd
  have key : (bothE p.b b).lo ≤ (bothE p.b b).hi → (bothE p.d d).lo ≤ (bothE p.d d).hi → mlrn p b d = lrn p b d := fun g1 g2 => by
    unfold mlrn lrn; rw [f1 g1, f2 g2]
  refine ⟨?_, fun h => key h.1 h.2.1⟩
  rw [e1, e2, Bool.eq_iff_iff]
  simp only [Bool.and_eq_true, decide_eq_true_eq, beq_iff_eq]
  unfold mayL
  constructor
  · rintro ⟨⟨g1, g2⟩, g3⟩
    rw [key g1 g2] at g3
    exact ⟨g1, g2, g3⟩
  · rintro ⟨g1, g2, g3⟩
    rw [key g1 g2]
    exact ⟨⟨g1, g2⟩, g3⟩
theorem scalP (l : List Per) : Scal (l.map encP) := by
  intro row hr u hu
  simp only [List.mem_map] at hr
  obtain ⟨a, _, rfl⟩ := hr
  simp only [encP, List.mem_cons, List.not_mem_nil, or_false] at hu
  rcases hu with rfl | rfl | rfl | rfl | rfl | rfl <;> rfl
theorem c14n : Fn Try.prog 14 [.nilsl] (fA []) := mk14 rfl ⟨fun _ => ⟨rfl, .inr ⟨_, _, _, rfl⟩⟩, fun h => by cases h⟩
theorem c14e : Fn Try.prog 14 [.esl] (fA []) := mk14 rfl ⟨fun h => (by cases h), fun _ => ⟨by decide, rfl, _, rfl, rfl, rfl, .inl ⟨rfl, rfl⟩⟩⟩
theorem c14 (l : List Per) (h : l.length ≤ 2000) : Fn Try.prog 14 [A l] (fA l) := by
  cases l with
  | nil => exact fn_empty c14n c14e
  | cons a l =>
    refine mk14 rfl ⟨by simp, fun h => (by cases h), fun _ => ?_⟩
    exact ⟨⟨by simp at h ⊢; omega, by simp at h ⊢; omega⟩, scalP (a :: l), rfl, _, rfl, rfl, by simp, .inl ⟨rfl, by simp⟩⟩
abbrev fI (l : List Int) : AV := .fsl true 3 1 l.length (l.map fun k => [I k])
theorem scalI (l : List Int) : Scal (l.map fun k => [I k]) := by
  intro row hr u hu
  simp only [List.mem_map] at hr
  obtain ⟨a, _, rfl⟩ := hr
  simp only [List.mem_cons, List.not_mem_nil, or_false] at hu
  rcases hu with rfl; rfl
theorem c15n : Fn Try.prog 15 [.nilsl] (fI []) := mk15 rfl ⟨fun _ => ⟨rfl, .inr ⟨_, _, _, rfl⟩⟩, fun h => by cases h⟩
theorem c15e : Fn Try.prog 15 [.esl] (fI []) := mk15 rfl ⟨fun h => (by cases h), fun _ => ⟨by decide, rfl, _, rfl, rfl, rfl, .inl ⟨rfl, rfl⟩⟩⟩
theorem c15 (l : List Int) (h : l.length ≤ 2000) : Fn Try.prog 15 [Is l] (fI l) := by
  cases l with
  | nil => exact fn_empty c15n c15e
  | cons a l =>
    refine mk15 rfl ⟨by simp, fun h => (by cases h), fun _ => ?_⟩
    exact ⟨⟨by simp at h ⊢; omega, by simp at h ⊢; omega⟩, scalI (a :: l), rfl, _, rfl, rfl, by simp, .inl ⟨rfl, by simp⟩⟩
/-- what learning leads to: the place and the person there -/
def learnR (l : List Per) (id : Int) (b d : Dat) : List Per × Int :=
  if checkE l ≠ 0 ∨ okD b = false ∨ okD d = false then ([], 1)
  else if at? l id < 0 then ([], 7)
  else if mayL (l.getD (at? l id).toNat zeroP) b d then (l.set (at? l id).toNat (lrn (l.getD (at? l id).toNat zeroP) b d), 0) else ([], 10)
theorem eqL_P (a b : Per) : eqL (encP a) (encP b) = decide (a = b) := by
  rw [Bool.eq_iff_iff]; obtain ⟨i, n, ⟨b1, b2⟩, ⟨d1, d2⟩⟩ := a; obtain ⟨i', n', ⟨b1', b2'⟩, ⟨d1', d2'⟩⟩ := b; simp [eqL, encP, eqC, bs_toList, and_assoc]
theorem set_self {α : Type} {l : List α} {i : Nat} {a : α} (h : l[i]? = some a) : l.set i a = l := by
  obtain ⟨hi, he⟩ := List.getElem?_eq_some_iff.1 h
  rw [← he]; simp
theorem c18 (l : List Per) (hl : l.length ≤ 9223372036854775807) (hz : ∀ p ∈ l, p.sz) (id : Int) (b d : Dat) : Fn Try.prog 18 [A l, I id, .agg (encD b), .agg (encD d)] (.tup [fA (learnR l id b d).1, I (learnR l id b d).2]) := by
  refine mk18 rfl ⟨[], _, c24 l hz, _, c_dCheck b, _, c_dCheck d, fun h => ?_, fun h => ?_⟩
  · have h : ((checkE l != 0) || (chkD b != 0) || (chkD d != 0)) = true := h
    rw [chk_bne, chk_bne] at h
    rw [learnR, if_pos (by simpa [or_assoc] using h)]
    exact ⟨_, _, rfl, .inr ⟨_, _, _, rfl⟩, rfl, rfl, trivial⟩
  · have h : ((checkE l != 0) || (chkD b != 0) || (chkD d != 0)) = false := h
    rw [chk_bne, chk_bne] at h
    have h' : (checkE l = 0 ∧ okD b = true) ∧ okD d = true := by simpa using h
    obtain ⟨⟨hc, hb⟩, hd⟩ := h'
    rw [learnR, if_neg (by simp [hc, hb, hd])]
    refine ⟨_, c33 l hl id, fun h => ?_, fun h => ?_⟩
    · rw [if_pos (by simpa using h)]
      exact ⟨_, _, rfl, .inr ⟨_, _, _, rfl⟩, rfl, rfl, trivial⟩
    · have h : ¬ at? l id < 0 := by simpa using h
      rw [if_neg h]
      rcases find_at l id with ⟨h1, h2⟩ | ⟨i, a, h1, _, h3, h4⟩
      · omega
      · have hi := (List.getElem?_eq_some_iff.1 h1).1
        have hm := List.mem_of_getElem? h1
        have hf := check_ok hc a hm
        obtain ⟨o1, o2, _⟩ := fault_ok hf
        obtain ⟨k1, k2⟩ := mlrn_eq o1 o2 hb hd
        have hlen := check_len hc
        have hg : l.getD i zeroP = a := by simp [List.getD, h1]
        rw [h3, Int.toNat_natCast, hg]
        refine ⟨⟨by omega, by omega⟩, encP a, get_map' h1 rfl, _, c36 a (hz a hm) b d, fun hk => ?_, fun hk => ?_⟩
        · have hk : (!((meetE a.b b).2 && (meetE a.d d).2 && (faultE (mlrn a b d) == 0))) = true := hk
          rw [k1] at hk
          rw [if_neg (by simpa using hk)]
          exact ⟨_, _, rfl, .inr ⟨_, _, _, rfl⟩, rfl, rfl, trivial⟩
        · have hk : (!((meetE a.b b).2 && (meetE a.d d).2 && (faultE (mlrn a b d) == 0))) = false := hk
          rw [k1] at hk
          have hk : mayL a b d := by simpa using hk
          rw [if_pos hk, k2 hk]
          refine ⟨_, c14 l (by omega), ⟨by omega, by omega⟩, encP a, get_map' h1 rfl, fun hq => ?_, fun hq => ?_⟩
          · refine ⟨⟨by omega, by omega⟩, encP a, get_map' h1 rfl, ?_⟩
            refine ⟨_, _, rfl, ⟨_, rfl, rfl, ?_, .inl ⟨rfl, ?_⟩⟩, rfl, rfl, trivial⟩
            · simp
            · simp [List.map_set]; rfl
          · have hq : (!eqL (encP a) (encP (lrn a b d))) = false := hq
            rw [eqL_P] at hq
            have hq : a = lrn a b d := by simpa using hq
            refine ⟨_, _, rfl, ⟨_, rfl, rfl, ?_, .inl ⟨rfl, ?_⟩⟩, rfl, rfl, trivial⟩
            · simp
            · rw [← hq, set_self h1]
end Go.Abs.L32
