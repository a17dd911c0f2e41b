import Derived.Test.YtncihdldkhkajaaC32f
namespace Go.Abs.L32
open Go Go.Abs Go.Abs.Day Go.Proofs Go.RowKit
set_option linter.unusedVariables false
set_option maxRecDepth 20000
theorem c41 (p : Per) (hp : p.sz) : Fn Try.prog 41 [.agg (encP p)] (I (faultE p)) := by
  refine mk41 rfl ⟨[], fun h => ?_, fun h => ?_⟩
  · have h : p.id < 1 ∨ p.id > 1073741824 := by simpa using h
    rw [faultE, if_pos h]
    exact ⟨rfl, rfl, rfl⟩
  · have h : ¬ (p.id < 1 ∨ p.id > 1073741824) := by simpa using h
    rw [faultE, if_neg h]
    refine ⟨_, c55 p.name hp, fun h => ?_, fun h => ?_⟩
    · rw [if_pos (by simpa using h)]
      exact ⟨rfl, rfl, rfl⟩
    · rw [if_neg (by simpa using h)]
      refine ⟨[], _, c_rdCheck p.b, _, c_rdCheck p.d, fun h => ?_, fun h => ?_⟩
      · have h : ((chkD p.b != 0) || (chkD p.d != 0)) = true := h
        rw [chk_bne, chk_bne] at h
        rw [if_pos (by simpa using h)]
        exact ⟨rfl, rfl, rfl⟩
      · have h : ((chkD p.b != 0) || (chkD p.d != 0)) = false := h
        rw [chk_bne, chk_bne] at h
        rw [if_neg (by simpa using h)]
        refine ⟨fun h => ?_, fun h => ?_⟩
        · rw [if_pos (by simpa using h)]
          exact ⟨rfl, rfl, rfl⟩
        · rw [if_neg (by simpa using h)]
          exact ⟨rfl, rfl, rfl⟩
abbrev A (l : List Per) : AV := .rsl 6 l.length (l.map encP)
abbrev fA (l : List Per) : AV := .fsl true 35 6 l.length (l.map encP)
def chk (p : Option Per) : List Per → Int
  | [] => 0
  | a :: r => if faultE a ≠ 0 then faultE a else match p with
    | some q => if a.id ≤ q.id then 5 else chk (some a) r
    | none => chk (some a) r
theorem chk_cons (p : Option Per) (a : Per) (r : List Per) : chk p (a :: r) = if faultE a ≠ 0 then faultE a else match p with
    | some q => if a.id ≤ q.id then 5 else chk (some a) r
    | none => chk (some a) r := by cases p <;> rfl
def checkE (l : List Per) : Int := if l.length > 64 then 8 else chk none l
def prev (l : List Per) (i : Nat) : Option Per := if i = 0 then none else l[i - 1]?
theorem checkE_big {l : List Per} (h : 64 < l.length) : checkE l = 8 := if_pos h
theorem checkE_le {l : List Per} (h : l.length ≤ 64) : checkE l = chk none l := if_neg (by omega)
theorem check_len {l : List Per} (h : checkE l = 0) : l.length ≤ 64 := by
  by_cases hl : 64 < l.length
  · rw [checkE_big hl] at h; cases h
  · omega
theorem c24 (l : List Per) (hl : ∀ p ∈ l, p.sz) : Fn Try.prog 24 [A l] (I (checkE l)) := by
  refine mk24 rfl ⟨fun h => ?_, fun h => ?_⟩
  · simp at h
    exact ⟨rfl, rfl, by rw [checkE_big (by omega)]; rfl⟩
  · simp at h
    rw [checkE_le (by omega)]
    refine ⟨fun n c => ∃ i : Nat, i ≤ l.length ∧ n = l.length - i ∧ c = ⟨[(0, A l), (2, I 0), (9, A l), (10, I l.length), (11, I i)], []⟩ ∧ chk (prev l i) (l.drop i) = chk none l, ⟨_, _, Wk.keep [0, 2, 9, 10, 11] [], 0, by omega, rfl, rfl, by simp [prev]⟩, ?_⟩
    rintro n c ⟨i, hi, rfl, rfl, hI⟩
    refine ⟨fun h => ?_, fun h => ?_⟩
    · simp at h
      obtain ⟨a, ha, hd, _⟩ := drop_cons h
      rw [hd, chk_cons] at hI
      refine ⟨⟨by omega, by omega⟩, encP a, by simp [ha], _, c37 a (hl a (List.mem_of_getElem? ha)), fun hf => ?_, fun hf => ?_⟩
      · have hf : faultE a ≠ 0 := by simpa using hf
        rw [if_pos hf] at hI
        rw [← hI]
        exact ⟨rfl, rfl, rfl⟩
      · have hf : faultE a = 0 := by simpa using hf
        rw [if_neg (by simpa using hf)] at hI
        by_cases h0 : i = 0
        · subst h0
          refine ⟨[(2, false)], by simp, fun h => (by cases h), fun h => ?_⟩
          refine ⟨_, wrap64 (by omega) (by omega), _, _, Wk.keep [0, 2, 9, 10, 11] [], by omega, 1, by omega, rfl, rfl, ?_⟩
          simp only [prev] at hI
          simpa [prev, ha] using hI
        · obtain ⟨p, hp⟩ : ∃ p, l[i - 1]? = some p := ⟨l[i-1], by simp⟩
          have hI' : (if a.id ≤ p.id then 5 else chk (some a) (l.drop (i + 1))) = chk none l := by simpa [prev, h0, hp] using hI
          refine ⟨[(2, true)], by simp; omega, _, wrap64 (by omega) (by omega), ⟨by omega, by omega⟩, encP p, get_map' hp (by omega), fun h => ?_, fun h => ?_⟩
          · simp at h
            rw [if_pos h] at hI'
            exact ⟨rfl, rfl, by rw [← hI']; rfl⟩
          · simp at h
            rw [if_neg (by omega)] at hI'
            refine ⟨_, wrap64 (by omega) (by omega), _, _, Wk.keep [0, 2, 9, 10, 11] [], by omega, i + 1, by omega, rfl, rfl, ?_⟩
            simpa [prev, ha] using hI'
    · simp at h
      have : i = l.length := by omega
      subst this
      simp [chk] at hI
      exact ⟨rfl, rfl, by rw [← hI]; rfl⟩
theorem c25 (l : List Per) (hl : ∀ p ∈ l, p.sz) : Fn Try.prog 25 [A l] (I (checkE l)) := by
  refine mk25 rfl ⟨fun h => ?_, fun h => ?_⟩
  · simp at h
    exact ⟨rfl, rfl, by rw [checkE_big (by omega)]; rfl⟩
  · simp at h
    rw [checkE_le (by omega)]
    refine ⟨fun n c => ∃ i : Nat, i ≤ l.length ∧ n = l.length - i ∧ c = ⟨[(0, A l), (2, I 0), (9, A l), (10, I l.length), (11, I i)], []⟩ ∧ chk (prev l i) (l.drop i) = chk none l, ⟨_, _, Wk.keep [0, 2, 9, 10, 11] [], 0, by omega, rfl, rfl, by simp [prev]⟩, ?_⟩
    rintro n c ⟨i, hi, rfl, rfl, hI⟩
    refine ⟨fun h => ?_, fun h => ?_⟩
    · simp at h
      obtain ⟨a, ha, hd, _⟩ := drop_cons h
      rw [hd, chk_cons] at hI
      refine ⟨⟨by omega, by omega⟩, encP a, by simp [ha], _, c41 a (hl a (List.mem_of_getElem? ha)), fun hf => ?_, fun hf => ?_⟩
      · have hf : faultE a ≠ 0 := by simpa using hf
        rw [if_pos hf] at hI
        rw [← hI]
        exact ⟨rfl, rfl, rfl⟩
      · have hf : faultE a = 0 := by simpa using hf
        rw [if_neg (by simpa using hf)] at hI
        by_cases h0 : i = 0
        · subst h0
          refine ⟨[(2, false)], by simp, fun h => (by cases h), fun h => ?_⟩
          refine ⟨_, wrap64 (by omega) (by omega), _, _, Wk.keep [0, 2, 9, 10, 11] [], by omega, 1, by omega, rfl, rfl, ?_⟩
          simp only [prev] at hI
          simpa [prev, ha] using hI
        · obtain ⟨p, hp⟩ : ∃ p, l[i - 1]? = some p := ⟨l[i-1], by simp⟩
          have hI' : (if a.id ≤ p.id then 5 else chk (some a) (l.drop (i + 1))) = chk none l := by simpa [prev, h0, hp] using hI
          refine ⟨[(2, true)], by simp; omega, _, wrap64 (by omega) (by omega), ⟨by omega, by omega⟩, encP p, get_map' hp (by omega), fun h => ?_, fun h => ?_⟩
          · simp at h
            rw [if_pos h] at hI'
            exact ⟨rfl, rfl, by rw [← hI']; rfl⟩
          · simp at h
            rw [if_neg (by omega)] at hI'
            refine ⟨_, wrap64 (by omega) (by omega), _, _, Wk.keep [0, 2, 9, 10, 11] [], by omega, i + 1, by omega, rfl, rfl, ?_⟩
            simpa [prev, ha] using hI'
    · simp at h
      have : i = l.length := by omega
      subst this
      simp [chk] at hI
      exact ⟨rfl, rfl, by rw [← hI]; rfl⟩
/-- a list that is right: each person is right, and the IDs grow -/
theorem chk_ok : ∀ (l : List Per) (p : Option Per), chk p l = 0 → ∀ a ∈ l, faultE a = 0
  | a :: r, p, h, b, hb => by
    rw [chk_cons] at h
    by_cases hf : faultE a ≠ 0
    · rw [if_pos hf] at h; exact absurd h hf
    · rw [if_neg hf] at h
      rcases List.mem_cons.1 hb with rfl | hb
      · simpa using hf
      · cases p with
        | none => exact chk_ok r _ h b hb
        | some q =>
          dsimp only at h
          split at h
          · cases h
          · exact chk_ok r _ h b hb
theorem check_ok {l : List Per} (h : checkE l = 0) : ∀ a ∈ l, faultE a = 0 := by
  rw [checkE_le (check_len h)] at h
  exact chk_ok l none h
theorem fault_ok {p : Per} (h : faultE p = 0) : okD p.b = true ∧ okD p.d = true ∧ p.b.lo ≤ p.d.hi ∧ (1 ≤ p.id ∧ p.id ≤ 1073741824) ∧ nameB p.name = true := by
  unfold faultE at h
  split at h
  · cases h
  · split at h
    · cases h
    · split at h
      · cases h
      · split at h
        · cases h
        · rename_i h1 h2 h3 h4
          simp at h2 h3
          exact ⟨h3.1, h3.2, by omega, by omega, h2⟩
theorem fault_iff {p : Per} : faultE p = 0 ↔ okD p.b = true ∧ okD p.d = true ∧ p.b.lo ≤ p.d.hi ∧ (1 ≤ p.id ∧ p.id ≤ 1073741824) ∧ nameB p.name = true := by
  refine ⟨fault_ok, fun ⟨h1, h2, h3, h4, h5⟩ => ?_⟩
  unfold faultE
  rw [if_neg (by omega), if_neg (by simp [h5]), if_neg (by simp [h1, h2]), if_neg (by omega)]
theorem c46 (a : Per) (id : Int) : Fn Try.prog 46 [.agg (encP a), .rptr [I id] 0] (.bool (a.id == id)) := mk46 rfl ⟨rfl, rfl, rfl⟩
theorem c45 (l : List Per) (hl : l.length ≤ 9223372036854775807) (p : Per → Bool) (g : FuncId) (xs : List AV) (hp : ∀ a ∈ l, Fn Try.prog g [.agg (encP a), .rptr xs 0] (.bool (p a))) : Fn Try.prog 45 [A l, .func g [.rptr xs 0]] (I (idxF p 0 l)) := by
  refine mk45 rfl ?_
  refine ⟨fun n c => ∃ i : Nat, i ≤ l.length ∧ n = l.length - i ∧ c = ⟨[(0, A l), (1, .func g [.rptr xs 0]), (4, I 0), (7, I l.length), (8, I i)], []⟩ ∧ idxF p i (l.drop i) = idxF p 0 l, ⟨_, _, Wk.keep [0, 1, 4, 7, 8] [], 0, by omega, rfl, rfl, by simp⟩, ?_⟩
  rintro n c ⟨i, hi, rfl, rfl, hI⟩
  refine ⟨fun h => ?_, fun h => ?_⟩
  · simp at h
    obtain ⟨a, ha, hd, _⟩ := drop_cons h
    rw [hd, idxF] at hI
    refine ⟨⟨by omega, by omega⟩, encP a, by simp [ha], _, hp a (List.mem_of_getElem? ha), fun hf => ?_, fun hf => ?_⟩
    · rw [if_pos hf] at hI
      exact ⟨rfl, rfl, by rw [← hI]; rfl⟩
    · rw [if_neg (by simp [hf])] at hI
      refine ⟨_, wrap64 (by omega) (by omega), ?_⟩
      exact ⟨_, _, Wk.keep [0, 1, 4, 7, 8] [], by omega, i + 1, by omega, rfl, rfl, hI⟩
  · simp at h
    have : i = l.length := by omega
    subst this
    simp [idxF] at hI
    exact ⟨rfl, rfl, by rw [← hI]; rfl⟩
/-- the place of the person with an ID -/
def at? (l : List Per) (id : Int) : Int := idxF (fun a => a.id == id) 0 l
theorem c33 (l : List Per) (hl : l.length ≤ 9223372036854775807) (id : Int) : Fn Try.prog 33 [A l, I id] (I (at? l id)) :=
  mk33 rfl ⟨_, c45 l hl _ 46 [I id] (fun a _ => c46 a id), rfl, rfl, rfl⟩
theorem at_spec (l : List Per) (id : Int) : (at? l id = -1 ∧ ∀ a ∈ l, a.id ≠ id) ∨ ∃ (i : Nat) (a : Per), l[i]? = some a ∧ a.id = id ∧ at? l id = i ∧ ∀ (j : Nat) b, j < i → l[j]? = some b → b.id ≠ id := by
  rcases idxF_spec (fun a : Per => a.id == id) l 0 with ⟨h1, h2⟩ | ⟨i, a, h1, h2, h3, h4⟩
  · exact .inl ⟨h1, fun a ha => by simpa using h2 a ha⟩
  · exact .inr ⟨i, a, h1, by simpa using h2, by rw [at?, h3]; simp, fun j b hj hb => by simpa using h4 j b hj hb⟩
end Go.Abs.L32
