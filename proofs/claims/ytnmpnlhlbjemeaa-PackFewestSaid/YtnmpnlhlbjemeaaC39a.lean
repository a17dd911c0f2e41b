import Derived.Test.YtnmpnlhlbjemeaaB39
namespace Go.Abs.L39
open Go Go.Abs Go.Proofs
set_option linter.unusedVariables false
set_option maxRecDepth 20000
abbrev I (n : Int) : AV := .int .i64 n
def enc (n : Int) : List AV := [.int .i64 n]
abbrev A (l : List Int) : AV := .rsl 1 l.length (l.map enc)
abbrev fA (l : List Int) : AV := .fsl true 3 1 l.length (l.map enc)
def encT (l : List Int) : List AV := [.rsl 1 l.length (l.map enc)]
abbrev AA (T : List (List Int)) : AV := .rsl 1 T.length (T.map encT)
theorem scal (l : List Int) : Scal (l.map enc) := by
  intro row hr u hu
  simp only [List.mem_map] at hr
  obtain ⟨a, _, rfl⟩ := hr
  simp only [enc, List.mem_cons, List.not_mem_nil, or_false] at hu
  subst hu; rfl
theorem c11 (l : List Int) : Fn Try.prog 11 [A l] (.bool (decide ((l.length : Int) ≤ 60))) := mk11 rfl ⟨rfl, rfl, rfl⟩
theorem c13n : Fn Try.prog 13 [.nilsl] (fA []) := mk13 rfl ⟨fun _ => ⟨rfl, .inr ⟨_, _, _, rfl⟩⟩, fun h => by cases h⟩
theorem c13e : Fn Try.prog 13 [.esl] (fA []) := mk13 rfl ⟨fun h => (by cases h), fun _ => ⟨by decide, rfl, _, rfl, rfl, rfl, .inl ⟨rfl, rfl⟩⟩⟩
theorem c13 (l : List Int) (h : l.length ≤ 10000) : Fn Try.prog 13 [A l] (fA l) := by
  cases l with
  | nil => exact fn_empty c13n c13e
  | cons a l =>
    refine mk13 rfl ⟨by simp, fun h => (by cases h), fun _ => ?_⟩
    exact ⟨⟨by simp at h ⊢; omega, by simp at h ⊢; omega⟩, scal (a :: l), rfl, _, rfl, rfl, by simp, .inl ⟨rfl, by simp⟩⟩
def badB (room n : Int) : Bool := decide (n < 1) || decide (n > room)
theorem c43 (n room : Int) : Fn Try.prog 43 [I n, .rptr [I room] 0] (.bool (badB room n)) := by
  by_cases h : n < 1
  · rw [show badB room n = true by simp [badB, h]]
    exact mk43 rfl ⟨[(2, true)], by simpa using h, rfl, rfl, rfl⟩
  · rw [show badB room n = decide (n > room) by simp [badB, h]]
    exact mk43 rfl ⟨[(2, false)], by simpa using h, rfl, rfl, rfl⟩
theorem c45a (l : List Int) (hl : l.length ≤ 9223372036854775807) (p : Int → Bool) (g : FuncId) (xs : List AV) (hp : ∀ a ∈ l, Fn Try.prog g [I a, .rptr xs 0] (.bool (p a))) : Fn Try.prog 45 [A l, .func g [.rptr xs 0]] (I (idxF p 0 l)) := by
  refine mk45 rfl ?_
  refine ⟨fun n c => ∃ i : Nat, i ≤ l.length ∧ n = l.length - i ∧ c = ⟨[(0, A l), (1, .func g [.rptr xs 0]), (4, I 0), (7, I l.length), (8, I i)], []⟩ ∧ idxF p i (l.drop i) = idxF p 0 l, ⟨_, _, Wk.keep [0, 1, 4, 7, 8] [], 0, by omega, rfl, rfl, by simp⟩, ?_⟩
  rintro n c ⟨i, hi, rfl, rfl, hI⟩
  refine ⟨fun h => ?_, fun h => ?_⟩
  · simp at h
    obtain ⟨a, ha, hd, _⟩ := drop_cons h
    rw [hd, idxF] at hI
    refine ⟨⟨by omega, by omega⟩, enc a, by simp [ha], _, hp a (List.mem_of_getElem? ha), fun hf => ?_, fun hf => ?_⟩
    · rw [if_pos hf] at hI
      exact ⟨rfl, rfl, by rw [← hI]; rfl⟩
    · rw [if_neg (by simp [hf])] at hI
      refine ⟨_, wrap64 (by omega) (by omega), ?_⟩
      exact ⟨_, _, Wk.keep [0, 1, 4, 7, 8] [], by omega, i + 1, by omega, rfl, rfl, hI⟩
  · simp at h
    have : i = l.length := by omega
    subst this
    simp [idxF] at hI
    exact ⟨rfl, rfl, by rw [← hI]; rfl⟩
theorem c42 (l : List Int) (hl : l.length ≤ 9223372036854775807) (room : Int) : Fn Try.prog 42 [A l, .func 43 [.rptr [I room] 0]] (.bool (l.any (badB room))) :=
  mk42 rfl ⟨_, c45a l hl (badB room) 43 [I room] fun a _ => c43 a room, rfl, rfl, by rw [← idxF_any]; rfl⟩
def chkE (l : List Int) (room : Int) : Int := if room < 1 ∨ room > 10000 then 2 else if l.length > 1024 then 8 else if l.any (badB room) = true then 2 else 0
theorem c31 (l : List Int) (hl : l.length ≤ 9223372036854775807) (room : Int) : Fn Try.prog 31 [A l, I room] (I (chkE l room)) := by
  by_cases h1 : room < 1
  · refine mk31 rfl ⟨[(2, true)], by simpa using h1, fun _ => ?_, fun h => by cases h⟩
    rw [chkE, if_pos (.inl h1)]; exact ⟨rfl, rfl, rfl⟩
  · refine mk31 rfl ⟨[(2, false)], by simpa using h1, fun h => ?_, fun h => ?_⟩
    · have h : room > 10000 := by simpa using h
      rw [chkE, if_pos (.inr h)]; exact ⟨rfl, rfl, rfl⟩
    · have h : ¬ room > 10000 := by simpa using h
      rw [chkE, if_neg (by omega)]
      refine ⟨fun h => ?_, fun h => ?_⟩
      · have h : l.length > 1024 := by simp at h; omega
        rw [if_pos h]; exact ⟨rfl, rfl, rfl⟩
      · have h : ¬ l.length > 1024 := by simp at h; omega
        rw [if_neg h]
        refine ⟨_, c42 l hl room, fun h => ?_, fun h => ?_⟩
        · rw [if_pos h]; exact ⟨rfl, rfl, rfl⟩
        · rw [if_neg (by simp [h])]; exact ⟨rfl, rfl, rfl⟩
theorem c32 (l : List Int) (hl : l.length ≤ 9223372036854775807) (room : Int) : Fn Try.prog 32 [A l, I room] (I (chkE l room)) := by
  by_cases h1 : room < 1
  · refine mk32 rfl ⟨[(2, true)], by simpa using h1, fun _ => ?_, fun h => by cases h⟩
    rw [chkE, if_pos (.inl h1)]; exact ⟨rfl, rfl, rfl⟩
  · refine mk32 rfl ⟨[(2, false)], by simpa using h1, fun h => ?_, fun h => ?_⟩
    · have h : room > 10000 := by simpa using h
      rw [chkE, if_pos (.inr h)]; exact ⟨rfl, rfl, rfl⟩
    · have h : ¬ room > 10000 := by simpa using h
      rw [chkE, if_neg (by omega)]
      refine ⟨fun h => ?_, fun h => ?_⟩
      · have h : l.length > 1024 := by simp at h; omega
        rw [if_pos h]; exact ⟨rfl, rfl, rfl⟩
      · have h : ¬ l.length > 1024 := by simp at h; omega
        rw [if_neg h]
        refine ⟨fun n c => ∃ i : Nat, i ≤ l.length ∧ n = l.length - i ∧ c = ⟨[(0, A l), (1, I room), (4, I 0), (16, A l), (17, I l.length), (18, I i)], []⟩ ∧ (l.drop i).any (badB room) = l.any (badB room), ⟨_, _, Wk.keep [0, 1, 4, 16, 17, 18] [], 0, by omega, rfl, rfl, by simp⟩, ?_⟩
        rintro n c ⟨i, hi, rfl, rfl, hI⟩
        refine ⟨fun h => ?_, fun h => ?_⟩
        · simp at h
          obtain ⟨a, ha, hd, _⟩ := drop_cons h
          rw [hd, List.any_cons] at hI
          refine ⟨⟨by omega, by omega⟩, enc a, by simp [ha], ?_⟩
          by_cases ha1 : a < 1
          · have : badB room a = true := by simp [badB, ha1]
            rw [this, Bool.true_or] at hI
            rw [if_pos hI.symm]
            exact ⟨[(2, true)], by simpa using ha1, fun _ => ⟨rfl, rfl, rfl⟩, fun h => (by cases h)⟩
          · refine ⟨[(2, false)], by simpa using ha1, fun h => ?_, fun h => ?_⟩
            · have : badB room a = true := by
                have h : a > room := by simpa using h
                simp [badB, h]
              rw [this, Bool.true_or] at hI
              rw [if_pos hI.symm]; exact ⟨rfl, rfl, rfl⟩
            · have : badB room a = false := by
                have h : ¬ a > room := by simpa using h
                simp [badB, ha1]; omega
              rw [this, Bool.false_or] at hI
              refine ⟨_, wrap64 (by omega) (by omega), ?_⟩
              exact ⟨_, _, Wk.keep [0, 1, 4, 16, 17, 18] [], by omega, i + 1, by omega, rfl, rfl, hI⟩
        · simp at h
          have : i = l.length := by omega
          subst this
          simp only [List.drop_length, List.any_nil] at hI
          rw [if_neg (by rw [← hI]; simp)]
          exact ⟨rfl, rfl, rfl⟩
end Go.Abs.L39
