import Derived.Test.YtnmpnlhlbjemeaaC39w
namespace Go.Abs.L39
open Go Go.Abs Go.Proofs
set_option linter.unusedVariables false
set_option maxRecDepth 20000
def encB (b : Bool) : List AV := [.bool b]
abbrev AB (l : List Bool) : AV := .rsl 1 l.length (l.map encB)
def idxG {α : Type} [BEq α] (x : α) : Nat → List α → Int
  | _, [] => -1
  | i, a :: r => if x == a then i else idxG x (i + 1) r
theorem idxG_bounds {α : Type} [BEq α] (x : α) : ∀ (l : List α) (i : Nat), -1 ≤ idxG x i l ∧ idxG x i l ≤ i + l.length
  | [], i => ⟨by simp [idxG], by simp only [idxG, List.length_nil]; omega⟩
  | a :: r, i => by
    unfold idxG
    split
    · simp; omega
    · have := idxG_bounds x r (i + 1)
      simp; omega
theorem idxG_mem {α : Type} [BEq α] (x : α) : ∀ (l : List α) (i : Nat), decide (idxG x i l ≥ 0) = l.any (x == ·)
  | [], i => by simp [idxG]
  | a :: r, i => by
    unfold idxG
    rw [List.any_cons]
    split
    · rename_i h; rw [h]; simp
    · rename_i h
      rw [idxG_mem x r (i + 1), show (x == a) = false by simpa using h]; rfl
theorem c44 (l : List Bool) (hl : l.length ≤ 9223372036854775807) (x : Bool) : Fn Try.prog 44 [AB l, .bool x] (I (idxG x 0 l)) := by
  refine mk44 rfl ?_
  refine ⟨fun q c => ∃ i : Nat, i ≤ l.length ∧ q = l.length - i ∧ idxG x i (l.drop i) = idxG x 0 l ∧ c = ⟨[(0, AB l), (1, .bool x), (7, I l.length), (8, I i)], []⟩, ⟨_, _, Wk.keep [0, 1, 7, 8] [], 0, by omega, rfl, rfl, rfl⟩, ?_⟩
  rintro q c ⟨i, hi, rfl, hI, rfl⟩
  refine ⟨fun h => ?_, fun h => ?_⟩
  · simp at h
    obtain ⟨a, ha, hd, _⟩ := drop_cons h
    rw [hd, idxG] at hI
    refine ⟨⟨by omega, by omega⟩, encB a, get_map ha, fun hz => ?_, fun hz => ?_⟩
    · have hz : (x == a) = true := hz
      rw [if_pos hz] at hI
      rw [← hI]; exact ⟨rfl, rfl, rfl⟩
    · have hz : (x == a) = false := hz
      rw [if_neg (by rw [hz]; simp)] at hI
      refine ⟨_, wrap64 (by omega) (by omega), ?_⟩
      exact ⟨_, _, Wk.keep [0, 1, 7, 8] [], by omega, i + 1, by omega, rfl, hI, rfl⟩
  · simp at h
    have : i = l.length := by omega
    subst this
    rw [List.drop_length] at hI
    rw [← hI]; exact ⟨rfl, rfl, rfl⟩
theorem c41 (l : List Int) (hl : l.length ≤ 9223372036854775807) (x : Int) : Fn Try.prog 41 [A l, I x] (I (idxG x 0 l)) := by
  refine mk41 rfl ?_
  refine ⟨fun q c => ∃ i : Nat, i ≤ l.length ∧ q = l.length - i ∧ idxG x i (l.drop i) = idxG x 0 l ∧ c = ⟨[(0, A l), (1, I x), (7, I l.length), (8, I i)], []⟩, ⟨_, _, Wk.keep [0, 1, 7, 8] [], 0, by omega, rfl, rfl, rfl⟩, ?_⟩
  rintro q c ⟨i, hi, rfl, hI, rfl⟩
  refine ⟨fun h => ?_, fun h => ?_⟩
  · simp at h
    obtain ⟨a, ha, hd, _⟩ := drop_cons h
    rw [hd, idxG] at hI
    refine ⟨⟨by omega, by omega⟩, enc a, get_map ha, fun hz => ?_, fun hz => ?_⟩
    · have hz : (x == a) = true := hz
      rw [if_pos hz] at hI
      rw [← hI]; exact ⟨rfl, rfl, rfl⟩
    · have hz : (x == a) = false := hz
      rw [if_neg (by rw [hz]; simp)] at hI
      refine ⟨_, wrap64 (by omega) (by omega), ?_⟩
      exact ⟨_, _, Wk.keep [0, 1, 7, 8] [], by omega, i + 1, by omega, rfl, hI, rfl⟩
  · simp at h
    have : i = l.length := by omega
    subst this
    rw [List.drop_length] at hI
    rw [← hI]; exact ⟨rfl, rfl, rfl⟩
theorem c39 (l : List Bool) (hl : l.length ≤ 9223372036854775807) (x : Bool) : Fn Try.prog 39 [AB l, .bool x] (.bool (l.any (x == ·))) := by
  rw [← idxG_mem x l 0]
  exact mk39 rfl ⟨_, c44 l hl x, rfl, rfl, rfl⟩
theorem c30 (l : List Int) (hl : l.length ≤ 9223372036854775807) (x : Int) : Fn Try.prog 30 [A l, I x] (.bool (l.any (x == ·))) := by
  rw [← idxG_mem x l 0]
  exact mk30 rfl ⟨_, c41 l hl x, rfl, rfl, rfl⟩
def fewB (T : List (List Int)) : Bool := T.all (fun t => decide (t.length ≤ 60)) && decide (T.length ≤ 60)
theorem c27 (T : List (List Int)) (hl : T.length ≤ 9223372036854775807) : Fn Try.prog 27 [AA T] (.bool (fewB T)) := by
  refine mk27 rfl ?_
  refine ⟨fun q c => ∃ i : Nat, i ≤ T.length ∧ q = T.length - i ∧ (T.drop i).all (fun t => decide (t.length ≤ 60)) = T.all (fun t => decide (t.length ≤ 60)) ∧ c = ⟨[(0, AA T), (5, AA T), (6, I T.length), (7, I i)], []⟩, ⟨_, _, Wk.keep [0, 5, 6, 7] [], 0, by omega, rfl, rfl, rfl⟩, ?_⟩
  rintro q c ⟨i, hi, rfl, hI, rfl⟩
  refine ⟨fun h => ?_, fun h => ?_⟩
  · simp at h
    obtain ⟨a, ha, hd, _⟩ := drop_cons h
    rw [hd, List.all_cons] at hI
    refine ⟨⟨by omega, by omega⟩, encT a, get_map ha, fun hz => ?_, fun hz => ?_⟩
    · have hz : a.length > 60 := by simp at hz; omega
      have : decide (a.length ≤ 60) = false := by simp; omega
      rw [this, Bool.false_and] at hI
      rw [fewB, ← hI]; exact ⟨rfl, rfl, rfl⟩
    · have hz : ¬ a.length > 60 := by simp at hz; omega
      have : decide (a.length ≤ 60) = true := by simp; omega
      rw [this, Bool.true_and] at hI
      refine ⟨_, wrap64 (by omega) (by omega), ?_⟩
      exact ⟨_, _, Wk.keep [0, 5, 6, 7] [], by omega, i + 1, by omega, rfl, hI, rfl⟩
  · simp at h
    have : i = T.length := by omega
    subst this
    rw [List.drop_length, List.all_nil] at hI
    refine ⟨rfl, rfl, ?_⟩
    rw [fewB, ← hI, Bool.true_and]
    show AV.bool (decide (T.length ≤ 60)) = AV.bool (decide ((T.length : Int) ≤ 60))
    congr 1; exact decide_eq_decide.2 (by omega)
end Go.Abs.L39
