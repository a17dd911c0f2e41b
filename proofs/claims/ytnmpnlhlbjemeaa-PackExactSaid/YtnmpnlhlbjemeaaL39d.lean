import Derived.Test.YtnmpnlhlbjemeaaL39c
namespace Go.Abs.L39
open Go Go.Abs Go.Proofs
set_option linter.unusedVariables false
set_option maxRecDepth 20000
theorem ordE_len (room : Int) : ∀ (r : List Int) (i : Nat) (T : List (List Int)) (left : Int), T.length ≤ i → (∀ t ∈ T, t.length ≤ i) → (ordE room r i T left).length ≤ i + r.length ∧ ∀ t ∈ ordE room r i T left, t.length ≤ i + r.length
  | [], i, T, left, h1, h2 => ⟨h1, h2⟩
  | n :: r, i, T, left, h1, h2 => by
    have hT : (if n > left then T ++ [[]] else T).length ≤ i + 1 ∧ ∀ t ∈ (if n > left then T ++ [[]] else T), t.length ≤ i := by
      split
      · refine ⟨by simp; omega, fun t ht => ?_⟩
        rcases List.mem_append.1 ht with h | h
        · exact h2 t h
        · simp at h; subst h; simp
      · exact ⟨by omega, h2⟩
    unfold ordE
    simp only
    generalize (if n > left then T ++ [[]] else T) = T' at *
    have := ordE_len room r (i + 1) (T'.set (T'.length - 1) (T'.getD (T'.length - 1) [] ++ [(i : Int)])) ((if n > left then room else left) - n) (by simpa using hT.1) (fun t ht => by
      rcases List.mem_or_eq_of_mem_set ht with h | h
      · exact Nat.le_succ_of_le (hT.2 t h)
      · subst h
        rw [List.length_append, List.getD_eq_getElem?_getD]
        cases hq : T'[T'.length - 1]? with
        | none => simp
        | some x => have := hT.2 x (List.mem_of_getElem? hq); simpa using this)
    simp only [List.length_cons]
    exact ⟨by omega, fun t ht => by have := this.2 t ht; omega⟩
theorem ordR_len (l : List Int) (room : Int) : (ordR l room).1.length ≤ l.length ∧ ∀ t ∈ (ordR l room).1, t.length ≤ l.length := by
  unfold ordR
  split
  · simp
  · have := ordE_len room l 0 [] 0 (by simp) (by simp)
    simpa using this
theorem l3 (l : List Int) (hl : l.length ≤ 9223372036854775807) (room : Int) : Fn Try.prog 3 [A l, I room] (.bool true) := by
  refine mk3 rfl ⟨_, c10, fun h => (by cases h), fun _ => ⟨_, c11 l, fun h => ?_, fun h => ?_⟩⟩
  · exact ⟨rfl, rfl, rfl⟩
  · have hlen : l.length ≤ 60 := by simp at h; omega
    refine ⟨_, c13 l (by omega), true, _, c12 l hl room, _, c14 l hl room, _, c13 l (by omega), true, _, c15 l hl room, _, c16 l hl room, [], _, c17 _ _ ?_ ?_, ?_⟩
    · have := (ordR_len l room).1; omega
    · intro t ht; have := (ordR_len l room).2 t ht; omega
    · refine ⟨rfl, rfl, ?_⟩
      show AV.bool true = AV.bool _
      simp
end Go.Abs.L39
