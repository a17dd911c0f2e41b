import Derived.Test.YtopkphjjodfdlaaC33i
import Derived.Test.YtopkphjjodfdlaaL33c
namespace Go.Abs.L33
open Go Go.Abs Go.Proofs
set_option linter.unusedVariables false
set_option maxRecDepth 20000
theorem del_mem {l : List Agr} {x : Int} {a : Agr} (h : a ∈ del l x) : a.acc ≠ x := by
  have := (List.mem_filter.1 h).2
  simpa using this
theorem del_open {l : List Agr} {x k : Int} : ∀ a ∈ del l x, closesB a x k = false := by
  intro a h
  have := del_mem h
  simp [closesB, this]
theorem l8 (l : List Agr) (x d : Int) : Fn Try.prog 8 [A l, I x, I d] (.bool true) := by
  refine mk8 rfl ⟨_, c10, fun h => (by cases h), fun _ => ⟨[], _, c11 l, fun h => ⟨rfl, rfl, rfl⟩, fun h => ?_⟩⟩
  have hlen : l.length ≤ 20 := by simp at h; omega
  have hdl := del_le l x
  refine ⟨_, c15 l (by omega), by simp, _, c31 l (by omega) x, ?_⟩
  refine ⟨_, fnA (c15 (del l x) (by omega)), _, fnA (c14 (del l x)), fun h => ⟨rfl, rfl, rfl⟩, fun hc => ?_⟩
  have hc : checkE (del l x) = 0 := by simpa using hc
  have hb : badO x d = false := by simp [badO]; simp at h; omega
  have hO : openDay (del l x) x d = d := (openDay_spec (del l x) x d).uniq ⟨by omega, del_open, fun k _ _ => by omega⟩
  have h19 : opensR (del l x) x d = (d, 0) := by
    rcases opens_cases (del l x) x d with ⟨_, h⟩ | ⟨_, h⟩ | ⟨_, _, h⟩
    · exact absurd hc h
    · rw [hb] at h; cases h
    · rcases h with ⟨_, h⟩ | ⟨e, _⟩
      · simp [badO] at hb; omega
      · rw [e, hO]
  have k19 := c19 (del l x) x d
  rw [h19] at k19
  have k22 := c22 (del l x) x d
  rw [(grounds_nil hc).2 del_open] at k22
  refine ⟨_, fnA (c15 (del l x) (by omega)), true, _, k19, ?_⟩
  refine ⟨[], _, fnA (c15 (del l x) (by omega)), true, _, k22, true, ?_⟩
  refine ⟨rfl, rfl, ?_⟩
  show AV.bool true = AV.bool ((((([] : List Gr).length : Nat) : Int) == 0) && (d == d) && ((0 : Int) == 0))
  simp
end Go.Abs.L33
