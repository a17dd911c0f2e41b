import Derived.Test.YtnmpnlhlbjemeaaP39g
import Derived.Test.YtnmpnlhlbjemeaaL39j
namespace Go.Abs.L39
open Go Go.Abs Go.Proofs
set_option linter.unusedVariables false
set_option maxRecDepth 20000
theorem exR_code (l : List Int) (room : Int) : (exR l room).2 = fewE l room := by
  by_cases hf : fewE l room = 0
  · rw [(exact_ref hf).1, hf]
  · unfold exR exactE; rw [if_pos hf]
theorem exR_len (l : List Int) (room : Int) : (exR l room).1.length ≤ 12 ∧ ∀ t ∈ (exR l room).1, t.length ≤ 12 := by
  by_cases hf : fewE l room = 0
  · obtain ⟨_, _, h3, _, h5⟩ := exact_facts (exact_ref hf).1
    have h6 := least_len hf
    obtain ⟨_, _, _, h7, _⟩ := few_ok hf
    exact ⟨by omega, fun t ht => by have := h5 t ht; omega⟩
  · have : (exR l room).1 = [] := exact_err (by rw [exR_code]; exact hf)
    rw [this]; simp
theorem c19' (l : List Int) (hl : l.length ≤ 9223372036854775807) (room : Int) : Fn Try.prog 19 [A l, I room] (.tup [AA (exR l room).1, I (fewE l room)]) := by
  have e : (exR l room).1 = if fewE l room ≠ 0 then [] else outE (ofE l room) 0 (List.replicate (leastE l room) []) := by
    by_cases hf : fewE l room = 0
    · rw [if_neg (by omega)]; exact (exact_ref hf).2.1
    · rw [if_pos hf]; exact exact_err (by rw [exR_code]; exact hf)
  rw [e]
  refine c19 (b := (srcE room (leastE l room) l [] []).isSome) hl (c21 l hl room) (fun hf => ?_) (fun hf => ?_)
  · obtain ⟨hc, hr1, hr2, hlen, hsz⟩ := few_ok hf
    exact c34 (by omega) hr2 hsz (least_le l room) l [] [] rfl (Nat.zero_le _) ⟨Nat.le_refl _, by simp⟩
  · obtain ⟨_, _, h3, h4⟩ := exact_ref hf
    have h6 := least_len hf
    obtain ⟨_, _, _, h7, _⟩ := few_ok hf
    exact ⟨by omega, h4, by omega⟩
theorem c18e (l : List Int) (hl : l.length ≤ 9223372036854775807) (room : Int) : Fn Try.prog 18 [A l, I room] (.tup [AA (exR l room).1, I (fewE l room)]) := by
  have := c18' l hl room; rwa [exR_code] at this
set_option maxHeartbeats 1000000 in
theorem l4 (l : List Int) (hl : l.length ≤ 9223372036854775807) (room : Int) : Fn Try.prog 4 [A l, I room] (.bool true) := by
  obtain ⟨hX, hXt⟩ := exR_len l room
  have fin : ∀ (P : Prop), P → P := fun _ h => h
  by_cases h10 : l.length > 10
  · by_cases h13 : l.length = 13
    · refine mk4 rfl ⟨_, c10, fun h => (by cases h), fun _ => ⟨[(3, true)], by simp; omega, fun h => ?_, fun h => ?_⟩⟩
      · rw [h13] at h; cases h
      refine ⟨_, c13 l (by omega), true, _, c18e l hl room, _, c19' l hl room, _, c13 l (by omega), true, _, c20 l hl room, _, c21 l hl room, [(3, true), (8, true), (13, true)], _, c17 (exR l room).1 (exR l room).1 (by omega) (fun t ht => by have := hXt t ht; omega), by simp, by simp, by simp, ?_⟩
      refine ⟨rfl, rfl, ?_⟩
      show AV.bool true = AV.bool _
      simp
    · refine mk4 rfl ⟨_, c10, fun h => (by cases h), fun _ => ⟨[(3, true)], by simp; omega, fun h => ⟨rfl, rfl, rfl⟩, fun h => ?_⟩⟩
      simp at h; omega
  · refine mk4 rfl ⟨_, c10, fun h => (by cases h), fun _ => ⟨[(3, false)], by simp; omega, fun h => (by cases h), fun h => ?_⟩⟩
    refine ⟨_, c13 l (by omega), true, _, c18e l hl room, _, c19' l hl room, _, c13 l (by omega), true, _, c20 l hl room, _, c21 l hl room, [(3, true), (8, true), (13, true)], _, c17 (exR l room).1 (exR l room).1 (by omega) (fun t ht => by have := hXt t ht; omega), by simp, by simp, by simp, ?_⟩
    refine ⟨rfl, rfl, ?_⟩
    show AV.bool true = AV.bool _
    simp
end Go.Abs.L39
