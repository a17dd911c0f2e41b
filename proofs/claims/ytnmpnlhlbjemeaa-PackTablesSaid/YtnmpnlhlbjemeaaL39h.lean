import Derived.Test.YtnmpnlhlbjemeaaL39g
namespace Go.Abs.L39
open Go Go.Abs Go.Proofs
set_option linter.unusedVariables false
set_option maxRecDepth 20000
set_option maxHeartbeats 1000000 in
theorem l7 (l : List Int) (hl : l.length ≤ 9223372036854775807) (room : Int) (m : List Int) (hm : m.length ≤ 9223372036854775807) : Fn Try.prog 7 [A l, I room, A m] (.bool true) := by
  by_cases h10 : l.length > 10
  · by_cases h13 : l.length = 13
    · have hf : fewE l room ≠ 0 := by
        intro e; have := few_ok e; omega
      refine mk7 rfl ⟨_, c10, fun h => (by cases h), fun _ => ⟨[(3, true), (8, false)], by simp; omega, by simp; omega, fun h => ⟨rfl, rfl, rfl⟩, fun h => ?_⟩⟩
      have hm2 : m.length ≤ 2000 := by simp at h; omega
      have hv := c25 l hl room m
      have hw := c26 l hl room m hm
      refine ⟨_, c13 l (by omega), true, _, k22n hl hf, _, k23n hl hf, [(3, true), (8, true), (21, true)], _, c24n, rfl, by simp, _, c13 l (by omega), true, _, c13 m (by omega), true, _, hv, _, hw, by simp, _, c13 l (by omega), true, _, c25n l hl room hf, ?_⟩
      refine ⟨rfl, rfl, ?_⟩
      show AV.bool true = AV.bool _
      simp
    · exact mk7 rfl ⟨_, c10, fun h => (by cases h), fun _ => ⟨[(3, true), (8, true)], by simp; omega, by simp; omega, fun h => ⟨rfl, rfl, rfl⟩, fun h => (by cases h)⟩⟩
  · refine mk7 rfl ⟨_, c10, fun h => (by cases h), fun _ => ⟨[(3, false), (8, false)], by simp; omega, rfl, fun h => ⟨rfl, rfl, rfl⟩, fun h => ?_⟩⟩
    have hm2 : m.length ≤ 2000 := by simp at h; omega
    have hv := c25 l hl room m
    have hw := c26 l hl room m hm
    by_cases hf : fewE l room ≠ 0
    · refine ⟨_, c13 l (by omega), true, _, k22n hl hf, _, k23n hl hf, [(3, true), (8, true), (21, true)], _, c24n, rfl, by simp, _, c13 l (by omega), true, _, c13 m (by omega), true, _, hv, _, hw, by simp, _, c13 l (by omega), true, _, c25n l hl room hf, ?_⟩
      refine ⟨rfl, rfl, ?_⟩
      show AV.bool true = AV.bool _
      simp
    · have hf : fewE l room = 0 := by omega
      have hp2 : 2 ^ l.length ≤ 1024 := Nat.pow_le_pow_right (by decide) (by omega : l.length ≤ 10)
      have htl : (tabE l room).length = 2 ^ l.length := tabP_len _ _ _
      have hx := c25 l hl room (tabE l room)
      rw [verE, if_neg (by omega), if_pos rfl] at hx
      refine ⟨_, c13 l (by omega), true, _, k22s hl hf, true, _, k23s hl hf, true, [(3, true), (8, true), (21, true)], _, c24 (tabE l room) (tabE l room) (by omega), by simp, by simp, _, c13 l (by omega), true, _, c13 m (by omega), true, _, hv, _, hw, by simp, _, c13 l (by omega), true, _, hx, ?_⟩
      refine ⟨rfl, rfl, ?_⟩
      show AV.bool true = AV.bool _
      simp
end Go.Abs.L39
