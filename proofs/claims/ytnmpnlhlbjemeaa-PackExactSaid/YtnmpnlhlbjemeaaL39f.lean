import Derived.Test.YtnmpnlhlbjemeaaL39e
namespace Go.Abs.L39
open Go Go.Abs Go.Proofs
set_option linter.unusedVariables false
set_option maxRecDepth 20000
theorem A_app (l : List Int) (x : Int) : AV.rsl 1 (l.length + 1) (((l.map enc).take l.length ++ [[I x]]).take (l.length + 1)) = A (l ++ [x]) := by
  rw [List.take_of_length_le (by simp), List.take_of_length_le (by simp)]
  show AV.rsl 1 _ _ = AV.rsl 1 _ _
  simp [enc]
theorem least_err {l : List Int} {room : Int} (h : fewE l room ≠ 0) : leastE l room = 0 := by unfold leastE; rw [if_pos h]
set_option maxHeartbeats 1000000 in
theorem l5 (l : List Int) (hl : l.length ≤ 9223372036854775807) (room x y : Int) (hx : i64 x) (hy : i64 y) : Fn Try.prog 5 [A l, I room, .agg [I x, I y]] (.bool true) := by
  refine mk5 rfl ⟨_, c10, fun h => (by cases h), fun _ => ⟨fun h => ?_, fun h => ?_⟩⟩
  · exact ⟨rfl, rfl, rfl⟩
  have h9 : l.length ≤ 9 := by simp at h; omega
  have hL := least_le l room
  refine ⟨_, c13 l (by omega), true, _, c20 l hl room, fun hf => ?_, fun hf => ?_⟩
  · have hf : fewE l room ≠ 0 := by simpa using hf
    refine ⟨rfl, rfl, ?_⟩
    rw [least_err hf]; rfl
  have hf : fewE l room = 0 := by simpa using hf
  have k1 : Fn Try.prog 20 [.rsl 1 (l.length + 1) (((l.map enc).take l.length ++ [[I x]]).take (l.length + 1)), I room] (.tup [I (leastE (l ++ [x]) room), I (fewE (l ++ [x]) room)]) := by
    rw [A_app]; exact c20 _ (by simp; omega) room
  have hL1 := least_le (l ++ [x]) room
  have hL2 := least_le l y
  refine ⟨_, c13 l (by omega), false, ⟨by show (l.length + 1) * 8 ≤ _; omega, by omega⟩, _, k1, ?_⟩
  by_cases hf1 : fewE (l ++ [x]) room = 0
  · obtain ⟨hm1, hm2⟩ := least_more hf hf1
    refine ⟨[(2, true), (6, false)], by simpa using hf1, by simp; omega, _, wrap64 (by omega) (by omega), fun h => ?_, fun _ => ?_⟩
    · simp at h; omega
    refine ⟨_, c13 l (by omega), true, _, c20 l hl y, ?_⟩
    by_cases hf2 : fewE l y = 0
    · by_cases hy2 : y > room
      · refine ⟨[(2, false), (8, true)], by simpa using hf2, by simpa using hy2, ?_⟩
        exact ⟨rfl, rfl, rfl⟩
      · have := least_room hf hf2 (by omega)
        refine ⟨[(2, false), (8, false)], by simpa using hf2, by simpa using hy2, ?_⟩
        refine ⟨rfl, rfl, ?_⟩
        show AV.bool true = AV.bool _
        simp; omega
    · refine ⟨[(2, true), (8, true)], by simpa using hf2, rfl, ?_⟩
      exact ⟨rfl, rfl, rfl⟩
  · refine ⟨[(2, false)], by simpa using hf1, fun h => (by cases h), fun _ => ?_⟩
    refine ⟨_, c13 l (by omega), true, _, c20 l hl y, ?_⟩
    by_cases hf2 : fewE l y = 0
    · by_cases hy2 : y > room
      · refine ⟨[(2, false), (8, true)], by simpa using hf2, by simpa using hy2, ?_⟩
        exact ⟨rfl, rfl, rfl⟩
      · have := least_room hf hf2 (by omega)
        refine ⟨[(2, false), (8, false)], by simpa using hf2, by simpa using hy2, ?_⟩
        refine ⟨rfl, rfl, ?_⟩
        show AV.bool true = AV.bool _
        simp; omega
    · refine ⟨[(2, true), (8, true)], by simpa using hf2, rfl, ?_⟩
      exact ⟨rfl, rfl, rfl⟩
end Go.Abs.L39
