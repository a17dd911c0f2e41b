import Derived.Test.YtnmpnlhlbjemeaaL39i
import Derived.Test.YtnmpnlhlbjemeaaP39e
namespace Go.Abs.L39
open Go Go.Abs Go.Proofs
set_option linter.unusedVariables false
set_option maxRecDepth 20000
theorem least_len {l : List Int} {room : Int} (h : fewE l room = 0) : leastE l room ≤ l.length := by
  have e := least_eq h
  have hp := Nat.two_pow_pos l.length
  have := (few_okl h).boxes l.length (Nat.le_refl _) (2 ^ l.length - 1) (by omega)
  omega
theorem bndR_ok {l : List Int} {room : Int} (h : fewE l room = 0) : bndR l room = 0 := by
  unfold bndR; rw [if_neg (by rw [(few_ok h).1]; simp)]
set_option maxHeartbeats 2000000 in
theorem l8 (l : List Int) (hl : l.length ≤ 9223372036854775807) (room : Int) (T : List (List Int)) (hT : T.length ≤ 9223372036854775807) : Fn Try.prog 8 [A l, I room, AA T] (.bool true) := by
  refine mk8 rfl ⟨_, c10, fun h => (by cases h), fun _ => ?_⟩
  by_cases h1 : l.length > 10
  · exact ⟨[(3, true)], by simp; omega, fun _ => ⟨rfl, rfl, rfl⟩, fun h => (by cases h)⟩
  refine ⟨[(3, false)], by simp; omega, _, c27 T hT, fun h => ?_, fun h => ?_⟩
  · exact ⟨rfl, rfl, rfl⟩
  have hfb : fewB T = true := by simpa using h
  have hT60 : T.length ≤ 60 ∧ ∀ b ∈ T, b.length ≤ 60 := by
    unfold fewB at hfb
    rw [Bool.and_eq_true, List.all_eq_true] at hfb
    exact ⟨by simpa using hfb.2, fun b hb => by simpa using hfb.1 b hb⟩
  refine ⟨_, c13 l (by omega), true, _, c18' l hl room, fun he => ?_, fun he => ?_⟩
  · have he : (exR l room).2 ≠ 0 := by simpa using he
    refine ⟨rfl, rfl, ?_⟩
    rw [exact_err he]; rfl
  have he : (exR l room).2 = 0 := by simpa using he
  obtain ⟨hf, hX1, hX2, hX3, hX4⟩ := exact_facts he
  have hll := least_len hf
  have k20 : Fn Try.prog 20 [A l, I room] (.tup [I (leastE l room), I 0]) := by have := c20 l hl room; rwa [hf] at this
  have k15 : Fn Try.prog 15 [A l, I room] (.tup [I (bndE l room), I 0]) := by have := c15 l hl room; rwa [bndR_ok hf] at this
  have htl : (tabE l room).length = 2 ^ l.length := tabP_len _ _ _
  have hp1 : 1 ≤ 2 ^ l.length := Nat.one_le_two_pow
  have hp2 : 2 ^ l.length ≤ 1024 := Nat.pow_le_pow_right (by decide) (by omega : l.length ≤ 10)
  have hrow : ((tabE l room).map enc)[2 ^ l.length - 1]? = some [I (tv l room (2 ^ l.length - 1))] := tabE_at (by omega)
  have hle := least_eq hf
  have hv0 := (few_okl hf).nonneg (2 ^ l.length - 1)
  have kX : Fn Try.prog 28 [A l, I room, AA (exR l room).1] (I 0) := by
    have := c28 l hl room (exR l room).1 (by omega) (fun b hb => by have := hX4 b hb; omega)
    rwa [hX1] at this
  have cX := c29 (exR l room).1 (by omega) (fun b hb => by have := hX4 b hb; omega)
  refine ⟨_, c13 l (by omega), true, _, k20, _, c13 l (by omega), true, _, k15, _, c13 l (by omega), true, _, k22s hl hf, true, ?_⟩
  generalize (exR l room).1 = X at *
  generalize tv l room (2 ^ l.length - 1) = z at *
  generalize tabE l room = t at *
  generalize 2 ^ l.length = p at *
  refine ⟨[(2, false), (6, false), (10, false), (15, false)], rfl, rfl, rfl, by show ((t.length : Int) == 0) = false; exact beq_false_of_ne (by omega), _, c13 l (by omega), true, _, cX, true, _, kX, fun h => (by cases h), fun _ => ?_⟩
  refine ⟨[(4, false), (9, false)], by simp; omega, by simp; omega, _, wrap64 (by omega) (by omega), ⟨by omega, by omega⟩, [I z], by rw [htl, show (((p : Nat) : Int) - 1).toNat = p - 1 by omega]; exact hrow, by decide, z.tdiv 10001, wrap64 ?_ ?_, fun h => ?_, fun _ => ?_⟩
  · rw [Int.tdiv_eq_ediv_of_nonneg hv0]; omega
  · rw [Int.tdiv_eq_ediv_of_nonneg hv0]; omega
  · have e : z.tdiv 10001 = (leastE l room : Int) := by rw [Int.tdiv_eq_ediv_of_nonneg hv0]; omega
    rw [e] at h; simp at h
  have cT := c29 T (by omega) (fun b hb => by have := hT60.2 b hb; omega)
  have kT := c28 l hl room T hT (fun b hb => by have := hT60.2 b hb; omega)
  by_cases hv : validE l room T = 0
  · have := valid_least hf hv
    refine ⟨[(7, false)], _, c13 l (by omega), true, _, cT, true, _, kT, by simpa using hv, ?_⟩
    refine ⟨rfl, rfl, ?_⟩
    show AV.bool true = AV.bool _
    simp; omega
  · refine ⟨[(7, true)], _, c13 l (by omega), true, _, cT, true, _, kT, by simpa using hv, ?_⟩
    exact ⟨rfl, rfl, rfl⟩
end Go.Abs.L39
