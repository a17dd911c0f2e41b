import Derived.Test.YtnmpnlhlbjemeaaL39b
namespace Go.Abs.L39
open Go Go.Abs Go.Proofs
set_option linter.unusedVariables false
set_option linter.unusedSimpArgs false
set_option maxRecDepth 20000
set_option maxHeartbeats 1000000 in
theorem c10 : Fn Try.prog 10 [] (.bool true) := by
  obtain ⟨t, ht, ht31, k22⟩ := k22
  refine mk10 rfl ⟨_, c13 exL (by decide), true, _, k12, _, c13 exL (by decide), true, _, k18, _, c13 exL (by decide), true, _, k22, true, _, c13 exL (by decide), true, _, k15, [(6, true), (13, true), (18, true), (24, true), (28, true)], _, c17 [[0, 1], [2, 3], [4]] [[0, 1], [2, 3], [4]] (by decide) (by decide), rfl, ?_⟩
  dsimp only [idOf, opv, Nat.add, Nat.zero_add, List.append, chunk, List.length, List.map, Cfg.appK, oneCells, AV.ofVal, List.take, List.drop, List.replicate, List.flatten, List.take_succ_cons, List.take_zero, List.drop_succ_cons, List.drop_zero]
  simp (config := { decide := true }) only [lk, AV.ofCell, kdOf, Nat.reduceBEq, Nat.reduceMul, Nat.reduceAdd, Nat.beq_eq_true_eq, if_true, if_false]
  simp only [List.all_cons, List.all_nil, allFit, Kd.fits, AV.scalar, Bool.and_true, Bool.true_and, Bool.and_false, Bool.false_and]
  refine ⟨_, c17 [[0, 3], [1, 2, 4]] [[0, 3], [1, 2, 4]] (by decide) (by decide), rfl, ?_⟩
  dsimp only [idOf, opv, Nat.add, Nat.zero_add, List.append, chunk, List.length, List.map, Cfg.appK, oneCells, AV.ofVal, List.take, List.drop, List.replicate, List.flatten, List.take_succ_cons, List.take_zero, List.drop_succ_cons, List.drop_zero]
  simp (config := { decide := true }) only [lk, AV.ofCell, kdOf, Nat.reduceBEq, Nat.reduceMul, Nat.reduceAdd, Nat.beq_eq_true_eq, if_true, if_false]
  simp only [List.all_cons, List.all_nil, allFit, Kd.fits, AV.scalar, Bool.and_true, Bool.true_and, Bool.and_false, Bool.false_and]
  refine ⟨by rw [ht]; rfl, ?_⟩
  refine ⟨⟨by omega, by omega⟩, [I 20012], by show (t.map enc)[31]? = _; rw [List.getElem?_map, ht31]; rfl, ?_⟩
  refine ⟨by decide, ?_⟩
  refine ⟨by decide, ?_⟩
  refine ⟨0, rfl, 0, rfl, 0, rfl, ?_⟩
  exact ⟨rfl, rfl, rfl⟩
end Go.Abs.L39
