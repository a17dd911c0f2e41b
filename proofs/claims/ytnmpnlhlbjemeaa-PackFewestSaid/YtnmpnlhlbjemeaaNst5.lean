import Derived.Test.YtnmpnlhlbjemeaaNst4
namespace Go.Abs
set_option linter.unusedVariables false
/-! ### checks of regions that draw their order, over rows that are not spelt out -/
theorem drOK_new {ops : Array Oper} {A : Acc} {i b : Nat} {x : OBlk} {vals : List AV} {O : List (Nat × OBlk)} {v : AV} {pg : Option Nat} (h2 : sepB (befores ops.toList) i ⟨vals, O, v, [(b, x)], pg⟩ A.qs = true) (h3 : nwOK A.c0 A.qs [(b, x)] = true) : drOK true ops A true i ⟨vals, O, v, [(b, x)], pg⟩ = true := by
  simp only [drOK, wids, h2, h3]
theorem nwOK_one {c0 : Cfg} {qs : List (Nat × Rec)} {b : Nat} {x : OBlk} (h1 : freshF b c0.fr = true) (h2 : freshO b c0.O = true) (h3 : Nat.ble (b % 16) 1 = true) (h4 : noOut b qs = true) : nwOK c0 qs [(b, x)] = true := by
  simp only [nwOK, fresh, h1, h2, h3, h4, Bool.and_self]
theorem sep_ord {bs : List Nat} {i k : Nat} {s q : Rec} {r : List (Nat × Rec)} (h : ordB bs k i = true) (hr : sepB bs i s r = true) : sepB bs i s ((k, q) :: r) = true := by
  simp only [sepB, h, hr]
theorem sep_ind {bs : List Nat} {i k : Nat} {s q : Rec} {r : List (Nat × Rec)} (h : indepB q s = true) (hr : sepB bs i s r = true) : sepB bs i s ((k, q) :: r) = true := by
  simp only [sepB, h, hr]
  cases ordB bs k i <;> rfl
theorem indep_one {vals : List AV} {O : List (Nat × OBlk)} {v : AV} {s : Rec} {b : Nat} (hs : wids s.D s.pg = [b]) (h1 : AV.hasL b vals = false) (h2 : reachO O vals b = false) (h3 : v.has b = false) : indepB ⟨vals, O, v, [], none⟩ s = true := by
  simp only [indepB, wids, cleanB, hs, reachB, h1, h2, outB, h3, outD, isP]
theorem reach_any {i e sz b : Nat} {R : List (List AV)} {r : List (Nat × OBlk)} {vals : List AV} (h : hasRow b R = false) (hr : reachO r vals b = false) : reachO ((i, ⟨e, sz, .any, R⟩) :: r) vals b = false := by
  simp only [reachO, h, hr]
  cases AV.hasL i vals <;> rfl
theorem reach_pure {i e sz b : Nat} {R : List (List AV)} {r : List (Nat × OBlk)} {vals : List AV} (hr : reachO r vals b = false) : reachO ((i, ⟨e, sz, .pure, R⟩) :: r) vals b = false := by
  simp only [reachO, hr]
end Go.Abs
namespace Go.Abs
theorem indep_gen {q s : Rec} (h1 : cleanB s (wids q.D q.pg) = true) (h2 : cleanB q (wids s.D s.pg) = true) : indepB q s = true := by
  simp only [indepB, h1, h2]
theorem clean_one {q : Rec} {b : Nat} (h1 : reachB q b = false) (h2 : outB q b = false) : cleanB q [b] = true := by
  simp only [cleanB, h1, h2]
theorem reachB_of {q : Rec} {b : Nat} (h1 : AV.hasL b q.vals = false) (h2 : reachO q.O q.vals b = false) : reachB q b = false := by
  simp only [reachB, h1, h2]
theorem outB_of {q : Rec} {b : Nat} (h1 : q.v.has b = false) (h2 : outD b q.D = false) (h3 : isP b q.pg = false) : outB q b = false := by
  simp only [outB, h1, h2, h3]
theorem outD_any {i e sz b : Nat} {R : List (List AV)} {r : List (Nat × OBlk)} (h1 : Nat.beq i b = false) (h2 : hasRow b R = false) (hr : outD b r = false) : outD b ((i, ⟨e, sz, .any, R⟩) :: r) = false := by
  simp only [outD, h1, h2, hr]
theorem noOut_cons {b k : Nat} {q : Rec} {r : List (Nat × Rec)} (h : outB q b = false) (hr : noOut b r = true) : noOut b ((k, q) :: r) = true := by
  simp only [noOut, h, hr]
end Go.Abs
