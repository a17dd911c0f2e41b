import Derived.Test.YtnmpnlhlbjemeaaL39a
namespace Go.Abs.L39
open Go Go.Abs Go.Proofs
set_option linter.unusedVariables false
set_option maxRecDepth 20000
abbrev exL : List Int := [4, 5, 3, 6, 2]
theorem ex_ord : ordR exL 10 = ([[0, 1], [2, 3], [4]], 0) := by decide +kernel
theorem ex_few : fewE exL 10 = 0 := by decide +kernel
theorem ex_tab : (tabE exL 10).length = 32 ∧ (tabE exL 10).getD 31 0 = 20012 := by decide +kernel
theorem ex_least : leastE exL 10 = 2 := by decide +kernel
theorem ex_bnd : bndE exL 10 = 2 ∧ bndR exL 10 = 0 := by decide +kernel
theorem ex_exact : exactE exL 10 2 0 = ([[0, 3], [1, 2, 4]], 0) := by decide +kernel
/-- the least number of boxes is small -/
theorem least_le (l : List Int) (room : Int) : leastE l room ≤ 1000000 := by
  unfold leastE
  split
  · omega
  · rename_i h
    obtain ⟨h1, h2, h3, h4, h5⟩ := few_ok (l := l) (room := room) (by omega)
    have hb := tabP_bounds (room := room) (show l.length ≤ 60 by omega) (fun n hn => by have := h5 n hn; omega) (2 ^ l.length)
    have hb' : 0 ≤ (tabE l room).getD (2 ^ l.length - 1) 0 ∧ (tabE l room).getD (2 ^ l.length - 1) 0 ≤ 1000000 := by
      rw [List.getD_eq_getElem?_getD]
      cases hq : (tabE l room)[2 ^ l.length - 1]? with
      | none => exact ⟨Int.le_refl _, by decide⟩
      | some x => exact hb x (List.mem_of_getElem? hq)
    omega
def exR (l : List Int) (room : Int) : List (List Int) × Int := exactE l room (leastE l room) (fewE l room)
theorem c18' (l : List Int) (hl : l.length ≤ 9223372036854775807) (room : Int) : Fn Try.prog 18 [A l, I room] (.tup [AA (exR l room).1, I (exR l room).2]) :=
  c18 (c20 l hl room) fun h => by
    obtain ⟨h1, h2, h3, h4, h5⟩ := few_ok h
    exact ⟨by omega, h3, h5, least_le l room⟩
theorem ex_exR : exR exL 10 = ([[0, 3], [1, 2, 4]], 0) := by rw [exR, ex_few, ex_least, ex_exact]
theorem k12 : Fn Try.prog 12 [A exL, I 10] (.tup [AA [[0, 1], [2, 3], [4]], I 0]) := by have := c12 exL (by decide) 10; rw [ex_ord] at this; exact this
theorem k18 : Fn Try.prog 18 [A exL, I 10] (.tup [AA [[0, 3], [1, 2, 4]], I 0]) := by have := c18' exL (by decide) 10; rw [ex_exR] at this; exact this
theorem k15 : Fn Try.prog 15 [A exL, I 10] (.tup [I 2, I 0]) := by have := c15 exL (by decide) 10; rw [ex_bnd.1, ex_bnd.2] at this; exact this
theorem k22 : ∃ t : List Int, t.length = 32 ∧ t[31]? = some 20012 ∧ Fn Try.prog 22 [A exL, I 10] (.tup [fA t, I 0]) := by
  refine ⟨tabE exL 10, ex_tab.1, ?_, ?_⟩
  · have h := ex_tab.2
    rw [List.getD_eq_getElem?_getD, List.getElem?_eq_getElem (by rw [ex_tab.1]; decide)] at h
    rw [List.getElem?_eq_getElem (by rw [ex_tab.1]; decide)]
    exact congrArg some h
  · have := c22 exL (by decide) 10; rw [tabR, ex_few, if_neg (by decide)] at this; exact this
end Go.Abs.L39
