import Derived.Test.YtnmpnlhlbjemeaaC39u
import Derived.Test.YtnmpnlhlbjemeaaRows
namespace Go.Abs.L39
open Go Go.Abs Go.Proofs
set_option linter.unusedVariables false
set_option maxRecDepth 20000
theorem rdI {row : List AV} {d : Nat} (h : Rd Try.prog (d + 1) 3 row) : ∃ n : Int, row = enc n ∧ i64 n := by
  simp only [Rd, Try.underlying3] at h
  obtain ⟨n, hu, hw⟩ := h
  exact ⟨n, hu, wf64 hw⟩
theorem rowsI {d : Nat} : ∀ {rows : List (List AV)}, (∀ row ∈ rows, Rd Try.prog (d + 1) 3 row) → ∃ l : List Int, rows = l.map enc ∧ ∀ a ∈ l, i64 a
  | [], _ => ⟨[], rfl, by simp⟩
  | r :: rows, h => by
    obtain ⟨a, rfl, ha⟩ := rdI (h r (by simp))
    obtain ⟨l, rfl, hl⟩ := rowsI (rows := rows) fun row hr => h row (by simp [hr])
    exact ⟨a :: l, rfl, by simpa using ⟨ha, hl⟩⟩
theorem rd22 {u : AV} (h : RdV Try.prog 6 22 u) : ∃ l : List Int, u = A l ∧ l.length ≤ 9223372036854775807 ∧ ∀ a ∈ l, i64 a := by
  simp only [RdV, Try.underlying22, Rd] at h
  obtain ⟨rows, hu, hl, hr⟩ := h
  obtain ⟨l, rfl, hw⟩ := rowsI (d := 4) hr
  injection hu with hu
  rw [show Try.prog.cellsOf 3 = 1 by kernel_rfl, List.length_map] at hu
  refine ⟨l, hu, ?_, hw⟩
  simp only [List.length_map] at hl
  have : maxLen ≤ 9223372036854775807 := by unfold maxLen; omega
  omega
theorem rd3 {u : AV} (h : RdV Try.prog 6 3 u) : ∃ n : Int, u = I n ∧ i64 n := by
  simp only [RdV, Try.underlying3, Rd] at h
  obtain ⟨n, hu, hw⟩ := h
  injection hu with hu
  exact ⟨n, hu, wf64 hw⟩
theorem rd34 {u : AV} (h : RdV Try.prog 6 34 u) : ∃ x y : Int, u = .agg [I x, I y] ∧ i64 x ∧ i64 y := by
  simp only [RdV, Try.underlying34] at h
  obtain ⟨us, rfl, h⟩ := h
  simp only [Rd, Try.underlying34, RdN, Try.underlying3] at h
  obtain ⟨_, _, rfl, ⟨n0, rfl, w0⟩, _, _, rfl, ⟨n1, rfl, w1⟩, rfl⟩ := h
  exact ⟨n0, n1, rfl, wf64 w0, wf64 w1⟩
theorem rdT {row : List AV} {d : Nat} (h : Rd Try.prog (d + 2) 22 row) : ∃ l : List Int, row = encT l ∧ l.length ≤ 9223372036854775807 ∧ ∀ a ∈ l, i64 a := by
  simp only [Rd, Try.underlying22] at h
  obtain ⟨rows, rfl, hl, hr⟩ := h
  obtain ⟨l, rfl, hw⟩ := rowsI (d := d) hr
  rw [show Try.prog.cellsOf 3 = 1 by kernel_rfl, List.length_map] at *
  refine ⟨l, rfl, ?_, hw⟩
  have : maxLen ≤ 9223372036854775807 := by unfold maxLen; omega
  omega
theorem rowsT {d : Nat} : ∀ {rows : List (List AV)}, (∀ row ∈ rows, Rd Try.prog (d + 2) 22 row) → ∃ l : List (List Int), rows = l.map encT ∧ ∀ a ∈ l, a.length ≤ 9223372036854775807 ∧ ∀ x ∈ a, i64 x
  | [], _ => ⟨[], rfl, by simp⟩
  | r :: rows, h => by
    obtain ⟨a, rfl, ha⟩ := rdT (h r (by simp))
    obtain ⟨l, rfl, hl⟩ := rowsT (rows := rows) fun row hr => h row (by simp [hr])
    exact ⟨a :: l, rfl, by simpa using ⟨ha, hl⟩⟩
theorem rd25 {u : AV} (h : RdV Try.prog 6 25 u) : ∃ T : List (List Int), u = AA T ∧ T.length ≤ 9223372036854775807 ∧ ∀ a ∈ T, a.length ≤ 9223372036854775807 ∧ ∀ x ∈ a, i64 x := by
  simp only [RdV, Try.underlying25, Rd] at h
  obtain ⟨rows, hu, hl, hr⟩ := h
  obtain ⟨l, rfl, hw⟩ := rowsT (d := 3) hr
  injection hu with hu
  rw [show Try.prog.cellsOf 22 = 1 by kernel_rfl, List.length_map] at hu
  refine ⟨l, hu, ?_, hw⟩
  simp only [List.length_map] at hl
  have : maxLen ≤ 9223372036854775807 := by unfold maxLen; omega
  omega
end Go.Abs.L39
