import Derived.Test.YtjpcpnakcapojaaC4
import Derived.Test.YtjpcpnakcapojaaRows
namespace Go.Abs.L38
open Go Go.Abs Go.Proofs
set_option linter.unusedVariables false
set_option maxRecDepth 20000
theorem rdI {row : List AV} {d : Nat} (h : Rd Try.prog (d + 1) 3 row) : ∃ n : Int, row = enc n ∧ i64 n := by
  simp only [Rd, Try.underlying3] at h
  obtain ⟨n, hu, hw⟩ := h
  exact ⟨n, hu, wf64 hw⟩
theorem rowsI {d : Nat} : ∀ {rows : List (List AV)}, (∀ row ∈ rows, Rd Try.prog (d + 1) 3 row) → ∃ l : List Int, rows = l.map enc ∧ ∀ a ∈ l, i64 a
  | [], _ => ⟨[], rfl, by simp⟩
  | r :: rows, h => by
    obtain ⟨a, rfl, ha⟩ := rdI (h r (by simp))
    obtain ⟨l, rfl, hl⟩ := rowsI (rows := rows) fun row hr => h row (by simp [hr])
    exact ⟨a :: l, rfl, by simpa using ⟨ha, hl⟩⟩
theorem rd25 {u : AV} (h : RdV Try.prog 6 25 u) : ∃ l : List Int, u = A l ∧ l.length ≤ 9223372036854775807 ∧ ∀ a ∈ l, i64 a := by
  simp only [RdV, Try.underlying25, Rd] at h
  obtain ⟨rows, hu, hl, hr⟩ := h
  obtain ⟨l, rfl, hw⟩ := rowsI (d := 4) hr
  injection hu with hu
  rw [show Try.prog.cellsOf 3 = 1 by kernel_rfl, List.length_map] at hu
  refine ⟨l, hu, ?_, hw⟩
  simp only [List.length_map] at hl
  have : maxLen ≤ 9223372036854775807 := by unfold maxLen; omega
  omega
theorem rd3 {u : AV} (h : RdV Try.prog 6 3 u) : ∃ n : Int, u = I n ∧ i64 n := by
  simp only [RdV, Try.underlying3, Rd] at h
  obtain ⟨n, hu, hw⟩ := h
  injection hu with hu
  exact ⟨n, hu, wf64 hw⟩
theorem rdT {row : List AV} {d : Nat} (h : Rd Try.prog (d + 2) 25 row) : ∃ l : List Int, row = encT l ∧ l.length ≤ 9223372036854775807 ∧ ∀ a ∈ l, i64 a := by
  simp only [Rd, Try.underlying25] at h
  obtain ⟨rows, rfl, hl, hr⟩ := h
  obtain ⟨l, rfl, hw⟩ := rowsI (d := d) hr
  rw [show Try.prog.cellsOf 3 = 1 by kernel_rfl, List.length_map] at *
  refine ⟨l, rfl, ?_, hw⟩
  have : maxLen ≤ 9223372036854775807 := by unfold maxLen; omega
  omega
theorem rowsT {d : Nat} : ∀ {rows : List (List AV)}, (∀ row ∈ rows, Rd Try.prog (d + 2) 25 row) → ∃ l : List (List Int), rows = l.map encT ∧ ∀ a ∈ l, a.length ≤ 9223372036854775807 ∧ ∀ x ∈ a, i64 x
  | [], _ => ⟨[], rfl, by simp⟩
  | r :: rows, h => by
    obtain ⟨a, rfl, ha⟩ := rdT (h r (by simp))
    obtain ⟨l, rfl, hl⟩ := rowsT (rows := rows) fun row hr => h row (by simp [hr])
    exact ⟨a :: l, rfl, by simpa using ⟨ha, hl⟩⟩
theorem rd22 {u : AV} (h : RdV Try.prog 6 22 u) : ∃ T : List (List Int), u = AA T ∧ T.length ≤ 9223372036854775807 ∧ ∀ a ∈ T, a.length ≤ 9223372036854775807 ∧ ∀ x ∈ a, i64 x := by
  simp only [RdV, Try.underlying22, Rd] at h
  obtain ⟨rows, hu, hl, hr⟩ := h
  obtain ⟨l, rfl, hw⟩ := rowsT (d := 3) hr
  injection hu with hu
  rw [show Try.prog.cellsOf 25 = 1 by kernel_rfl, List.length_map] at hu
  refine ⟨l, hu, ?_, hw⟩
  simp only [List.length_map] at hl
  have : maxLen ≤ 9223372036854775807 := by unfold maxLen; omega
  omega
theorem rd32 {u : AV} (h : RdV Try.prog 6 32 u) : ∃ r k : List Int, u = .agg [A r, A k] ∧ r.length ≤ 9223372036854775807 ∧ k.length ≤ 9223372036854775807 := by
  simp only [RdV, Try.underlying32] at h
  obtain ⟨us, rfl, h⟩ := h
  rw [Rd] at h
  simp only [Try.underlying32, RdFs] at h
  obtain ⟨p, q, rfl, h1, p2, q2, rfl, h2, rfl⟩ := h
  obtain ⟨r, rfl, hr, _⟩ := rdT (d := 3) h1
  obtain ⟨k, rfl, hk, _⟩ := rdT (d := 3) h2
  exact ⟨r, k, rfl, hr, hk⟩
end Go.Abs.L38
