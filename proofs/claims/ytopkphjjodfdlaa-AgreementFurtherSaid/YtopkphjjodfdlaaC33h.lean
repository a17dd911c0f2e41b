import Derived.Test.YtopkphjjodfdlaaC33g
import Derived.Test.YtopkphjjodfdlaaRows
namespace Go.Abs.L33
open Go Go.Abs Go.Proofs
set_option linter.unusedVariables false
set_option maxRecDepth 20000
def i64 (n : Int) : Prop := -9223372036854775808 ≤ n ∧ n ≤ 9223372036854775807
theorem wf64 {n : Int} (h : (Lit.int .i64 n).wf = true) : i64 n := by
  simp [Lit.wf, IntKind.min, IntKind.max, IntKind.bits, IntKind.signed] at h
  unfold i64
  omega
def Agr.wf (a : Agr) : Prop := i64 a.id ∧ i64 a.acc ∧ i64 a.til ∧ i64 a.lo ∧ i64 a.hi
theorem rd29 {row : List AV} (h : Rd Try.prog 5 29 row) : ∃ a : Agr, row = encA a ∧ a.wf := by
  simp only [Rd, Try.underlying29, RdFs, Try.underlying3, Try.underlying4, Try.underlying27] at h
  obtain ⟨_, _, rfl, ⟨n0, rfl, w0⟩, _, _, rfl, ⟨n1, rfl, w1⟩, _, _, rfl, ⟨n2, rfl, w2⟩, _, _, rfl, ⟨b, rfl⟩, _, _, rfl, ⟨_, _, rfl, ⟨n4, rfl, w4⟩, _, _, rfl, ⟨n5, rfl, w5⟩, rfl⟩, rfl⟩ := h
  exact ⟨⟨n0, n1, n2, b, n4, n5⟩, rfl, wf64 w0, wf64 w1, wf64 w2, wf64 w4, wf64 w5⟩
theorem rows29 : ∀ {rows : List (List AV)}, (∀ row ∈ rows, Rd Try.prog 5 29 row) → ∃ l : List Agr, rows = l.map encA ∧ ∀ a ∈ l, a.wf
  | [], _ => ⟨[], rfl, by simp⟩
  | r :: rows, h => by
    obtain ⟨a, rfl, ha⟩ := rd29 (h r (by simp))
    obtain ⟨l, rfl, hl⟩ := rows29 (rows := rows) fun row hr => h row (by simp [hr])
    exact ⟨a :: l, rfl, by simpa using ⟨ha, hl⟩⟩
theorem rd22 {u : AV} (h : RdV Try.prog 6 22 u) : ∃ l : List Agr, u = A l ∧ l.length ≤ 9223372036854775807 ∧ ∀ a ∈ l, a.wf := by
  simp only [RdV, Try.underlying22, Rd] at h
  obtain ⟨rows, hu, hl, hr⟩ := h
  obtain ⟨l, rfl, hw⟩ := rows29 hr
  injection hu with hu
  rw [show Try.prog.cellsOf 29 = 6 by kernel_rfl, List.length_map] at hu
  refine ⟨l, hu, ?_, hw⟩
  simp only [List.length_map] at hl
  have : maxLen ≤ 9223372036854775807 := by unfold maxLen; omega
  omega
theorem rd3 {u : AV} (h : RdV Try.prog 6 3 u) : ∃ n : Int, u = I n ∧ i64 n := by
  simp only [RdV, Try.underlying3, Rd] at h
  obtain ⟨n, hu, hw⟩ := h
  injection hu with hu
  exact ⟨n, hu, wf64 hw⟩
theorem rdA29 {u : AV} (h : RdV Try.prog 6 29 u) : ∃ a : Agr, u = .agg (encA a) ∧ a.wf := by
  simp only [RdV, Try.underlying29] at h
  obtain ⟨us, rfl, h⟩ := h
  simp only [Rd, Try.underlying29, RdFs, Try.underlying3, Try.underlying4, Try.underlying27] at h
  obtain ⟨_, _, rfl, ⟨n0, rfl, w0⟩, _, _, rfl, ⟨n1, rfl, w1⟩, _, _, rfl, ⟨n2, rfl, w2⟩, _, _, rfl, ⟨b, rfl⟩, _, _, rfl, ⟨_, _, rfl, ⟨n4, rfl, w4⟩, _, _, rfl, ⟨n5, rfl, w5⟩, rfl⟩, rfl⟩ := h
  exact ⟨⟨n0, n1, n2, b, n4, n5⟩, rfl, wf64 w0, wf64 w1, wf64 w2, wf64 w4, wf64 w5⟩
theorem rd23 {u : AV} (h : RdV Try.prog 6 23 u) : ∃ x y z : Int, u = .agg [I x, I y, I z] ∧ i64 x ∧ i64 y ∧ i64 z := by
  simp only [RdV, Try.underlying23] at h
  obtain ⟨us, rfl, h⟩ := h
  simp only [Rd, Try.underlying23, RdN, Try.underlying3] at h
  obtain ⟨_, _, rfl, ⟨n0, rfl, w0⟩, _, _, rfl, ⟨n1, rfl, w1⟩, _, _, rfl, ⟨n2, rfl, w2⟩, rfl⟩ := h
  exact ⟨n0, n1, n2, rfl, wf64 w0, wf64 w1, wf64 w2⟩
theorem rd42 {u : AV} (h : RdV Try.prog 6 42 u) : ∃ x y : Int, u = .agg [I x, I y] ∧ i64 x ∧ i64 y := by
  simp only [RdV, Try.underlying42] at h
  obtain ⟨us, rfl, h⟩ := h
  simp only [Rd, Try.underlying42, RdN, Try.underlying3] at h
  obtain ⟨_, _, rfl, ⟨n0, rfl, w0⟩, _, _, rfl, ⟨n1, rfl, w1⟩, rfl⟩ := h
  exact ⟨n0, n1, rfl, wf64 w0, wf64 w1⟩
theorem rd47 {u : AV} (h : RdV Try.prog 6 47 u) : ∃ x y z t : Int, u = .agg [I x, I y, I z, I t] ∧ i64 x ∧ i64 y ∧ i64 z ∧ i64 t := by
  simp only [RdV, Try.underlying47] at h
  obtain ⟨us, rfl, h⟩ := h
  simp only [Rd, Try.underlying47, RdN, Try.underlying3] at h
  obtain ⟨_, _, rfl, ⟨n0, rfl, w0⟩, _, _, rfl, ⟨n1, rfl, w1⟩, _, _, rfl, ⟨n2, rfl, w2⟩, _, _, rfl, ⟨n3, rfl, w3⟩, rfl⟩ := h
  exact ⟨n0, n1, n2, n3, rfl, wf64 w0, wf64 w1, wf64 w2, wf64 w3⟩
theorem rdvs2 {P : Program} {d t0 t1 : Nat} {us : List AV} (h : RdVs P d [t0, t1] us) : ∃ u0 u1, us = [u0, u1] ∧ RdV P d t0 u0 ∧ RdV P d t1 u1 := by
  match us, h with
  | [u0, u1], h => exact ⟨u0, u1, rfl, h.1, h.2.1⟩
theorem rdvs3 {P : Program} {d t0 t1 t2 : Nat} {us : List AV} (h : RdVs P d [t0, t1, t2] us) : ∃ u0 u1 u2, us = [u0, u1, u2] ∧ RdV P d t0 u0 ∧ RdV P d t1 u1 ∧ RdV P d t2 u2 := by
  match us, h with
  | [u0, u1, u2], h => exact ⟨u0, u1, u2, rfl, h.1, h.2.1, h.2.2.1⟩
end Go.Abs.L33
