import Derived.Test.YtknbomaidhlnlaaC42f
import Derived.Test.YtknbomaidhlnlaaRows
namespace Go.Abs.L42
open Go Go.Abs Go.Proofs
set_option linter.unusedVariables false
set_option maxRecDepth 20000
def Req.wf (a : Req) : Prop := i64 a.id ∧ i64 a.rd ∧ i64 a.un ∧ i64 a.bx ∧ i64 a.dy ∧ i64 a.st ∧ i64 a.ch
theorem rd24 {row : List AV} {d : Nat} (h : Rd Try.prog (d + 2) 24 row) : ∃ a : Req, row = encR a ∧ a.wf := by
  simp only [Rd, Try.underlying24, RdFs, Try.underlying3] at h
  obtain ⟨_, _, rfl, ⟨n0, rfl, w0⟩, _, _, rfl, ⟨n1, rfl, w1⟩, _, _, rfl, ⟨n2, rfl, w2⟩, _, _, rfl, ⟨n3, rfl, w3⟩, _, _, rfl, ⟨n4, rfl, w4⟩, _, _, rfl, ⟨n5, rfl, w5⟩, _, _, rfl, ⟨n6, rfl, w6⟩, rfl⟩ := h
  exact ⟨⟨n0, n1, n2, n3, n4, n5, n6⟩, rfl, wf64 w0, wf64 w1, wf64 w2, wf64 w3, wf64 w4, wf64 w5, wf64 w6⟩
theorem rows24 {d : Nat} : ∀ {rows : List (List AV)}, (∀ row ∈ rows, Rd Try.prog (d + 2) 24 row) → ∃ l : List Req, rows = l.map encR ∧ ∀ a ∈ l, a.wf
  | [], _ => ⟨[], rfl, by simp⟩
  | r :: rows, h => by
    obtain ⟨a, rfl, ha⟩ := rd24 (h r (by simp))
    obtain ⟨l, rfl, hl⟩ := rows24 (rows := rows) fun row hr => h row (by simp [hr])
    exact ⟨a :: l, rfl, by simpa using ⟨ha, hl⟩⟩
theorem rd22 {u : AV} (h : RdV Try.prog 6 22 u) : ∃ l : List Req, u = A l ∧ l.length ≤ 9223372036854775807 ∧ ∀ a ∈ l, a.wf := by
  simp only [RdV, Try.underlying22, Rd] at h
  obtain ⟨rows, hu, hl, hr⟩ := h
  obtain ⟨l, rfl, hw⟩ := rows24 (d := 3) hr
  injection hu with hu
  rw [show Try.prog.cellsOf 24 = 7 by kernel_rfl, List.length_map] at hu
  refine ⟨l, hu, ?_, hw⟩
  simp only [List.length_map] at hl
  have : maxLen ≤ 9223372036854775807 := by unfold maxLen; omega
  omega
theorem rd3 {u : AV} (h : RdV Try.prog 6 3 u) : ∃ n : Int, u = I n ∧ i64 n := by
  simp only [RdV, Try.underlying3, Rd] at h
  obtain ⟨n, hu, hw⟩ := h
  injection hu with hu
  exact ⟨n, hu, wf64 hw⟩
theorem rdA24 {u : AV} (h : RdV Try.prog 6 24 u) : ∃ a : Req, u = .agg (encR a) ∧ a.wf := by
  simp only [RdV, Try.underlying24] at h
  obtain ⟨us, rfl, h⟩ := h
  obtain ⟨a, rfl, ha⟩ := rd24 (d := 4) h
  exact ⟨a, rfl, ha⟩
theorem rd47 {u : AV} (h : RdV Try.prog 6 47 u) : ∃ x y z : Int, u = .agg [I x, I y, I z] ∧ i64 x ∧ i64 y ∧ i64 z := by
  simp only [RdV, Try.underlying47] at h
  obtain ⟨us, rfl, h⟩ := h
  simp only [Rd, Try.underlying47, RdN, Try.underlying3] at h
  obtain ⟨_, _, rfl, ⟨n0, rfl, w0⟩, _, _, rfl, ⟨n1, rfl, w1⟩, _, _, rfl, ⟨n2, rfl, w2⟩, rfl⟩ := h
  exact ⟨n0, n1, n2, rfl, wf64 w0, wf64 w1, wf64 w2⟩
theorem fnA {f : FuncId} {l : List Req} {us : List AV} {r : AV} (h : Fn Try.prog f (A l :: us) r) : Fn Try.prog f (.rsl 7 l.length ((l.map encR).take l.length) :: us) r := by rw [map_take_all]; exact h
theorem fnAA {f : FuncId} {l m : List Req} {us : List AV} {r : AV} (h : Fn Try.prog f (A l :: A m :: us) r) : Fn Try.prog f (.rsl 7 l.length ((l.map encR).take l.length) :: .rsl 7 m.length ((m.map encR).take m.length) :: us) r := by rw [map_take_all, map_take_all]; exact h
theorem fnA2 {f : FuncId} {l : List Req} {u : AV} {us : List AV} {r : AV} (h : Fn Try.prog f (u :: A l :: us) r) : Fn Try.prog f (u :: .rsl 7 l.length ((l.map encR).take l.length) :: us) r := by rw [map_take_all]; exact h
theorem place_len (l : List Req) (r : Req) (h : l.length ≤ 300) : (placeE l r).1.length ≤ 301 := by
  unfold placeE
  repeat' split
  all_goals simp
  omega
theorem l3 (l : List Req) (r : Req) : Fn Try.prog 3 [A l, .agg (encR r)] (.bool true) := by
  refine mk3 rfl ⟨_, c10, fun h => (by cases h), fun _ => ⟨_, c11 l, fun h => ⟨rfl, rfl, rfl⟩, fun h => ?_⟩⟩
  have hlen : l.length ≤ 40 := by simp at h; omega
  have hp := place_len l r (by omega)
  refine ⟨_, c13 l (by omega), true, _, c12 l r, true, _, c14 l r, [], _, c13 l (by omega), _, fnA (c15 l), _, c16 l, _, fnA2 (c17 (placeE l r).1 (placeE l r).1 (by omega)), rfl, rfl, ?_⟩
  show AV.bool true = AV.bool ((checkE l == checkE l) && decide ((placeE l r).1 = (placeE l r).1) && ((placeE l r).2 == (placeE l r).2))
  simp
theorem make_len (st : Int) (can : Nat → Bool) (l : List Req) (n d : Int) : (makeE st can l n d).1.length ≤ l.length := by
  unfold makeE
  repeat' split
  all_goals simp
theorem l6 (l : List Req) (n d : Int) : Fn Try.prog 6 [A l, I n, I d] (.bool true) := by
  refine mk6 rfl ⟨_, c10, fun h => (by cases h), fun _ => ⟨_, c11 l, fun h => ⟨rfl, rfl, rfl⟩, fun h => ?_⟩⟩
  have hlen : l.length ≤ 40 := by simp at h; omega
  have h1 : (lendE l n d).1.length ≤ l.length := make_len _ _ _ _ _
  have h2 : (returnE l n d).1.length ≤ l.length := make_len _ _ _ _ _
  refine ⟨_, c13 l (by omega), _, fnA (c20 l n d), _, c23 l n d, _, c13 l (by omega), _, fnA (c24 l n d), _, c25 l n d, [], _, fnAA (c17 _ _ (by omega)), _, fnAA (c17 _ _ (by omega)), fun h => ?_, fun h => ?_⟩
  · simp at h
  · refine ⟨fun m c => ∃ k : Nat, k ≤ 2 ∧ m = 2 - k ∧ c = ⟨[(0, A l), (1, I n), (2, I d), (6, .bool false), (76, .osl 1216 1 2), (77, I 2), (78, I k)], [(1216, ⟨4, 1, .pure, [[.bool false], [.bool true]]⟩)]⟩, ⟨_, _, Wk.keep [0, 1, 2, 6, 76, 77, 78] [1216], 0, by omega, rfl, rfl⟩, ?_⟩
    rintro m c ⟨k, hk, rfl, rfl⟩
    refine ⟨fun h => ?_, fun h => ⟨rfl, rfl, rfl⟩⟩
    simp at h
    obtain ⟨f, hf⟩ : ∃ f, ([[.bool false], [.bool true]] : List (List AV))[k]? = some [.bool f] := by
      match k, h with
      | 0, _ => exact ⟨false, rfl⟩
      | 1, _ => exact ⟨true, rfl⟩
    have h3 : (dropE' l n d f).1.length ≤ l.length := make_len _ _ _ _ _
    refine ⟨⟨by omega, by omega⟩, [.bool f], hf, _, c13 l (by omega), _, fnA (c26 l n d f), _, c27 l n d f, [], _, fnAA (c17 _ _ (by omega)), fun h => ?_, fun h => ?_⟩
    · simp at h
    · refine ⟨_, wrap64 (by omega) (by omega), ?_⟩
      exact ⟨_, _, Wk.keep [0, 1, 2, 6, 76, 77, 78] [1216], by omega, k + 1, by omega, rfl, rfl⟩
end Go.Abs.L42
