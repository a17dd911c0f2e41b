import Derived.Test.YtncihdldkhkajaaL32c
import Derived.Test.YtncihdldkhkajaaShp
import Derived.Test.YtncihdldkhkajaaRows
namespace Go.Proofs.Ytncihdldkhkajaa
open Go Go.Abs Go.Abs.Day Go.Abs.L32 Go.ChangeShapes Go.WideShapes Go.ChangeAt Go.RowKit
set_option linter.unusedVariables false
set_option maxRecDepth 100000
theorem rd3 {u : AV} (h : RdV Try.prog 6 3 u) : ∃ n : Int, u = I n ∧ i64 n := by
  simp only [RdV, Try.underlying3, Rd] at h
  obtain ⟨n, hu, hw⟩ := h
  injection hu with hu
  exact ⟨n, hu, wf64 hw⟩
theorem rd28 {u : AV} (h : RdV Try.prog 6 28 u) : ∃ d : Dat, u = .agg (encD d) := by
  simp only [RdV, Try.underlying28] at h
  obtain ⟨us, rfl, h⟩ := h
  simp only [Rd, Try.underlying28, RdFs, Try.underlying3] at h
  obtain ⟨_, _, rfl, ⟨n0, rfl, w0⟩, _, _, rfl, ⟨n1, rfl, w1⟩, rfl⟩ := h
  exact ⟨⟨n0, n1⟩, rfl⟩
theorem per {d : Nat} {us : List AV} (h : Rd Try.prog (d + 3) 35 us) : ∃ p : Per, us = encP p ∧ p.sz := by
  simp only [Rd, Try.underlying35, RdFs, Try.underlying3, Try.underlying9, Try.underlying28] at h
  obtain ⟨_, _, rfl, ⟨n0, rfl, w0⟩, _, _, rfl, ⟨s, rfl, ws⟩, _, _, rfl, ⟨_, _, rfl, ⟨n1, rfl, w1⟩, _, _, rfl, ⟨n2, rfl, w2⟩, rfl⟩, _, _, rfl, ⟨_, _, rfl, ⟨n3, rfl, w3⟩, _, _, rfl, ⟨n4, rfl, w4⟩, rfl⟩, rfl⟩ := h
  refine ⟨⟨n0, s.data.toList, ⟨n1, n2⟩, ⟨n3, n4⟩⟩, ?_, ?_⟩
  · simp only [encP, bs_data]; rfl
  · unfold Per.sz
    simp only []
    rw [show s.data.toList.length = s.size by simp]
    unfold maxLen at ws; omega
theorem rd35 {u : AV} (h : RdV Try.prog 6 35 u) : ∃ p : Per, u = .agg (encP p) ∧ p.sz := by
  simp only [RdV, Try.underlying35] at h
  obtain ⟨us, rfl, h⟩ := h
  obtain ⟨p, rfl, hp⟩ := per (d := 3) h
  exact ⟨p, rfl, hp⟩
theorem pers {d : Nat} : ∀ rows : List (List AV), (∀ row ∈ rows, Rd Try.prog (d + 3) 35 row) → ∃ l : List Per, rows = l.map encP ∧ ∀ p ∈ l, p.sz
  | [], _ => ⟨[], rfl, by simp⟩
  | r :: rs, h => by
    obtain ⟨p, rfl, hp⟩ := per (h r (by simp))
    obtain ⟨l, rfl, hl⟩ := pers rs fun x hx => h x (by simp [hx])
    exact ⟨p :: l, rfl, by simpa using ⟨hp, hl⟩⟩
theorem rd22 {u : AV} (h : RdV Try.prog 6 22 u) : ∃ l : List Per, u = A l ∧ l.length ≤ 9223372036854775807 ∧ ∀ p ∈ l, p.sz := by
  simp only [RdV, Try.underlying22] at h
  rw [Rd] at h
  simp only [Try.underlying22] at h
  obtain ⟨rows, hu, hw, hr⟩ := h
  injection hu with hu
  obtain ⟨l, rfl, hl⟩ := pers (d := 2) rows hr
  refine ⟨l, ?_, ?_, hl⟩
  · rw [hu, show Try.prog.cellsOf 35 = 6 by kernel_rfl]; simp
  · unfold maxLen at hw; simp at hw; omega
theorem ints {d : Nat} : ∀ rows : List (List AV), (∀ row ∈ rows, Rd Try.prog (d + 1) 3 row) → ∃ l : List Int, rows = l.map fun k => [I k]
  | [], _ => ⟨[], rfl⟩
  | r :: rs, h => by
    have h0 := h r (by simp)
    simp only [Rd, Try.underlying3] at h0
    obtain ⟨n, rfl, _⟩ := h0
    obtain ⟨l, rfl⟩ := ints rs fun x hx => h x (by simp [hx])
    exact ⟨n :: l, rfl⟩
theorem rd23 {u : AV} (h : RdV Try.prog 6 23 u) : ∃ l : List Int, u = Is l := by
  simp only [RdV, Try.underlying23] at h
  rw [Rd] at h
  simp only [Try.underlying23] at h
  obtain ⟨rows, hu, hw, hr⟩ := h
  injection hu with hu
  obtain ⟨l, rfl⟩ := ints (d := 4) rows hr
  refine ⟨l, ?_⟩
  rw [hu, show Try.prog.cellsOf 3 = 1 by kernel_rfl]; simp
theorem rd54 {u : AV} (h : RdV Try.prog 6 54 u) : ∃ x y : Int, u = .agg [I x, I y] := by
  simp only [RdV, Try.underlying54] at h
  obtain ⟨us, rfl, h⟩ := h
  simp only [Rd, Try.underlying54, RdN, Try.underlying3] at h
  obtain ⟨_, _, rfl, ⟨n0, rfl, w0⟩, _, _, rfl, ⟨n1, rfl, w1⟩, rfl⟩ := h
  exact ⟨n0, n1, rfl⟩
theorem rd44 {u : AV} (h : RdV Try.prog 6 44 u) : ∃ x y z : Int, u = .agg [I x, I y, I z] ∧ i64 x ∧ i64 y ∧ i64 z := by
  simp only [RdV, Try.underlying44] at h
  obtain ⟨us, rfl, h⟩ := h
  simp only [Rd, Try.underlying44, RdN, Try.underlying3] at h
  obtain ⟨_, _, rfl, ⟨n0, rfl, w0⟩, _, _, rfl, ⟨n1, rfl, w1⟩, _, _, rfl, ⟨n2, rfl, w2⟩, rfl⟩ := h
  exact ⟨n0, n1, n2, rfl, wf64 w0, wf64 w1, wf64 w2⟩
theorem rd24 {u : AV} (h : RdV Try.prog 6 24 u) : ∃ x y z v : Int, u = .agg [I x, I y, I z, I v] := by
  simp only [RdV, Try.underlying24] at h
  obtain ⟨us, rfl, h⟩ := h
  simp only [Rd, Try.underlying24, RdN, Try.underlying3] at h
  obtain ⟨_, _, rfl, ⟨n0, rfl, w0⟩, _, _, rfl, ⟨n1, rfl, w1⟩, _, _, rfl, ⟨n2, rfl, w2⟩, _, _, rfl, ⟨n3, rfl, w3⟩, rfl⟩ := h
  exact ⟨n0, n1, n2, n3, rfl⟩
theorem dat {d : Nat} {us : List AV} (h : Rd Try.prog (d + 2) 28 us) : ∃ x y : Int, us = [I x, I y] := by
  simp only [Rd, Try.underlying28, RdFs, Try.underlying3] at h
  obtain ⟨_, _, rfl, ⟨n0, rfl, w0⟩, _, _, rfl, ⟨n1, rfl, w1⟩, rfl⟩ := h
  exact ⟨n0, n1, rfl⟩
theorem rd58 {u : AV} (h : RdV Try.prog 6 58 u) : ∃ a b c d : Int, u = .agg [I a, I b, I c, I d] := by
  simp only [RdV, Try.underlying58] at h
  obtain ⟨us, rfl, h⟩ := h
  rw [Rd] at h
  simp only [Try.underlying58, RdN] at h
  obtain ⟨_, _, rfl, h0, _, _, rfl, h1, rfl⟩ := h
  obtain ⟨a, b, rfl⟩ := dat (d := 3) h0
  obtain ⟨c, d, rfl⟩ := dat (d := 3) h1
  exact ⟨a, b, c, d, rfl⟩
theorem rd53 {u : AV} (h : RdV Try.prog 6 53 u) : ∃ a b c d e f : Int, u = .agg [I a, I b, I c, I d, I e, I f] := by
  simp only [RdV, Try.underlying53] at h
  obtain ⟨us, rfl, h⟩ := h
  rw [Rd] at h
  simp only [Try.underlying53, RdN] at h
  obtain ⟨_, _, rfl, h0, _, _, rfl, h1, _, _, rfl, h2, rfl⟩ := h
  obtain ⟨a, b, rfl⟩ := dat (d := 3) h0
  obtain ⟨c, d, rfl⟩ := dat (d := 3) h1
  obtain ⟨e, f, rfl⟩ := dat (d := 3) h2
  exact ⟨a, b, c, d, e, f, rfl⟩
theorem rd39 {u : AV} (h : RdV Try.prog 6 39 u) : ∃ a b c d e f g k : Int, u = .agg [I a, I b, I c, I d, I e, I f, I g, I k] := by
  simp only [RdV, Try.underlying39] at h
  obtain ⟨us, rfl, h⟩ := h
  rw [Rd] at h
  simp only [Try.underlying39, RdN] at h
  obtain ⟨_, _, rfl, h0, _, _, rfl, h1, _, _, rfl, h2, _, _, rfl, h3, rfl⟩ := h
  obtain ⟨a, b, rfl⟩ := dat (d := 3) h0
  obtain ⟨c, d, rfl⟩ := dat (d := 3) h1
  obtain ⟨e, f, rfl⟩ := dat (d := 3) h2
  obtain ⟨g, k, rfl⟩ := dat (d := 3) h3
  exact ⟨a, b, c, d, e, f, g, k, rfl⟩
theorem own : ownKnob Try.prog.godebug = none := by kernel_rfl
theorem laidOut : laidOutB Try.prog = true := by kernel_rfl
theorem wi_of (w : World) (h : w.ShapedOpen Try.prog) : WI w := Try.laysM144.s1_3 w h
end Go.Proofs.Ytncihdldkhkajaa
