import Derived.Test.YtncihdldkhkajaaC32k
namespace Go.Abs.L32
open Go Go.Abs Go.Abs.Day Go.Proofs Go.RowKit
set_option linter.unusedVariables false
set_option maxRecDepth 20000
theorem tk {P : Program} {f : FuncId} {α : Type} {l : List α} {enc : α → List AV} {sz : Nat} {us : List AV} {r : AV} (h : Fn P f (.rsl sz l.length (l.map enc) :: us) r) : Fn P f (.rsl sz l.length ((l.map enc).take l.length) :: us) r := by rw [map_take_all]; exact h
theorem tk2 {P : Program} {f : FuncId} {α : Type} {l : List α} {enc : α → List AV} {sz : Nat} {u : AV} {us : List AV} {r : AV} (h : Fn P f (u :: .rsl sz l.length (l.map enc) :: us) r) : Fn P f (u :: .rsl sz l.length ((l.map enc).take l.length) :: us) r := by rw [map_take_all]; exact h
/-! ### the example -/
def ada : List UInt8 := [65, 100, 97]
def p0 : Per := ⟨4, ada, ⟨109573, 109573⟩, ⟨0, 1048575⟩⟩
def p1 : Per := ⟨4, ada, ⟨109573, 109573⟩, ⟨131487, 131487⟩⟩
def m0 : Dat := ⟨127835, 127835⟩
theorem y1 : yrs 109573 110 = 149750 := by rw [yrs_eq (y := 1900) (m := 1) (n := 1) ⟨by decide, by decide, by decide, by decide, by decide, by decide, by decide⟩]; decide
theorem y2 : yrs 149750 30 = 160707 := by rw [yrs_eq (y := 2010) (m := 1) (n := 1) ⟨by decide, by decide, by decide, by decide, by decide, by decide, by decide⟩]; decide
theorem y3 : yrs 127835 110 = 168012 := by rw [yrs_eq (y := 1950) (m := 1) (n := 1) ⟨by decide, by decide, by decide, by decide, by decide, by decide, by decide⟩]; decide
theorem y4 : yrs 168012 30 = 178970 := by rw [yrs_eq (y := 2060) (m := 1) (n := 1) ⟨by decide, by decide, by decide, by decide, by decide, by decide, by decide⟩]; decide
theorem y5 : yrs 131487 30 = 142445 := by rw [yrs_eq (y := 1960) (m := 1) (n := 1) ⟨by decide, by decide, by decide, by decide, by decide, by decide, by decide⟩]; decide
theorem y6 : yrs 1048575 30 = 1048575 := by rw [yrs_eq (y := 4470) (m := 11) (n := 25) ⟨by decide, by decide, by decide, by decide, by decide, by decide, by decide⟩]; decide
theorem u0 : untilR p0 m0 30 = (160708, 0) := by
  rw [untilR, if_neg (by decide), if_neg (by decide)]
  unfold untilE
  rw [show p0.d.hi = 1048575 from rfl, show p0.b.hi = 109573 from rfl, show m0.hi = 127835 from rfl, y1, y2, y3, y4, y6]
  decide
theorem u1 : untilE p1 m0 30 = 142446 := by
  unfold untilE
  rw [show p1.d.hi = 131487 from rfl, show p1.b.hi = 109573 from rfl, show m0.hi = 127835 from rfl, y1, y2, y3, y4, y5]
  decide
theorem g0 : groundsR [p1] [4] m0 30 131488 = ([⟨2, 4, 0, 142446⟩], 0) := by
  rw [groundsR, if_neg (by decide), if_neg (by decide), if_neg (by decide)]
  have hf : findP [p1] 4 = some p1 := by decide
  simp only [gl, hf, u1]
  decide
theorem r0 : learnR [p0] 4 ⟨0, 1048575⟩ ⟨131487, 131487⟩ = ([p1], 0) := by decide
theorem p0sz : ∀ p ∈ [p0], p.sz := by intro p hp; simp at hp; subst hp; unfold Per.sz; decide
theorem p1sz : ∀ p ∈ [p1], p.sz := by intro p hp; simp at hp; subst hp; unfold Per.sz; decide
theorem c11 : Fn Try.prog 11 [] (.bool true) := by
  have h20 := c20 p0 (by unfold Per.sz; decide) m0 30
  rw [u0] at h20
  have h18 := c18 [p0] (by decide) p0sz 4 ⟨0, 1048575⟩ ⟨131487, 131487⟩
  rw [r0] at h18
  have h13 := c13 [p1] (by decide) p1sz [4] (by decide) m0 30 131488
  rw [g0] at h13
  have h17 := c17 [⟨2, 4, 0, 142446⟩] [⟨2, 4, 0, 142446⟩] (by decide)
  refine mk11 rfl ⟨_, h20, _, h18, _, h13, [(2, true), (7, true), (13, true)], rfl, rfl, _, h17, rfl, ?_⟩
  exact ⟨0, rfl, 0, rfl, rfl, rfl, rfl⟩
/-! ### the laws -/
theorem gl_len (l : List Per) (made : Dat) (k day : Int) : ∀ (ids : List Int) (acc g : List Gr), gl l made k day acc ids = some g → g.length ≤ acc.length + ids.length
  | [], acc, g, h => by
    simp [gl] at h; subst h; simp
  | id :: r, acc, g, h => by
    rw [gl] at h
    cases hf : findP l id with
    | none => rw [hf] at h; cases h
    | some p =>
      rw [hf] at h
      have := gl_len l made k day r _ g h
      split at this
      · simp at this ⊢; omega
      · simp at this ⊢; omega
theorem groundsLen (l : List Per) (ids : List Int) (made : Dat) (k day : Int) (h : ids.length ≤ 1000) : (groundsR l ids made k day).1.length ≤ 9223372036854775807 := by
  unfold groundsR
  split
  · simp
  · split
    · simp
    · split
      · simp
      · split
        · simp
        · rename_i g hg
          have := gl_len l made k day ids [] g hg
          simp at this ⊢; omega
theorem l3 (l : List Per) (hl : l.length ≤ 9223372036854775807) (hz : ∀ p ∈ l, p.sz) (ids : List Int) (a b c d : Int) : Fn Try.prog 3 [A l, Is ids, .agg [I a, I b, I c, I d]] (.bool true) := by
  refine mk3 rfl ⟨_, c11, fun h => (by cases h), fun _ => ⟨[], _, c12 l hl, fun h => ⟨rfl, rfl, rfl⟩, fun h => ?_⟩⟩
  have h : (!fewB l || decide ((ids.length : Int) > 20)) = false := h
  simp at h
  have hlen := few_len h.1
  have h13 := c13 l hl hz ids (by omega) ⟨a, b⟩ c d
  have h16 := c16 l hl hz ids (by omega) ⟨a, b⟩ c d
  refine ⟨_, c14 l (by omega), true, _, c15 ids (by omega), true, _, h13, true, _, h16, [], _, tk2 (c17 _ _ (groundsLen l ids ⟨a, b⟩ c d (by omega))), rfl, rfl, ?_⟩
  show AV.bool true = AV.bool (decide _ && (_ == _))
  simp
theorem l6 (l : List Per) (hl : l.length ≤ 9223372036854775807) (hz : ∀ p ∈ l, p.sz) (id : Int) : Fn Try.prog 6 [A l, I id] (.bool true) := by
  refine mk6 rfl ⟨_, c11, fun h => (by cases h), fun _ => ⟨[], _, c12 l hl, fun h => ⟨rfl, rfl, rfl⟩, fun h => ?_⟩⟩
  have h : (!fewB l && ((l.length : Int) != 65)) = false := h
  have hlen : l.length ≤ 65 := by
    cases hf : fewB l
    · rw [hf] at h; simp at h; omega
    · have := few_len hf; omega
  refine ⟨_, c14 l (by omega), _, tk (c22 l hl hz id), _, c23 l hl hz id, [], _, c14 l (by omega), _, tk (c24 l hz), _, c25 l hz, rfl, rfl, ?_⟩
  show AV.bool true = AV.bool ((checkE l == checkE l) && eqL (encP (findE l id).1) (encP (findE l id).1) && ((findE l id).2 == (findE l id).2))
  rw [eqL_P]
  simp
theorem l8 (p : Per) (hp : p.sz) (made : Dat) (a b : Int) : Fn Try.prog 8 [.agg (encP p), .agg (encD made), .agg [I a, I b]] (.bool true) := by
  refine mk8 rfl ⟨_, c11, fun h => (by cases h), fun _ => ⟨fun h => ⟨rfl, rfl, rfl⟩, fun h => ?_⟩⟩
  refine ⟨_, c20 p hp made a, _, c26 p hp made a, _, c27 p hp b, _, c28 p hp b, [], rfl, rfl, ?_⟩
  show AV.bool true = AV.bool (((untilR p made a).1 == (untilR p made a).1) && ((untilR p made a).2 == (untilR p made a).2) && ((livesR p b).1 == (livesR p b).1) && ((livesR p b).2 == (livesR p b).2))
  simp
end Go.Abs.L32
