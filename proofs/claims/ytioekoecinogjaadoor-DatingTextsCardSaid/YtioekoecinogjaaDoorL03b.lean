import Derived.Test.YtioekoecinogjaaDoorL03a
namespace Go.Abs.L03
open Go Go.Abs Go.Abs.Day Go.Proofs Go.RowKit
set_option linter.unusedVariables false
set_option maxRecDepth 20000
theorem e1 (x : Int) : (true && (false || (x == x))) = true := by simp
theorem l7_0 (a b c : Dat) (ha : okD a = true) (hb : okD b = true) (hm : (meetE a c).2 = true) (hx : okD (meetE a c).1 = true) (q1 : (befR a b).1 ≠ 1) (q2 : (befR b a).1 ≠ 1) (q3 : (sameR a b).1 ≠ 1) (h1 : (befR a b).1 = 1 ∨ (befR (meetE a c).1 b).1 = (befR a b).1) (h2 : (befR b a).1 = 1 ∨ (befR b (meetE a c).1).1 = (befR b a).1) (h3 : (sameR a b).1 = 1 ∨ (sameR (meetE a c).1 b).1 = (sameR a b).1) : Fn Tryd.prog 7 [.agg (encD a), .agg (encD b), .agg (encD c)] (.bool true) := by
  have hMt := c_Meet a c
  rw [hm] at hMt
  have hCk := c_dCheck b
  rw [show chkD b = 0 from chk_iff.2 hb] at hCk
  have g1 := c17 a b
  have g2 := c17 (meetE a c).1 b
  have g3 := c17 b a
  have g4 := c17 b (meetE a c).1
  have g5 := c19 a b
  have g6 := c19 (meetE a c).1 b
  rw [bef_ok ha hb] at g1
  rw [bef_ok hx hb] at g2
  rw [bef_ok hb ha] at g3
  rw [bef_ok hb hx] at g4
  rw [same_ok ha hb] at g5
  rw [same_ok hx hb] at g6
  rw [h1.resolve_left q1] at g2
  rw [h2.resolve_left q2] at g4
  rw [h3.resolve_left q3] at g6
  generalize (befR a b).1 = n1 at *
  generalize (befR b a).1 = n2 at *
  generalize (sameR a b).1 = n3 at *
  exact mk7 rfl ⟨_, c11, fun h => (by cases h), fun _ => ⟨_, hMt, [], _, hCk, fun h => (by cases h), fun _ => ⟨_, g1, _, g2, _, g3, _, g4, _, g5, _, g6, [(22, true), (25, false), (31, true), (34, false), (40, true), (43, false)], rfl, by simpa using q1, e1 n1, by simpa using q2, e1 n2, by simpa using q3, rfl, rfl, congrArg AV.bool (e1 n3).symm⟩⟩⟩
theorem l7_1 (a b c : Dat) (ha : okD a = true) (hb : okD b = true) (hm : (meetE a c).2 = true) (hx : okD (meetE a c).1 = true) (q1 : (befR a b).1 ≠ 1) (q2 : (befR b a).1 ≠ 1) (q3 : (sameR a b).1 = 1) (h1 : (befR a b).1 = 1 ∨ (befR (meetE a c).1 b).1 = (befR a b).1) (h2 : (befR b a).1 = 1 ∨ (befR b (meetE a c).1).1 = (befR b a).1) (h3 : (sameR a b).1 = 1 ∨ (sameR (meetE a c).1 b).1 = (sameR a b).1) : Fn Tryd.prog 7 [.agg (encD a), .agg (encD b), .agg (encD c)] (.bool true) := by
  have hMt := c_Meet a c
  rw [hm] at hMt
  have hCk := c_dCheck b
  rw [show chkD b = 0 from chk_iff.2 hb] at hCk
  have g1 := c17 a b
  have g2 := c17 (meetE a c).1 b
  have g3 := c17 b a
  have g4 := c17 b (meetE a c).1
  have g5 := c19 a b
  have g6 := c19 (meetE a c).1 b
  rw [bef_ok ha hb] at g1
  rw [bef_ok hx hb] at g2
  rw [bef_ok hb ha] at g3
  rw [bef_ok hb hx] at g4
  rw [same_ok ha hb] at g5
  rw [same_ok hx hb] at g6
  rw [h1.resolve_left q1] at g2
  rw [h2.resolve_left q2] at g4
  rw [q3] at g5
  generalize (befR a b).1 = n1 at *
  generalize (befR b a).1 = n2 at *
  exact mk7 rfl ⟨_, c11, fun h => (by cases h), fun _ => ⟨_, hMt, [], _, hCk, fun h => (by cases h), fun _ => ⟨_, g1, _, g2, _, g3, _, g4, _, g5, _, g6, [(22, true), (25, false), (31, true), (34, false), (40, true), (43, true)], rfl, by simpa using q1, e1 n1, by simpa using q2, e1 n2, rfl, rfl, rfl, rfl⟩⟩⟩
theorem l7_2 (a b c : Dat) (ha : okD a = true) (hb : okD b = true) (hm : (meetE a c).2 = true) (hx : okD (meetE a c).1 = true) (q1 : (befR a b).1 ≠ 1) (q2 : (befR b a).1 = 1) (q3 : (sameR a b).1 ≠ 1) (h1 : (befR a b).1 = 1 ∨ (befR (meetE a c).1 b).1 = (befR a b).1) (h2 : (befR b a).1 = 1 ∨ (befR b (meetE a c).1).1 = (befR b a).1) (h3 : (sameR a b).1 = 1 ∨ (sameR (meetE a c).1 b).1 = (sameR a b).1) : Fn Tryd.prog 7 [.agg (encD a), .agg (encD b), .agg (encD c)] (.bool true) := by
  have hMt := c_Meet a c
  rw [hm] at hMt
  have hCk := c_dCheck b
  rw [show chkD b = 0 from chk_iff.2 hb] at hCk
  have g1 := c17 a b
  have g2 := c17 (meetE a c).1 b
  have g3 := c17 b a
  have g4 := c17 b (meetE a c).1
  have g5 := c19 a b
  have g6 := c19 (meetE a c).1 b
  rw [bef_ok ha hb] at g1
  rw [bef_ok hx hb] at g2
  rw [bef_ok hb ha] at g3
  rw [bef_ok hb hx] at g4
  rw [same_ok ha hb] at g5
  rw [same_ok hx hb] at g6
  rw [h1.resolve_left q1] at g2
  rw [q2] at g3
  rw [h3.resolve_left q3] at g6
  generalize (befR a b).1 = n1 at *
  generalize (sameR a b).1 = n3 at *
  exact mk7 rfl ⟨_, c11, fun h => (by cases h), fun _ => ⟨_, hMt, [], _, hCk, fun h => (by cases h), fun _ => ⟨_, g1, _, g2, _, g3, _, g4, _, g5, _, g6, [(22, true), (25, false), (31, true), (34, true), (40, true), (43, false)], rfl, by simpa using q1, e1 n1, rfl, rfl, by simpa using q3, rfl, rfl, congrArg AV.bool (e1 n3).symm⟩⟩⟩
theorem l7_3 (a b c : Dat) (ha : okD a = true) (hb : okD b = true) (hm : (meetE a c).2 = true) (hx : okD (meetE a c).1 = true) (q1 : (befR a b).1 ≠ 1) (q2 : (befR b a).1 = 1) (q3 : (sameR a b).1 = 1) (h1 : (befR a b).1 = 1 ∨ (befR (meetE a c).1 b).1 = (befR a b).1) (h2 : (befR b a).1 = 1 ∨ (befR b (meetE a c).1).1 = (befR b a).1) (h3 : (sameR a b).1 = 1 ∨ (sameR (meetE a c).1 b).1 = (sameR a b).1) : Fn Tryd.prog 7 [.agg (encD a), .agg (encD b), .agg (encD c)] (.bool true) := by
  have hMt := c_Meet a c
  rw [hm] at hMt
  have hCk := c_dCheck b
  rw [show chkD b = 0 from chk_iff.2 hb] at hCk
  have g1 := c17 a b
  have g2 := c17 (meetE a c).1 b
  have g3 := c17 b a
  have g4 := c17 b (meetE a c).1
  have g5 := c19 a b
  have g6 := c19 (meetE a c).1 b
  rw [bef_ok ha hb] at g1
  rw [bef_ok hx hb] at g2
  rw [bef_ok hb ha] at g3
  rw [bef_ok hb hx] at g4
  rw [same_ok ha hb] at g5
  rw [same_ok hx hb] at g6
  rw [h1.resolve_left q1] at g2
  rw [q2] at g3
  rw [q3] at g5
  generalize (befR a b).1 = n1 at *
  exact mk7 rfl ⟨_, c11, fun h => (by cases h), fun _ => ⟨_, hMt, [], _, hCk, fun h => (by cases h), fun _ => ⟨_, g1, _, g2, _, g3, _, g4, _, g5, _, g6, [(22, true), (25, false), (31, true), (34, true), (40, true), (43, true)], rfl, by simpa using q1, e1 n1, rfl, rfl, rfl, rfl, rfl, rfl⟩⟩⟩
theorem l7_4 (a b c : Dat) (ha : okD a = true) (hb : okD b = true) (hm : (meetE a c).2 = true) (hx : okD (meetE a c).1 = true) (q1 : (befR a b).1 = 1) (q2 : (befR b a).1 ≠ 1) (q3 : (sameR a b).1 ≠ 1) (h1 : (befR a b).1 = 1 ∨ (befR (meetE a c).1 b).1 = (befR a b).1) (h2 : (befR b a).1 = 1 ∨ (befR b (meetE a c).1).1 = (befR b a).1) (h3 : (sameR a b).1 = 1 ∨ (sameR (meetE a c).1 b).1 = (sameR a b).1) : Fn Tryd.prog 7 [.agg (encD a), .agg (encD b), .agg (encD c)] (.bool true) := by
  have hMt := c_Meet a c
  rw [hm] at hMt
  have hCk := c_dCheck b
  rw [show chkD b = 0 from chk_iff.2 hb] at hCk
  have g1 := c17 a b
  have g2 := c17 (meetE a c).1 b
  have g3 := c17 b a
  have g4 := c17 b (meetE a c).1
  have g5 := c19 a b
  have g6 := c19 (meetE a c).1 b
  rw [bef_ok ha hb] at g1
  rw [bef_ok hx hb] at g2
  rw [bef_ok hb ha] at g3
  rw [bef_ok hb hx] at g4
  rw [same_ok ha hb] at g5
  rw [same_ok hx hb] at g6
  rw [q1] at g1
  rw [h2.resolve_left q2] at g4
  rw [h3.resolve_left q3] at g6
  generalize (befR b a).1 = n2 at *
  generalize (sameR a b).1 = n3 at *
  exact mk7 rfl ⟨_, c11, fun h => (by cases h), fun _ => ⟨_, hMt, [], _, hCk, fun h => (by cases h), fun _ => ⟨_, g1, _, g2, _, g3, _, g4, _, g5, _, g6, [(22, true), (25, true), (31, true), (34, false), (40, true), (43, false)], rfl, rfl, rfl, by simpa using q2, e1 n2, by simpa using q3, rfl, rfl, congrArg AV.bool (e1 n3).symm⟩⟩⟩
theorem l7_5 (a b c : Dat) (ha : okD a = true) (hb : okD b = true) (hm : (meetE a c).2 = true) (hx : okD (meetE a c).1 = true) (q1 : (befR a b).1 = 1) (q2 : (befR b a).1 ≠ 1) (q3 : (sameR a b).1 = 1) (h1 : (befR a b).1 = 1 ∨ (befR (meetE a c).1 b).1 = (befR a b).1) (h2 : (befR b a).1 = 1 ∨ (befR b (meetE a c).1).1 = (befR b a).1) (h3 : (sameR a b).1 = 1 ∨ (sameR (meetE a c).1 b).1 = (sameR a b).1) : Fn Tryd.prog 7 [.agg (encD a), .agg (encD b), .agg (encD c)] (.bool true) := by
  have hMt := c_Meet a c
  rw [hm] at hMt
  have hCk := c_dCheck b
  rw [show chkD b = 0 from chk_iff.2 hb] at hCk
  have g1 := c17 a b
  have g2 := c17 (meetE a c).1 b
  have g3 := c17 b a
  have g4 := c17 b (meetE a c).1
  have g5 := c19 a b
  have g6 := c19 (meetE a c).1 b
  rw [bef_ok ha hb] at g1
  rw [bef_ok hx hb] at g2
  rw [bef_ok hb ha] at g3
  rw [bef_ok hb hx] at g4
  rw [same_ok ha hb] at g5
  rw [same_ok hx hb] at g6
  rw [q1] at g1
  rw [h2.resolve_left q2] at g4
  rw [q3] at g5
  generalize (befR b a).1 = n2 at *
  exact mk7 rfl ⟨_, c11, fun h => (by cases h), fun _ => ⟨_, hMt, [], _, hCk, fun h => (by cases h), fun _ => ⟨_, g1, _, g2, _, g3, _, g4, _, g5, _, g6, [(22, true), (25, true), (31, true), (34, false), (40, true), (43, true)], rfl, rfl, rfl, by simpa using q2, e1 n2, rfl, rfl, rfl, rfl⟩⟩⟩
theorem l7_6 (a b c : Dat) (ha : okD a = true) (hb : okD b = true) (hm : (meetE a c).2 = true) (hx : okD (meetE a c).1 = true) (q1 : (befR a b).1 = 1) (q2 : (befR b a).1 = 1) (q3 : (sameR a b).1 ≠ 1) (h1 : (befR a b).1 = 1 ∨ (befR (meetE a c).1 b).1 = (befR a b).1) (h2 : (befR b a).1 = 1 ∨ (befR b (meetE a c).1).1 = (befR b a).1) (h3 : (sameR a b).1 = 1 ∨ (sameR (meetE a c).1 b).1 = (sameR a b).1) : Fn Tryd.prog 7 [.agg (encD a), .agg (encD b), .agg (encD c)] (.bool true) := by
  have hMt := c_Meet a c
  rw [hm] at hMt
  have hCk := c_dCheck b
  rw [show chkD b = 0 from chk_iff.2 hb] at hCk
  have g1 := c17 a b
  have g2 := c17 (meetE a c).1 b
  have g3 := c17 b a
  have g4 := c17 b (meetE a c).1
  have g5 := c19 a b
  have g6 := c19 (meetE a c).1 b
  rw [bef_ok ha hb] at g1
  rw [bef_ok hx hb] at g2
  rw [bef_ok hb ha] at g3
  rw [bef_ok hb hx] at g4
  rw [same_ok ha hb] at g5
  rw [same_ok hx hb] at g6
  rw [q1] at g1
  rw [q2] at g3
  rw [h3.resolve_left q3] at g6
  generalize (sameR a b).1 = n3 at *
  exact mk7 rfl ⟨_, c11, fun h => (by cases h), fun _ => ⟨_, hMt, [], _, hCk, fun h => (by cases h), fun _ => ⟨_, g1, _, g2, _, g3, _, g4, _, g5, _, g6, [(22, true), (25, true), (31, true), (34, true), (40, true), (43, false)], rfl, rfl, rfl, rfl, rfl, by simpa using q3, rfl, rfl, congrArg AV.bool (e1 n3).symm⟩⟩⟩
theorem l7_7 (a b c : Dat) (ha : okD a = true) (hb : okD b = true) (hm : (meetE a c).2 = true) (hx : okD (meetE a c).1 = true) (q1 : (befR a b).1 = 1) (q2 : (befR b a).1 = 1) (q3 : (sameR a b).1 = 1) (h1 : (befR a b).1 = 1 ∨ (befR (meetE a c).1 b).1 = (befR a b).1) (h2 : (befR b a).1 = 1 ∨ (befR b (meetE a c).1).1 = (befR b a).1) (h3 : (sameR a b).1 = 1 ∨ (sameR (meetE a c).1 b).1 = (sameR a b).1) : Fn Tryd.prog 7 [.agg (encD a), .agg (encD b), .agg (encD c)] (.bool true) := by
  have hMt := c_Meet a c
  rw [hm] at hMt
  have hCk := c_dCheck b
  rw [show chkD b = 0 from chk_iff.2 hb] at hCk
  have g1 := c17 a b
  have g2 := c17 (meetE a c).1 b
  have g3 := c17 b a
  have g4 := c17 b (meetE a c).1
  have g5 := c19 a b
  have g6 := c19 (meetE a c).1 b
  rw [bef_ok ha hb] at g1
  rw [bef_ok hx hb] at g2
  rw [bef_ok hb ha] at g3
  rw [bef_ok hb hx] at g4
  rw [same_ok ha hb] at g5
  rw [same_ok hx hb] at g6
  rw [q1] at g1
  rw [q2] at g3
  rw [q3] at g5
  exact mk7 rfl ⟨_, c11, fun h => (by cases h), fun _ => ⟨_, hMt, [], _, hCk, fun h => (by cases h), fun _ => ⟨_, g1, _, g2, _, g3, _, g4, _, g5, _, g6, [(22, true), (25, true), (31, true), (34, true), (40, true), (43, true)], rfl, rfl, rfl, rfl, rfl, rfl, rfl, rfl, rfl⟩⟩⟩
theorem l7 (a b c : Dat) : Fn Tryd.prog 7 [.agg (encD a), .agg (encD b), .agg (encD c)] (.bool true) := by
  by_cases h : (meetE a c).2 = true ∧ okD b = true
  · obtain ⟨hm, hb⟩ := h
    obtain ⟨ha, hc, e1, e2, hx⟩ := meet_ok hm
    have hlo : a.lo ≤ (meetE a c).1.lo := by rw [e1]; exact (maxI_ge _ _).1
    have hhi : (meetE a c).1.hi ≤ a.hi := by rw [e1]; exact (minI_le _ _).1
    have h1 := bef_narrow ha hb hx hlo hhi
    have h2 := same_narrow ha hb hx hlo hhi
    by_cases q1 : (befR a b).1 = 1 <;> by_cases q2 : (befR b a).1 = 1 <;> by_cases q3 : (sameR a b).1 = 1
    · exact l7_7 a b c ha hb hm hx q1 q2 q3 h1.1 h1.2 h2
    · exact l7_6 a b c ha hb hm hx q1 q2 q3 h1.1 h1.2 h2
    · exact l7_5 a b c ha hb hm hx q1 q2 q3 h1.1 h1.2 h2
    · exact l7_4 a b c ha hb hm hx q1 q2 q3 h1.1 h1.2 h2
    · exact l7_3 a b c ha hb hm hx q1 q2 q3 h1.1 h1.2 h2
    · exact l7_2 a b c ha hb hm hx q1 q2 q3 h1.1 h1.2 h2
    · exact l7_1 a b c ha hb hm hx q1 q2 q3 h1.1 h1.2 h2
    · exact l7_0 a b c ha hb hm hx q1 q2 q3 h1.1 h1.2 h2
  · refine mk7 rfl ⟨_, c11, fun h => (by cases h), fun _ => ⟨_, c_Meet a c, [], _, c_dCheck b, fun _ => ⟨rfl, rfl, rfl⟩, fun h' => ?_⟩⟩
    have h' : (!(meetE a c).2 || (chkD b != 0)) = false := h'
    rw [chk_bne] at h'
    exact absurd (by simpa using h') h
end Go.Abs.L03
