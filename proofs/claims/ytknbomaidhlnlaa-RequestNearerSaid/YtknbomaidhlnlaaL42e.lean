import Derived.Test.YtknbomaidhlnlaaL42d
namespace Go.Abs.L42
open Go Go.Abs Go.Proofs
set_option linter.unusedVariables false
set_option maxRecDepth 20000
theorem act_len (l : List Req) (x n d : Int) : (actE l x n d).1.length ≤ l.length := by
  unfold actE
  repeat' split
  all_goals exact make_len _ _ _ _ _
theorem l8 (l : List Req) (hl : l.length ≤ 9223372036854775807) (x n d : Int) (r : Req) : Fn Try.prog 8 [A l, .agg [I x, I n, I d], .agg (encR r)] (.bool true) := by
  by_cases hlen0 : 40 < l.length
  · refine mk8 rfl ⟨_, c10, fun h => (by cases h), fun _ => ⟨[(3, true)], _, c11 l, by simp; omega, fun h => ⟨rfl, rfl, rfl⟩, fun h => ?_⟩⟩
    cases h
  · have hlen : l.length ≤ 40 := by omega
    refine mk8 rfl ⟨_, c10, fun h => (by cases h), fun _ => ⟨[(3, false)], _, c11 l, by simp; omega, _, c13 l (by omega), _, fnA (c15 l), fun h => ⟨rfl, rfl, rfl⟩, fun h => ?_⟩⟩
    have hc : checkE l = 0 := by simpa using h
    have hal := act_len l x n d
    have hpl := place_len l r (by omega)
    have hact : ∀ (j : Nat) y, l[j]? = some y → y.st = 1 → y.id ≠ n → (actE l x n d).2 = 0 → ∃ c, positionE (actE l x n d).1 y.id = (c, 0) ∧ c ≤ cnt (posP j y) 0 l := by
      intro j y hy hst hne he
      exact act_near (m := (actE l x n d).1) (by rw [← he]) hy hst hne
    have hplc : ∀ (j : Nat) y, l[j]? = some y → y.st = 1 → (placeE l r).2 = 0 → positionE (placeE l r).1 y.id = (cnt (posP j y) 0 l, 0) := by
      intro j y hy hst he
      exact place_near (m := (placeE l r).1) (by rw [← he]) hy hst
    refine ⟨_, c28 l (by omega) x n d, _, c13 l (by omega), true, _, c12 l r, true, ?_⟩
    generalize hm : (actE l x n d).1 = m at hal hact ⊢
    generalize he : (actE l x n d).2 = e at hact ⊢
    generalize hn' : (placeE l r).1 = q at hpl hplc ⊢
    generalize hf : (placeE l r).2 = f at hplc ⊢
    refine ⟨fun k c => ∃ i : Nat, i ≤ l.length ∧ k = l.length - i ∧ c = ⟨[(0, A l), (4, .ovar 64 0), (6, .bool false), (7, .osl 528 7 m.length), (8, I e), (9, A q), (10, I f), (43, A l), (44, I l.length), (45, I i)], [(64, ⟨47, 3, .any, [[I x, I n, I d]]⟩), (528, ⟨24, 7, .pure, m.map encR⟩)]⟩, ⟨_, _, Wk.keep [0, 4, 6, 7, 8, 9, 10, 43, 44, 45] [64, 528], 0, by omega, rfl, rfl⟩, ?_⟩
    rintro k c ⟨i, hi, rfl, rfl⟩
    refine ⟨fun h => ?_, fun h => ⟨rfl, rfl, rfl⟩⟩
    simp at h
    obtain ⟨y, hy, _, _⟩ := drop_cons (l := l) (i := i) (by omega)
    refine ⟨⟨by omega, by omega⟩, encR y, get_map hy, [], fun hs => ?_, fun hs => ?_⟩
    · refine ⟨_, wrap64 (by omega) (by omega), ?_⟩
      exact ⟨_, _, Wk.keep [0, 4, 6, 7, 8, 9, 10, 43, 44, 45] [64, 528], by omega, i + 1, by omega, rfl, rfl⟩
    · have hs : ((y.st != 1) || (y.id == n)) = false := hs
      have hst : y.st = 1 ∧ y.id ≠ n := by simpa using hs
      have h18 := c18 l y.id
      rw [position_of hc hy hst.1] at h18
      refine ⟨_, c13 l (by omega), true, _, h18, fun h => (by cases h), fun _ => ?_⟩
      refine ⟨_, fnA (c13 m (by omega)), true, _, c18 m y.id, [], fun hq => ?_, fun _ => ?_⟩
      · exfalso
        have hq : ((e == 0) && (((positionE m y.id).2 != 0) || decide ((positionE m y.id).1 > cnt (posP i y) 0 l))) = true := hq
        simp only [Bool.and_eq_true, beq_iff_eq] at hq
        obtain ⟨c, h1, h2⟩ := hact i y hy hst.1 hst.2 hq.1
        rw [h1] at hq
        simp at hq
        omega
      · refine ⟨_, c13 q (by omega), true, _, c18 q y.id, [], fun hq => ?_, fun _ => ?_⟩
        · exfalso
          have hq : ((f == 0) && (((positionE q y.id).2 != 0) || ((positionE q y.id).1 != cnt (posP i y) 0 l))) = true := hq
          simp only [Bool.and_eq_true, beq_iff_eq] at hq
          rw [hplc i y hy hst.1 hq.1] at hq
          simp at hq
        · refine ⟨_, wrap64 (by omega) (by omega), ?_⟩
          exact ⟨_, _, Wk.keep [0, 4, 6, 7, 8, 9, 10, 43, 44, 45] [64, 528], by omega, i + 1, by omega, rfl, rfl⟩
end Go.Abs.L42
