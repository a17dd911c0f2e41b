import Derived.Test.YtopkphjjodfdlaaL33b
namespace Go.Abs.L33
open Go Go.Abs Go.Proofs
set_option linter.unusedVariables false
set_option maxRecDepth 20000
theorem opens_cases (l : List Agr) (x d : Int) : (opensR l x d = (0, 1) ∧ checkE l ≠ 0) ∨ (opensR l x d = (0, 2) ∧ badO x d = true) ∨
    (checkE l = 0 ∧ badO x d = false ∧ ((opensR l x d = (0, 23) ∧ openDay l x d = 1048576) ∨ (opensR l x d = (openDay l x d, 0) ∧ openDay l x d ≠ 1048576))) := by
  unfold opensR
  split
  · rename_i h; exact .inl ⟨rfl, h⟩
  · rename_i h
    split
    · rename_i h2; exact .inr (.inl ⟨rfl, h2⟩)
    · rename_i h2
      refine .inr (.inr ⟨by simpa using h, by simpa using h2, ?_⟩)
      split
      · rename_i h3; exact .inl ⟨rfl, h3⟩
      · rename_i h3; exact .inr ⟨rfl, h3⟩
theorem grounds_pos {l : List Agr} {x k : Int} (hc : checkE l = 0) {a : Agr} (ha : a ∈ l) (h : closesB a x k = true) : 0 < (groundsE l x k).length := by
  cases hg : groundsE l x k with
  | nil => rw [(grounds_nil hc).1 hg a ha] at h; cases h
  | cons g gs => simp
theorem wrapneg {z m m' : Int} (hz : i64 z) (h1 : IntKind.i64.wrap (z + 1) = m) (h2 : IntKind.i64.wrap (0 - m) = m') : 0 ≤ maxI z m' ∧ maxI z m' ≤ 9223372036854775807 := by
  rw [IntKind.wrap_i64] at h1 h2
  unfold i64 at hz
  unfold maxI
  split <;> omega
theorem l6 (l : List Agr) (x y z : Int) (hz : i64 z) : Fn Try.prog 6 [A l, .agg [I x, I y, I z]] (.bool true) := by
  refine mk6 rfl ⟨_, c10, fun h => (by cases h), fun _ => ⟨_, c11 l, fun h => ⟨rfl, rfl, rfl⟩, fun h => ?_⟩⟩
  have hlen : l.length ≤ 20 := by simp at h; omega
  have h19 := c19 l x y
  rcases opens_cases l x y with ⟨e, _⟩ | ⟨e, _⟩ | ⟨hc, hb, hd⟩
  · rw [e] at h19
    exact ⟨_, c15 l (by omega), _, fnA h19, [], fun h => ⟨rfl, rfl, rfl⟩, fun h => (by cases h)⟩
  · rw [e] at h19
    exact ⟨_, c15 l (by omega), _, fnA h19, [], fun h => ⟨rfl, rfl, rfl⟩, fun h => (by cases h)⟩
  · have hy : 0 ≤ y ∧ y ≤ 1048575 := by simp [badO] at hb; omega
    have hO := openDay_spec l x y
    have hle := openDay_le l x (d := y) (by omega)
    have hq := wrapneg hz rfl rfl
    generalize hqe : maxI z (IntKind.i64.wrap (0 - IntKind.i64.wrap (z + 1))) = q at hq
    have tail : ∀ r, IsOpen l x y r → r ≤ 1048576 → y ≠ r → 0 ≤ q.tmod (r - y) ∧ q.tmod (r - y) < r - y ∧ 0 < (groundsE l x (y + q.tmod (r - y))).length ∧ 0 < (groundsE l x (r - 1)).length := by
      intro r hO hr hne
      have h1 := hO.le
      have h2 : 0 ≤ q.tmod (r - y) := Int.tmod_nonneg _ hq.1
      have h3 : q.tmod (r - y) < r - y := Int.tmod_lt_of_pos _ (by omega)
      obtain ⟨a, ha, hca⟩ := hO.cl (y + q.tmod (r - y)) (by omega) (by omega)
      obtain ⟨b, hb, hcb⟩ := hO.cl (r - 1) (by omega) (by omega)
      exact ⟨h2, h3, grounds_pos hc ha hca, grounds_pos hc hb hcb⟩
    rcases hd with ⟨e, hr⟩ | ⟨e, hr⟩
    · rw [e] at h19
      rw [hr] at hO
      refine ⟨_, c15 l (by omega), _, fnA h19, [], fun h => (by cases h), fun _ => ⟨fun _ => ⟨fun h => ?_, fun h => ?_⟩, fun h => (by cases h)⟩⟩
      · exact ⟨rfl, rfl, rfl⟩
      · obtain ⟨t1, t2, t3, t4⟩ := tail 1048576 hO (by omega) (by omega)
        refine ⟨_, rfl, _, rfl, _, wrap64 (by omega) (by omega), by omega, _, wrap64 (by rw [hqe]; omega) (by rw [hqe]; omega), ?_⟩
        rw [hqe]
        refine ⟨[(7, true)], _, c15 l (by omega), _, fnA (c22 l x _), by simpa using t3, _, c15 l (by omega), _, wrap64 (by omega) (by omega), _, fnA (c22 l x _), rfl, rfl, ?_⟩
        show AV.bool true = AV.bool (true && decide (((groundsE l x (1048576 - 1)).length : Int) > 0))
        rw [decide_eq_true (by omega)]; rfl
    · simp only [e] at h19
      have hg := (grounds_nil hc).2 hO.op
      have h22 := c22 l x (openDay l x y)
      rw [hg] at h22
      refine ⟨_, c15 l (by omega), _, fnA h19, [], fun h => (by cases h), fun _ => ⟨fun h => (by cases h), fun h => ⟨[(3, false)], ?_⟩⟩⟩
      have hle0 := hO.le
      refine ⟨by simpa using hle0, _, c15 l (by omega), _, fnA h22, fun h => (by cases h), fun h => ⟨fun h => ⟨rfl, rfl, rfl⟩, fun h => ?_⟩⟩
      have hne : y ≠ openDay l x y := by simp at h; omega
      obtain ⟨t1, t2, t3, t4⟩ := tail _ hO hle hne
      refine ⟨_, rfl, _, rfl, _, wrap64 (by omega) (by omega), by omega, _, wrap64 (by rw [hqe]; omega) (by rw [hqe]; omega), ?_⟩
      rw [hqe]
      refine ⟨[(7, true)], _, c15 l (by omega), _, fnA (c22 l x _), by simpa using t3, _, c15 l (by omega), _, wrap64 (by omega) (by omega), _, fnA (c22 l x _), rfl, rfl, ?_⟩
      show AV.bool true = AV.bool (true && decide (((groundsE l x (openDay l x y - 1)).length : Int) > 0))
      rw [decide_eq_true (by omega)]; rfl
end Go.Abs.L33
