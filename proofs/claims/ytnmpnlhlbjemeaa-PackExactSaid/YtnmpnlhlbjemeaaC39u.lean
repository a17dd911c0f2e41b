import Derived.Test.YtnmpnlhlbjemeaaC39t
namespace Go.Abs.L39
open Go Go.Abs Go.Proofs
set_option linter.unusedVariables false
set_option maxRecDepth 20000
theorem c17 (S T : List (List Int)) (hS : S.length ≤ 9223372036854775807) (hT : ∀ t ∈ S, t.length ≤ 9223372036854775807) : Fn Try.prog 17 [AA S, AA T] (.bool (S == T)) := by
  refine mk17 rfl ⟨fun h => ?_, fun h => ?_⟩
  · have h : S.length ≠ T.length := by simp at h; omega
    have : (S == T) = false := by simp; rintro rfl; exact h rfl
    rw [this]; exact ⟨rfl, rfl, rfl⟩
  · have h : S.length = T.length := by simp at h; omega
    refine ⟨fun q c => ∃ i : Nat, i ≤ S.length ∧ q = S.length - i ∧ (S.drop i == T.drop i) = (S == T) ∧
      c = ⟨[(0, AA S), (1, AA T), (13, I S.length), (14, I i)], []⟩, ⟨_, _, Wk.keep [0, 1, 13, 14] [], 0, by omega, rfl, by simp, rfl⟩, ?_⟩
    rintro q c ⟨i, hi, rfl, hI, rfl⟩
    refine ⟨fun h5 => ?_, fun h5 => ?_⟩
    · simp at h5
      obtain ⟨x, hx, hd, _⟩ := drop_cons h5
      obtain ⟨y, hy, hd', _⟩ := drop_cons (l := T) (i := i) (by omega)
      have hI' : ((x == y) && (S.drop (i + 1) == T.drop (i + 1))) = (S == T) := by rw [← hI, hd, hd']; rfl
      have hxl := hT x (List.mem_of_getElem? hx)
      refine ⟨⟨by omega, by omega⟩, encT x, get_map hx, ⟨by omega, by omega⟩, encT y, get_map hy, fun hz => ?_, fun hz => ?_⟩
      · have hz : x.length ≠ y.length := by simp at hz; omega
        have : (x == y) = false := by simp; rintro rfl; exact hz rfl
        rw [this] at hI'
        rw [← hI']; exact ⟨rfl, rfl, rfl⟩
      · have hz : x.length = y.length := by simp at hz; omega
        refine ⟨⟨by omega, by omega⟩, encT x, get_map hx, ?_⟩
        refine ⟨fun q c => ∃ j : Nat, j ≤ x.length ∧ q = x.length - j ∧ (x.drop j == y.drop j) = (x == y) ∧
          c = ⟨[(0, AA S), (1, AA T), (5, I i), (13, I S.length), (14, I i), (32, I x.length), (33, I j)], []⟩, ⟨_, _, Wk.keep [0, 1, 5, 13, 14, 32, 33] [], 0, by omega, rfl, by simp, rfl⟩, ?_⟩
        rintro q c ⟨j, hj, rfl, hJ, rfl⟩
        refine ⟨fun h6 => ?_, fun h6 => ?_⟩
        · simp at h6
          obtain ⟨n, hn, hd1, _⟩ := drop_cons h6
          obtain ⟨n', hn', hd1', _⟩ := drop_cons (l := y) (i := j) (by omega)
          rw [beq_drop hn hn' hd1 hd1'] at hJ
          refine ⟨⟨by omega, by omega⟩, encT x, get_map hx, ⟨by omega, by omega⟩, enc n, get_map hn, ⟨by omega, by omega⟩, encT y, get_map hy, ⟨by omega, by omega⟩, enc n', get_map hn', fun hz => ?_, fun hz => ?_⟩
          · have hz : (n == n') = false := by
              have : ((n != n')) = true := hz
              simpa [bne] using this
            rw [hz] at hJ
            rw [← hJ] at hI'
            rw [← hI']; exact ⟨rfl, rfl, rfl⟩
          · have hz : (n == n') = true := by
              have : ((n != n')) = false := hz
              simpa [bne] using this
            rw [hz, Bool.true_and] at hJ
            refine ⟨_, wrap64 (by omega) (by omega), ?_⟩
            exact ⟨_, _, Wk.keep [0, 1, 5, 13, 14, 32, 33] [], by omega, j + 1, by omega, rfl, hJ, rfl⟩
        · simp at h6
          have hjl : j = x.length := by omega
          subst hjl
          have : (x == y) = true := by rw [← hJ, List.drop_length, hz, List.drop_length]; rfl
          rw [this, Bool.true_and] at hI'
          refine ⟨_, wrap64 (by omega) (by omega), ?_⟩
          exact ⟨_, _, Wk.keep [0, 1, 13, 14] [], by omega, i + 1, by omega, rfl, hI', rfl⟩
    · simp at h5
      have hil : i = S.length := by omega
      subst hil
      have : (S == T) = true := by rw [← hI, List.drop_length, h, List.drop_length]; rfl
      rw [this]; exact ⟨rfl, rfl, rfl⟩
end Go.Abs.L39
