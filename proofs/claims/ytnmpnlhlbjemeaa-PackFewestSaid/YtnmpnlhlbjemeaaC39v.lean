import Derived.Test.YtnmpnlhlbjemeaaP39c
import Derived.Test.YtnmpnlhlbjemeaaL39d
namespace Go.Abs.L39
open Go Go.Abs Go.Proofs
set_option linter.unusedVariables false
set_option maxRecDepth 20000
def bitsP (n : Nat) : List Int := (List.range (n + 1)).map fun i => ((2 ^ i : Nat) : Int)
theorem bitsP_len (n : Nat) : (bitsP n).length = n + 1 := by simp [bitsP]
theorem bitsP_at {n i : Nat} (h : i ≤ n) : (bitsP n)[i]? = some ((2 ^ i : Nat) : Int) := by
  unfold bitsP
  rw [List.getElem?_map, List.getElem?_range (by omega)]; rfl
theorem bitsP_succ (n : Nat) : bitsP (n + 1) = bitsP n ++ [((2 ^ (n + 1) : Nat) : Int)] := by
  unfold bitsP
  rw [List.range_succ, List.map_append]; rfl
theorem bitsP_row {n i : Nat} (h : i ≤ n) : ((bitsP n).map enc)[i]? = some [I ((2 ^ i : Nat) : Int)] := by
  rw [List.getElem?_map, bitsP_at h]; rfl
theorem pow60 {i : Nat} (h : i ≤ 60) : 2 ^ i ≤ 1152921504606846976 := Nat.pow_le_pow_right (by decide) h
theorem c38 (n : Nat) (hn : n ≤ 60) : Fn Try.prog 38 [I n] (fA (bitsP n)) := by
  refine mk38 rfl ⟨fun q c => ∃ i : Nat, i ≤ n ∧ q = n - i ∧ c = ⟨[(0, I n), (3, .osl 64 1 (i + 1)), (5, I n), (6, I i)], [(64, ⟨3, 1, .pure, (bitsP i).map enc⟩)]⟩, ⟨_, _, Wk.keep [0, 3, 5, 6] [64], 0, by omega, rfl, rfl⟩, ?_⟩
  rintro q c ⟨i, hi, rfl, rfl⟩
  refine ⟨fun h => ?_, fun h => ?_⟩
  · have h : i < n := by simp at h; omega
    have hp := pow60 (i := i) (by omega)
    have hp1 : 2 ^ (i + 1) = 2 * 2 ^ i := by rw [Nat.pow_succ]; omega
    refine ⟨(i : Int), wrapTo (by omega) (by omega) (by omega), ⟨by omega, by omega⟩, [I ((2 ^ i : Nat) : Int)], by rw [Int.toNat_natCast]; exact bitsP_row (Nat.le_refl _), ((2 ^ (i + 1) : Nat) : Int), ?_, ?_⟩
    · rw [hp1]
      generalize 2 ^ i = p at *
      exact wrapTo (by omega) (by omega) (by omega)
    refine ⟨⟨by show (i + 1 + 1) * 8 ≤ _; omega, by omega⟩, ((i + 1 : Nat) : Int), wrapTo (by omega) (by omega) (by omega), ?_⟩
    refine ⟨_, _, Wk.keep [0, 3, 5, 6] [64], by omega, i + 1, by omega, rfl, ?_⟩
    rw [bitsP_succ, List.map_append]
    show Cfg.mk _ [(64, (⟨3, 1, .pure, ((bitsP i).map enc).take (i + 1) ++ _⟩ : OBlk))] = _
    rw [List.take_of_length_le (by rw [List.length_map, bitsP_len]; exact Nat.le_refl _)]; rfl
  · have h : i = n := by simp at h; omega
    subst h
    exact ⟨rfl, _, rfl, rfl, by rw [List.length_map, bitsP_len], .inl ⟨rfl, by show AV.fsl true 3 1 (bitsP i).length _ = AV.fsl true 3 1 (i + 1) _; rw [bitsP_len]⟩⟩
end Go.Abs.L39
