import Derived.Test.YtnmpnlhlbjemeaaC39p
namespace Go.Abs.L39
open Go Go.Abs Go.Proofs
set_option linter.unusedVariables false
set_option maxRecDepth 20000
/-! ### bits -/
theorem ofInt64 (a : Nat) (ha : a < 18446744073709551616) : (BitVec.ofInt 64 (a : Int)).toNat = a := by
  rw [BitVec.ofInt_natCast, BitVec.toNat_ofNat]; exact Nat.mod_eq_of_lt (by omega)
theorem and_one (a : Nat) (ha : a < 9223372036854775808) : bits .and .i64 (a : Int) 1 = ((a % 2 : Nat) : Int) := by
  show IntKind.i64.wrap ((BitVec.ofInt 64 (a : Int) &&& BitVec.ofInt 64 ((1 : Nat) : Int)).toNat : Int) = _
  rw [BitVec.toNat_and, ofInt64 a (by omega), ofInt64 1 (by omega), Nat.and_one_is_mod]
  exact wrap64 (by omega) (by omega)
theorem bv_sub_bit (x : BitVec 64) (i : Nat) (h : x.getLsbD i = true) : x &&& ~~~(BitVec.twoPow 64 i) = x - BitVec.twoPow 64 i := by
  have h1 : (x &&& ~~~(BitVec.twoPow 64 i)) + BitVec.twoPow 64 i = x := by
    rw [BitVec.add_eq_or_of_and_eq_zero]
    · apply BitVec.eq_of_getLsbD_eq
      intro j hj
      rw [BitVec.getLsbD_or, BitVec.getLsbD_and, BitVec.getLsbD_not, BitVec.getLsbD_twoPow]
      by_cases e : i = j
      · subst e; rw [h]; simp [hj]
      · simp [hj, e]
    · apply BitVec.eq_of_getLsbD_eq
      intro j hj
      rw [BitVec.getLsbD_and, BitVec.getLsbD_and, BitVec.getLsbD_not, BitVec.getLsbD_twoPow]
      by_cases e : i = j
      · subst e; simp [hj]
      · simp [hj, e]
  calc x &&& ~~~(BitVec.twoPow 64 i) = (x &&& ~~~(BitVec.twoPow 64 i)) + BitVec.twoPow 64 i - BitVec.twoPow 64 i := by rw [BitVec.add_sub_cancel]
    _ = x - BitVec.twoPow 64 i := by rw [h1]
theorem andNot_bit (k i : Nat) (hk : k < 9223372036854775808) (hi : i < 63) (h : k / 2 ^ i % 2 = 1) : bits .andNot .i64 (k : Int) ((2 ^ i : Nat) : Int) = ((k - 2 ^ i : Nat) : Int) := by
  have hle : 2 ^ i ≤ k := by
    rcases Nat.lt_or_ge k (2 ^ i) with hlt | hge
    · rw [Nat.div_eq_of_lt hlt] at h; cases h
    · exact hge
  show IntKind.i64.wrap ((BitVec.ofInt 64 (k : Int) &&& ~~~ BitVec.ofInt 64 ((2 ^ i : Nat) : Int)).toNat : Int) = _
  have e1 : BitVec.ofInt 64 ((2 ^ i : Nat) : Int) = BitVec.twoPow 64 i := by
    apply BitVec.eq_of_toNat_eq
    have hp : 2 ^ i < 2 ^ 64 := Nat.pow_lt_pow_right (by decide) (by omega)
    rw [ofInt64 _ (by omega), BitVec.toNat_twoPow]
    exact (Nat.mod_eq_of_lt hp).symm
  have e2 : (BitVec.ofInt 64 (k : Int)).getLsbD i = true := by
    rw [BitVec.getLsbD, ofInt64 k (by omega), Nat.testBit_eq_decide_div_mod_eq]
    simp [h]
  rw [e1, bv_sub_bit _ _ e2, BitVec.toNat_sub, ofInt64 k (by omega), BitVec.toNat_twoPow, Nat.mod_eq_of_lt (show 2 ^ i < 2 ^ 64 from Nat.pow_lt_pow_right (by decide) (by omega))]
  have hp : 2 ^ i < 2 ^ 63 := Nat.pow_lt_pow_right (by decide) hi
  generalize 2 ^ i = p at *
  have : (2 ^ 64 - p + k) % 2 ^ 64 = k - p := by omega
  rw [this]
  exact wrap64 (by omega) (by omega)
end Go.Abs.L39
