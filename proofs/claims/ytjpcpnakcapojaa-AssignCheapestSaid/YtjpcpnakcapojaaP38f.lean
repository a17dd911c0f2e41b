import Derived.Test.YtjpcpnakcapojaaC38aa
import Derived.Test.YtjpcpnakcapojaaP38e
namespace Go.Abs.L38
open Go Go.Abs Go.Proofs Go.Abs.Hung
set_option linter.unusedVariables false
set_option maxRecDepth 20000
/-! ### how many bits -/
def chkN (n : Nat) : Bool := Nat.beq (onesN (2 * n)) (onesN n) && Nat.beq (onesN (2 * n + 1)) (onesN n + 1)
def blkN (b : Nat) : Nat → Bool
  | 0 => true
  | q + 1 => chkN (b * 256 + q) && blkN b q
def blksN : Nat → Bool
  | 0 => true
  | q + 1 => blkN q 256 && blksN q
theorem ones_all : blksN 128 = true := by decide +kernel
theorem blkN_get {b : Nat} : ∀ {q j : Nat}, blkN b q = true → j < q → chkN (b * 256 + j) = true
  | q + 1, j, h, hj => by
    rw [blkN, Bool.and_eq_true] at h
    rcases Nat.lt_or_ge j q with h1 | h1
    · exact blkN_get h.2 h1
    · rw [show j = q by omega]; exact h.1
theorem blksN_get : ∀ {q b : Nat}, blksN q = true → b < q → blkN b 256 = true
  | q + 1, b, h, hb => by
    rw [blksN, Bool.and_eq_true] at h
    rcases Nat.lt_or_ge b q with h1 | h1
    · exact blksN_get h.2 h1
    · rw [show b = q by omega]; exact h.1
theorem ones_step {n : Nat} (h : n < 32768) : onesN (2 * n) = onesN n ∧ onesN (2 * n + 1) = onesN n + 1 := by
  have := blkN_get (blksN_get ones_all (b := n / 256) (by omega)) (j := n % 256) (by omega)
  rw [show n / 256 * 256 + n % 256 = n by omega, chkN, Bool.and_eq_true] at this
  exact ⟨Nat.eq_of_beq_eq_true this.1, Nat.eq_of_beq_eq_true this.2⟩
def bitsL (q x : Nat) : List Nat := (List.range q).filter fun i => x.testBit i
theorem ones_bits : ∀ (q x : Nat), q ≤ 16 → x < 2 ^ q → onesN x = (bitsL q x).length
  | 0, x, _, h => by
    have : x = 0 := by simpa using h
    subst this
    decide +kernel
  | q + 1, x, hq, h => by
    have hp : 2 ^ (q + 1) = 2 * 2 ^ q := by rw [Nat.pow_succ]; omega
    have hp2 := Nat.pow_le_pow_right (n := 2) (by omega) (show q ≤ 15 by omega)
    have ih := ones_bits q (x / 2) (by omega) (by omega)
    have e : bitsL (q + 1) x = (if x.testBit 0 then [0] else []) ++ (bitsL q (x / 2)).map (· + 1) := by
      rw [bitsL, List.range_succ_eq_map, List.filter_cons]
      have e2 : List.filter (fun i => x.testBit i) (List.map Nat.succ (List.range q)) = (bitsL q (x / 2)).map (· + 1) := by
        rw [List.filter_map, bitsL]
        congr 1
        refine List.filter_congr fun i _ => ?_
        simp only [Function.comp, Nat.succ_eq_add_one]
        rw [Nat.testBit_succ]
      rw [e2]
      split <;> simp
    rw [e, List.length_append, List.length_map, ← ih]
    have hs := ones_step (n := x / 2) (by omega)
    have hb : x.testBit 0 = decide (x % 2 = 1) := by simp [Nat.testBit_zero]
    by_cases hx : x % 2 = 1
    · rw [hb, show decide (x % 2 = 1) = true by simpa using hx, if_pos rfl]
      have := hs.2
      rw [show 2 * (x / 2) + 1 = x by omega] at this
      rw [this]; simp; omega
    · rw [hb, show decide (x % 2 = 1) = false by simpa using hx]
      have := hs.1
      rw [show 2 * (x / 2) = x by omega] at this
      rw [this]; simp
theorem nodup_sub : ∀ {l m : List Nat}, l.Nodup → (∀ x ∈ l, x ∈ m) → l.length ≤ m.length
  | [], m, _, _ => by simp
  | a :: l, m, hn, h => by
    rw [List.nodup_cons] at hn
    have ha := h a (by simp)
    have := nodup_sub (l := l) (m := m.erase a) hn.2 fun x hx => by
      refine (List.mem_erase_of_ne (fun e => hn.1 (by rw [← e]; exact hx))).2 (h x (by simp [hx]))
    rw [List.length_erase_of_mem ha] at this
    have : 1 ≤ m.length := List.length_pos_of_mem ha
    rw [List.length_cons]; omega
/-- distinct bits of x are no more than x has -/
theorem ones_ge {x : Nat} (hx : x < 65536) {l : List Nat} (hn : l.Nodup) (h : ∀ i ∈ l, x.testBit i = true) : l.length ≤ onesN x := by
  rw [ones_bits 16 x (Nat.le_refl _) hx]
  refine nodup_sub hn fun i hi => ?_
  rw [bitsL, List.mem_filter, List.mem_range]
  refine ⟨?_, h i hi⟩
  rcases Nat.lt_or_ge i 16 with h1 | h1
  · exact h1
  · have := Nat.testBit_lt_two_pow (x := x) (i := i) (Nat.lt_of_lt_of_le hx (by have := Nat.pow_le_pow_right (n := 2) (by omega) h1; omega))
    rw [h i hi] at this; cases this
end Go.Abs.L38
