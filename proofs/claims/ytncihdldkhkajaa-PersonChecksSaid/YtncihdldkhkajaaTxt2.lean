import Derived.Test.YtncihdldkhkajaaTxt
import Derived.Lib.IndexMore
import Derived.Shelf.GgClosure.StringsIndexFunc
namespace Go.Abs.Day
open Go Go.Abs
set_option linter.unusedVariables false
/-! ### names -/
def plainB (b : UInt8) : Bool := !(decide ((b.toNat : Int) < 32) || decide ((b.toNat : Int) > 126))
def dbl : List UInt8 → Bool
  | a :: b :: r => (a == 32 && b == 32) || dbl (b :: r)
  | _ => false
theorem contains_dbl : ∀ l : List UInt8, Lib.contains l [32, 32] = dbl l
  | [] => rfl
  | [a] => by
    simp [Lib.contains, Lib.index, dbl, List.isPrefixOf]
  | a :: b :: r => by
    have ih := contains_dbl (b :: r)
    have hge := Lib.index_ge (b :: r) [32, 32]
    unfold Lib.contains at ih ⊢
    rw [Lib.index]
    by_cases hp : (a == 32 && b == 32) = true
    · have : List.isPrefixOf [32, 32] (a :: b :: r) = true := by
        simp at hp; simp [List.isPrefixOf, hp]
      rw [if_pos this]; simp [dbl, hp]
    · have : ¬ List.isPrefixOf [32, 32] (a :: b :: r) = true := by
        simp at hp; simp [List.isPrefixOf]
        intro h1 h2; exact hp h1.symm h2.symm
      rw [if_neg this, dbl]
      rw [Bool.not_eq_true] at hp
      rw [hp, Bool.false_or, ← ih]
      by_cases h1 : Lib.index (b :: r) [32, 32] = -1
      · rw [h1]; rfl
      · rw [if_neg (by simpa using h1)]
        rw [Bool.eq_iff_iff]; simp; omega
def outP (x : Nat) : Bool := decide ((x : Int) < 32) || decide ((x : Int) > 126)
theorem decode_big {n b0 b1 b2 b3 : Nat} (h : 128 ≤ b0) : 128 ≤ (Lib.decodeN n b0 b1 b2 b3).1 := by
  unfold Lib.decodeN
  rw [if_neg (by omega)]
  repeat' split
  all_goals (dsimp only; omega)
theorem decode_small {n b0 b1 b2 b3 : Nat} (h : b0 < 128) : Lib.decodeN n b0 b1 b2 b3 = (b0, 1) := by
  unfold Lib.decodeN; rw [if_pos h]
theorem idxFunc_out (l : List UInt8) : ∀ (f pos : Nat), l.length ≤ f + pos → decide (0 ≤ Lib.idxFuncFrom outP true (bs l) f pos) = !((l.drop pos).all plainB)
  | 0, pos, h => by
    rw [List.drop_of_length_le (by omega)]; rfl
  | f + 1, pos, h => by
    unfold Lib.idxFuncFrom
    by_cases hp : pos < (bs l).size
    · rw [if_pos hp]
      have hp' : pos < l.length := hp
      have hd : l.drop pos = l[pos] :: l.drop (pos + 1) := List.drop_eq_getElem_cons hp'
      have hg : ((bs l).get! pos) = l[pos] := by
        simp [ByteArray.get!, hp']
      rw [Lib.decode_at, hg, hd, List.all_cons]
      by_cases hb : l[pos].toNat < 128
      · rw [decode_small hb]
        dsimp only
        by_cases ho : outP l[pos].toNat = true
        · rw [if_pos ho]
          have : plainB l[pos] = false := by unfold plainB; unfold outP at ho; rw [ho]; rfl
          rw [this]; simp
        · rw [if_neg ho]
          have : plainB l[pos] = true := by unfold plainB; unfold outP at ho; rw [Bool.not_eq_true] at ho; rw [ho]; rfl
          rw [this, Bool.true_and]
          exact idxFunc_out l f (pos + 1) (by omega)
      · have hbig := decode_big (n := (bs l).size - pos) (b0 := l[pos].toNat) (b1 := ((bs l).get! (pos + 1)).toNat) (b2 := ((bs l).get! (pos + 2)).toNat) (b3 := ((bs l).get! (pos + 3)).toNat) (by omega)
        have ho : outP (Lib.decodeN ((bs l).size - pos) l[pos].toNat ((bs l).get! (pos + 1)).toNat ((bs l).get! (pos + 2)).toNat ((bs l).get! (pos + 3)).toNat).1 = true := by
          unfold outP; simp; omega
        rw [if_pos ho]
        have : plainB l[pos] = false := by unfold plainB; simp; omega
        rw [this]; simp
    · rw [if_neg hp]
      have hp' : l.length ≤ pos := by rw [bs_size] at hp; omega
      rw [List.drop_of_length_le hp']; rfl
/-- the scan of the reference: a byte is not plain, or a blank behind a blank -/
def scanB (p : Option UInt8) : List UInt8 → Bool
  | [] => false
  | b :: r => !plainB b || (b == 32 && p == some 32) || scanB (some b) r
theorem scan_eq : ∀ (l : List UInt8) (p : Option UInt8), scanB p l = (!(l.all plainB) || dbl (p.toList ++ l))
  | [], none => rfl
  | [], some a => rfl
  | b :: r, none => by
    rw [scanB, scan_eq r (some b), List.all_cons]
    simp [dbl, Bool.or_assoc]
  | b :: r, some a => by
    rw [scanB, scan_eq r (some b), List.all_cons]
    cases plainB b <;> cases h : (a == 32) <;> cases h' : (b == 32) <;> simp [dbl, h, h'] <;> simp_all
def nameB (l : List UInt8) : Bool := decide (1 ≤ l.length) && decide (l.length ≤ 64) && !(l[0]? == some 32) && !(l[l.length - 1]? == some 32) && !dbl l && l.all plainB
end Go.Abs.Day
