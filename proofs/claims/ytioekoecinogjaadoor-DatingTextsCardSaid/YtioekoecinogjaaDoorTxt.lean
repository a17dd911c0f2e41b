import Derived.Test.YtioekoecinogjaaDoorDay
import Derived.Lib.ItoaNum
namespace Go.Abs.Day
open Go Go.Abs
set_option linter.unusedVariables false
/-! ### texts -/
abbrev bs (l : List UInt8) : ByteArray := ⟨l.toArray⟩
theorem bs_data (s : ByteArray) : bs s.data.toList = s := by cases s; simp
theorem bs_app (a b : List UInt8) : bs a ++ bs b = bs (a ++ b) := by
  apply ByteArray.ext
  simp [ByteArray.data_append]
theorem bs_size (l : List UInt8) : (bs l).size = l.length := rfl
theorem bs_ext (l : List UInt8) (a b : Nat) : (bs l).extract a b = bs ((l.take b).drop a) := by
  apply ByteArray.ext
  simp [ByteArray.data_extract, List.drop_take]
theorem toList_eq (s : ByteArray) : s.toList = s.data.toList := by rw [ByteArray.toList_eq]
theorem bs_toList (l : List UInt8) : (bs l).toList = l := by rw [toList_eq]
theorem bs_eq (a b : List UInt8) : ((bs a).toList == (bs b).toList) = decide (a = b) := by
  rw [bs_toList, bs_toList, Bool.eq_iff_iff]; simp
theorem bs_get {l : List UInt8} {i : Nat} {b : UInt8} (h : l[i]? = some b) : ∃ h : i < (bs l).size, (bs l)[i]'h = b := by
  obtain ⟨h1, h2⟩ := List.getElem?_eq_some_iff.1 h
  exact ⟨h1, by rw [← h2]; rfl⟩
/-- a digit -/
def dig (k : Int) : UInt8 := UInt8.ofNat (48 + k.toNat)
theorem dig_nat {k : Int} (h0 : 0 ≤ k) (h : k < 10) : ((dig k).toNat : Int) = 48 + k := by
  unfold dig
  rw [UInt8.toNat_ofNat']
  omega
/-- the last k digits of n -/
def low : Nat → Int → List UInt8
  | 0, _ => []
  | k + 1, n => dig (n / 10 ^ k % 10) :: low k n
theorem low_len : ∀ (k : Nat) (n : Int), (low k n).length = k
  | 0, _ => rfl
  | k + 1, n => by simp [low, low_len k n]
theorem low_zero {k : Nat} {n : Int} (h0 : 0 ≤ n) (h : n < 10 ^ k) : low (k + 1) n = 48 :: low k n := by
  rw [low, Int.ediv_eq_zero_of_lt h0 h]; rfl
theorem pow_up (a i : Nat) : (10 : Int) ^ a ≤ 10 ^ (a + i) := by
  induction i with
  | zero => exact Int.le_refl _
  | succ i ih =>
    rw [← Nat.add_assoc, Int.pow_succ]
    have : (0 : Int) < 10 ^ (a + i) := Int.pow_pos (by omega)
    omega
theorem bs_zero (l : List UInt8) : bs (48 :: l) = (⟨#[48]⟩ : ByteArray) ++ bs l := (bs_app [48] l).symm
theorem low_dec (n : Nat) : ∀ k, low k n = (List.range k).map fun t => Lib.dg n (k - 1 - t)
  | 0 => rfl
  | k + 1 => by
    rw [low, low_dec n k, List.range_succ_eq_map, List.map_cons, List.map_map]
    refine congr (congrArg List.cons ?_) ?_
    · unfold dig Lib.dg
      have : ((n : Int) / 10 ^ k % 10).toNat = n / 10 ^ k % 10 := by
        rw [show ((n : Int) / 10 ^ k % 10) = ((n / 10 ^ k % 10 : Nat) : Int) by simp]; rfl
      rw [this]; simp
    · apply List.map_congr_left
      intro t ht
      simp only [Function.comp]
      congr 1
      omega
theorem itoa_low {n : Int} (h0 : 0 ≤ n) : Lib.itoa n = low (Lib.nDigits n.toNat) n := by
  unfold Lib.itoa
  rw [if_neg (by omega), Lib.decDigits_eq, ← low_dec, show ((n.toNat : Nat) : Int) = n by omega]
theorem pow_nDigits {n : Int} (h0 : 0 ≤ n) : n < 10 ^ Lib.nDigits n.toNat := by
  have := Lib.lt_pow_nDigits n.toNat
  have h2 : ((n.toNat : Nat) : Int) < ((10 ^ Lib.nDigits n.toNat : Nat) : Int) := by exact_mod_cast this
  rw [show ((n.toNat : Nat) : Int) = n by omega] at h2
  simpa using h2
theorem nDigits_le {n : Int} {k : Nat} (h0 : 0 ≤ n) (hk : 1 ≤ k) (h : n < 10 ^ k) : Lib.nDigits n.toNat ≤ k := by
  have hn : n.toNat < 10 ^ k := by
    have : ((n.toNat : Nat) : Int) < ((10 ^ k : Nat) : Int) := by rw [show ((n.toNat : Nat) : Int) = n by omega]; simpa using h
    exact_mod_cast this
  clear h h0
  generalize n.toNat = u at hn
  induction k generalizing u with
  | zero => omega
  | succ k ih =>
    by_cases h : u < 10
    · rw [Lib.nDigits_small h]; omega
    · rw [Lib.nDigits_big h]
      rw [Nat.pow_succ] at hn
      have hk : 1 ≤ k := by
        cases k with
        | zero => simp at hn; omega
        | succ k => omega
      have := ih hk (u / 10) (by omega)
      omega
/-! ### reading digits -/
def isDig (b : UInt8) : Bool := !(decide ((b.toNat : Int) < 48) || decide ((b.toNat : Int) > 57))
def numL : List UInt8 → Int → Int
  | [], a => a
  | b :: r, a => numL r (10 * a + ((b.toNat : Int) - 48))
def allDig : List UInt8 → Bool
  | [] => true
  | b :: r => isDig b && allDig r
theorem numL_range : ∀ (l : List UInt8) (a : Int), allDig l = true → 0 ≤ a → 0 ≤ numL l a ∧ numL l a < (a + 1) * 10 ^ l.length
  | [], a, _, h => by simp [numL]; omega
  | b :: r, a, h, h0 => by
    simp only [allDig, Bool.and_eq_true] at h
    have hb := h.1
    simp [isDig] at hb
    obtain ⟨i1, i2⟩ := numL_range r (10 * a + ((b.toNat : Int) - 48)) h.2 (by omega)
    refine ⟨by rw [numL]; exact i1, ?_⟩
    rw [numL]
    refine Int.lt_of_lt_of_le i2 ?_
    rw [List.length_cons, Int.pow_succ, Int.mul_comm (10 ^ r.length) 10, ← Int.mul_assoc]
    refine Int.mul_le_mul_of_nonneg_right (by omega) ?_
    exact Int.le_of_lt (Int.pow_pos (by omega))
theorem idx_ok {l : List UInt8} {i : Nat} {b : UInt8} (h : l[i]? = some b) : 0 ≤ (i : Int) ∧ ∃ h : (i : Int).toNat < (bs l).size, ((b.toNat : Nat) : Int) = ((((bs l)[(i : Int).toNat]'h).toNat : Nat) : Int) := by
  obtain ⟨h1, h2⟩ := bs_get h
  exact ⟨by omega, h1, by rw [← h2]; rfl⟩
theorem wrap8 {x : Int} (h1 : 0 ≤ x) (h2 : x ≤ 255) : IntKind.u8.wrap x = x := by rw [IntKind.wrap_u8]; omega
theorem byte_lt (b : UInt8) : (b.toNat : Int) < 256 := by have := b.toNat_lt; omega
def digS : ByteArray := ⟨#[48, 49, 50, 51, 52, 53, 54, 55, 56, 57]⟩
theorem digS_at {d : Int} (h0 : 0 ≤ d) (h : d < 10) : digS.extract d.toNat (d + 1).toNat = bs [dig d] := by
  have : d = 0 ∨ d = 1 ∨ d = 2 ∨ d = 3 ∨ d = 4 ∨ d = 5 ∨ d = 6 ∨ d = 7 ∨ d = 8 ∨ d = 9 := by omega
  rw [show digS = bs [48, 49, 50, 51, 52, 53, 54, 55, 56, 57] from rfl, bs_ext]
  rcases this with rfl | rfl | rfl | rfl | rfl | rfl | rfl | rfl | rfl | rfl <;> rfl
theorem bs_dig (d : Int) (l : List UInt8) : bs (dig d :: l) = bs [dig d] ++ bs l := (bs_app [dig d] l).symm
theorem div_step (n : Int) (i : Nat) : n / 10 ^ i / 10 = n / 10 ^ (i + 1) := by
  have : (0 : Int) < 10 ^ i := Int.pow_pos (by omega)
  rw [Int.pow_succ, Int.ediv_ediv, if_neg (by omega)]; simp
theorem numL_lo : ∀ (l : List UInt8) (a : Int), allDig l = true → 0 ≤ a → a * 10 ^ l.length ≤ numL l a
  | [], a, _, h => by simp [numL]
  | b :: r, a, h, h0 => by
    simp only [allDig, Bool.and_eq_true] at h
    have hb := h.1
    simp [isDig] at hb
    have i1 := numL_lo r (10 * a + ((b.toNat : Int) - 48)) h.2 (by omega)
    rw [numL]
    refine Int.le_trans ?_ i1
    rw [List.length_cons, Int.pow_succ, Int.mul_comm (10 ^ r.length) 10, ← Int.mul_assoc]
    refine Int.mul_le_mul_of_nonneg_right (by omega) ?_
    exact Int.le_of_lt (Int.pow_pos (by omega))
theorem dig_of {b : UInt8} (h : isDig b = true) : dig ((b.toNat : Int) - 48) = b := by
  simp [isDig] at h
  apply UInt8.toNat_inj.1
  have := dig_nat (k := (b.toNat : Int) - 48) (by omega) (by omega)
  omega
theorem low_num : ∀ (l : List UInt8) (a : Int), allDig l = true → 0 ≤ a → low l.length (numL l a) = l
  | [], a, _, h => rfl
  | b :: r, a, h, h0 => by
    have h' := h
    simp only [allDig, Bool.and_eq_true] at h
    have hb := h.1
    simp [isDig] at hb
    have ih := low_num r (10 * a + ((b.toNat : Int) - 48)) h.2 (by omega)
    have lo := numL_lo r (10 * a + ((b.toNat : Int) - 48)) h.2 (by omega)
    have hi := (numL_range r (10 * a + ((b.toNat : Int) - 48)) h.2 (by omega)).2
    rw [List.length_cons, low, numL, ih]
    congr 1
    have hq : numL r (10 * a + ((b.toNat : Int) - 48)) / 10 ^ r.length = 10 * a + ((b.toNat : Int) - 48) := by
      have hp : (0 : Int) < 10 ^ r.length := Int.pow_pos (by omega)
      apply Int.le_antisymm
      · have := (Int.ediv_lt_iff_lt_mul hp (a := numL r (10 * a + ((b.toNat : Int) - 48))) (b := 10 * a + ((b.toNat : Int) - 48) + 1)).2 hi
        omega
      · exact (Int.le_ediv_iff_mul_le hp).2 lo
    rw [hq, show (10 * a + ((b.toNat : Int) - 48)) % 10 = (b.toNat : Int) - 48 by omega]
    exact dig_of h.1
theorem low4 (y : Int) : low 4 y = [dig (y / 1000 % 10), dig (y / 100 % 10), dig (y / 10 % 10), dig (y % 10)] := by
  simp [low]
theorem low2 (y : Int) : low 2 y = [dig (y / 10 % 10), dig (y % 10)] := by
  simp [low]
theorem dig_is {k : Int} (h0 : 0 ≤ k) (h : k < 10) : isDig (dig k) = true := by
  have := dig_nat h0 h
  simp [isDig]; omega
theorem num4 {y : Int} (h0 : 0 ≤ y) (h : y < 10000) : allDig (low 4 y) = true ∧ numL (low 4 y) 0 = y := by
  rw [low4]
  simp only [allDig, numL, dig_is (k := y / 1000 % 10) (by omega) (by omega), dig_is (k := y / 100 % 10) (by omega) (by omega), dig_is (k := y / 10 % 10) (by omega) (by omega), dig_is (k := y % 10) (by omega) (by omega),
    dig_nat (k := y / 1000 % 10) (by omega) (by omega), dig_nat (k := y / 100 % 10) (by omega) (by omega), dig_nat (k := y / 10 % 10) (by omega) (by omega), dig_nat (k := y % 10) (by omega) (by omega)]
  refine ⟨rfl, by omega⟩
theorem num2 {y : Int} (h0 : 0 ≤ y) (h : y < 100) : allDig (low 2 y) = true ∧ numL (low 2 y) 0 = y := by
  rw [low2]
  simp only [allDig, numL, dig_is (k := y / 10 % 10) (by omega) (by omega), dig_is (k := y % 10) (by omega) (by omega), dig_nat (k := y / 10 % 10) (by omega) (by omega), dig_nat (k := y % 10) (by omega) (by omega)]
  refine ⟨rfl, by omega⟩
def txt (y m n : Int) : List UInt8 := low 4 y ++ [45] ++ low 2 m ++ [45] ++ low 2 n
theorem txt_len (y m n : Int) : (txt y m n).length = 10 := by simp [txt, low_len]
theorem txt_bs (y m n : Int) : bs (txt y m n) = bs (low 4 y) ++ (⟨#[45]⟩ : ByteArray) ++ bs (low 2 m) ++ (⟨#[45]⟩ : ByteArray) ++ bs (low 2 n) := by
  have h : (⟨#[45]⟩ : ByteArray) = bs [45] := rfl
  rw [h, bs_app, bs_app, bs_app, bs_app]; rfl
def dshape (l : List UInt8) : Prop := l.length = 10 ∧ l[4]? = some 45 ∧ l[7]? = some 45
instance (l : List UInt8) : Decidable (dshape l) := by unfold dshape; infer_instance
def pY (l : List UInt8) : List UInt8 := l.take 4
def pM (l : List UInt8) : List UInt8 := (l.take 7).drop 5
def pD (l : List UInt8) : List UInt8 := l.drop 8
def parseE (l : List UInt8) : Int × Int := if dshape l then (if allDig (pY l) = true ∧ allDig (pM l) = true ∧ allDig (pD l) = true then ofE (numL (pY l) 0) (numL (pM l) 0) (numL (pD l) 0) else (0, 3)) else (0, 3)
theorem num_nonneg (l : List UInt8) (h : allDig l = true) : 0 ≤ numL l 0 := (numL_range l 0 h (by omega)).1
theorem txt_parts (y m n : Int) : dshape (txt y m n) ∧ pY (txt y m n) = low 4 y ∧ pM (txt y m n) = low 2 m ∧ pD (txt y m n) = low 2 n :=
  ⟨⟨rfl, rfl, rfl⟩, rfl, rfl, rfl⟩
theorem parse_txt {y m n : Int} (y0 : 0 ≤ y) (y1 : y < 10000) (m0 : 0 ≤ m) (m1 : m < 100) (n0 : 0 ≤ n) (n1 : n < 100) : parseE (txt y m n) = ofE y m n := by
  obtain ⟨h1, h2, h3, h4⟩ := txt_parts y m n
  obtain ⟨a1, a2⟩ := num4 y0 y1
  obtain ⟨b1, b2⟩ := num2 m0 m1
  obtain ⟨c1, c2⟩ := num2 n0 n1
  unfold parseE
  rw [if_pos h1, h2, h3, h4, if_pos ⟨a1, b1, c1⟩, a2, b2, c2]
theorem split10 {l : List UInt8} (h : dshape l) : l = pY l ++ [45] ++ pM l ++ [45] ++ pD l ∧ (pY l).length = 4 ∧ (pM l).length = 2 ∧ (pD l).length = 2 := by
  obtain ⟨h1, h2, h3⟩ := h
  match l, h1 with
  | [a0, a1, a2, a3, a4, a5, a6, a7, a8, a9], _ =>
    simp at h2 h3
    subst h2 h3
    exact ⟨rfl, rfl, rfl, rfl⟩
theorem parse_cases (l : List UInt8) : parseE l = (0, 3) ∨ parseE l = (0, 2) ∨ ∃ y m n, IsDate (parseE l).1 y m n ∧ (parseE l).1 ≤ 1048575 ∧ (parseE l).2 = 0 ∧ l = txt y m n := by
  unfold parseE
  split
  · rename_i hs
    split
    · rename_i hd
      obtain ⟨h1, h2, h3⟩ := hd
      by_cases he : (ofE (numL (pY l) 0) (numL (pM l) 0) (numL (pD l) 0)).2 = 0
      · right; right
        obtain ⟨k1, k2⟩ := ofE_ok he
        refine ⟨_, _, _, k1, k2, he, ?_⟩
        obtain ⟨e, l1, l2, l3⟩ := split10 hs
        unfold txt
        have r1 := low_num (pY l) 0 h1 (by omega)
        have r2 := low_num (pM l) 0 h2 (by omega)
        have r3 := low_num (pD l) 0 h3 (by omega)
        rw [l1] at r1; rw [l2] at r2; rw [l3] at r3
        rw [r1, r2, r3]; exact e
      · right; left; exact ofE_err he
    · left; rfl
  · left; rfl
end Go.Abs.Day
