import Derived.Test.YtjpcpnakcapojaaC38c
namespace Go.Abs.L38
open Go Go.Abs Go.Proofs
set_option linter.unusedVariables false
set_option maxRecDepth 20000
/-! ### Repeat of one number -/
abbrev U (n : Int) : AV := .int .u64 n
theorem wrapU {x : Int} (h1 : 0 ≤ x) (h2 : x ≤ 18446744073709551615) : IntKind.u64.wrap x = x := by
  have : IntKind.u64.wrap x = x % 18446744073709551616 := by
    simp [IntKind.wrap, IntKind.bits, IntKind.signed]
  omega
theorem ofInt64 (a : Nat) (ha : a < 18446744073709551616) : (BitVec.ofInt 64 (a : Int)).toNat = a := by
  rw [BitVec.ofInt_natCast, BitVec.toNat_ofNat]; exact Nat.mod_eq_of_lt (by omega)
theorem andU (a b : Nat) (ha : a < 18446744073709551616) (hb : b < 18446744073709551616) : bits .and .u64 (a : Int) (b : Int) = ((a &&& b : Nat) : Int) := by
  show IntKind.u64.wrap ((BitVec.ofInt 64 (a : Int) &&& BitVec.ofInt 64 (b : Int)).toNat : Int) = _
  rw [BitVec.toNat_and, ofInt64 a ha, ofInt64 b hb]
  have : a &&& b ≤ a := Nat.and_le_left
  exact wrapU (by omega) (by omega)
theorem orU (a b : Nat) (ha : a < 18446744073709551616) (hb : b < 18446744073709551616) : bits .or .u64 (a : Int) (b : Int) = ((a ||| b : Nat) : Int) := by
  show IntKind.u64.wrap ((BitVec.ofInt 64 (a : Int) ||| BitVec.ofInt 64 (b : Int)).toNat : Int) = _
  rw [BitVec.toNat_or, ofInt64 a ha, ofInt64 b hb]
  have : a ||| b < 2 ^ 64 := Nat.or_lt_two_pow (by omega) (by omega)
  exact wrapU (by omega) (by omega)
theorem mask32 (a : Nat) (ha : a < 4294967296) : bits .and .u64 (a : Int) 4294967295 = (a : Int) := by
  have := andU a 4294967295 (by omega) (by omega)
  rw [show (4294967295 : Nat) = 2 ^ 32 - 1 from rfl, Nat.and_two_pow_sub_one_eq_mod, Nat.mod_eq_of_lt (by omega)] at this
  exact this
theorem wrapUT {x y : Int} (h : x = y) (h1 : 0 ≤ y) (h2 : y ≤ 18446744073709551615) : IntKind.u64.wrap x = y := by rw [h]; exact wrapU h1 h2
theorem sh32 {x : Int} (h0 : 0 ≤ x) (h : x < 4294967296) : x / 2 ^ ((32 : Int)).toNat = 0 := by
  show x / 4294967296 = 0
  omega
theorem c58 (n : Nat) (hn : n ≤ 1000) : Fn Try.prog 58 [U 1, U n] (.tup [U 0, U n]) := by
  have m1 := mask32 1 (by omega)
  have m2 := mask32 n (by omega)
  have m0 := mask32 0 (by omega)
  have e1 : (1 : Int) / 2 ^ ((32 : Int)).toNat = 0 := sh32 (by omega) (by omega)
  have en : (n : Int) / 2 ^ ((32 : Int)).toNat = 0 := sh32 (by omega) (by omega)
  have e0 : (0 : Int) / 2 ^ ((32 : Int)).toNat = 0 := sh32 (by omega) (by omega)
  have hs : (0 : Int) ≤ 32 ∧ (32 : Int) ≤ (IntKind.u64.bits : Int) := ⟨by omega, by decide⟩
  refine mk58 rfl ⟨_, m1, hs, _, m2, hs, (n : Int), wrapUT (by omega) (by omega) (by omega), 0, wrapUT (by rw [e1]; omega) (by omega) (by omega), hs, 0, wrapUT (by rw [en]; rfl) (by omega) (by omega), 0, m0, hs, 0, wrapUT (by rw [en]; omega) (by omega) (by omega), 0, wrapUT rfl (by omega) (by omega), 0, wrapUT (by rw [e1, en]; rfl) (by omega) (by omega), 0, wrapUT (by rw [e0]; rfl) (by omega) (by omega), hs, 0, wrapUT (by rw [e0]; rfl) (by omega) (by omega), (n : Int), wrapUT (by omega) (by omega) (by omega), ?_⟩
  exact ⟨_, _, rfl, ⟨rfl, rfl⟩, rfl, rfl, trivial⟩
theorem c56 (n : Nat) (hn : n ≤ 1000) : Fn Try.prog 56 [U 1, U n] (.tup [U 0, U n]) := by
  refine mk56 rfl ⟨fun h => (by cases h), fun _ => ⟨_, c58 n hn, ?_⟩⟩
  exact ⟨_, _, rfl, ⟨rfl, rfl⟩, rfl, rfl, trivial⟩
def reps (x : Int) (n : Nat) : List Int := List.replicate n x
theorem copy_rows (x : Int) (n k : Nat) (hk : k ≤ n) (hk1 : 1 ≤ k) (hkn : k < n) : (((List.replicate k [I x] ++ List.replicate (n - k) [I 0]).take k ++ ((List.replicate k [I x] ++ List.replicate (n - k) [I 0]).take k).take (min k (n - k))) ++ (List.replicate k [I x] ++ List.replicate (n - k) [I 0]).drop (k + min k (n - k))) = List.replicate (k + min k (n - k)) [I x] ++ List.replicate (n - (k + min k (n - k))) [I 0] := by
  have h1 : (List.replicate k [I x] ++ List.replicate (n - k) [I 0]).take k = List.replicate k [I x] := by
    rw [List.take_append_of_le_length (by simp), List.take_of_length_le (by simp)]
  rw [h1, List.take_replicate, List.replicate_append_replicate]
  congr 1
  · congr 1; omega
  · rw [List.drop_append, List.length_replicate, List.drop_of_length_le (by simp), List.nil_append, List.drop_replicate]
    congr 1; omega
theorem c49 (x : Int) (n : Nat) (hn1 : 1 ≤ n) (hn : n ≤ 1000) : Fn Try.prog 49 [A [x], I n] (fA (List.replicate n x)) := by
  refine mk49 rfl ⟨fun h => ?_, fun h => ?_⟩
  · simp at h; omega
  clear h
  refine ⟨1, wrapUT (show (([x].length : Nat) : Int) = 1 from rfl) (by omega) (by omega), (n : Int), wrapU (by omega) (by omega), _, c56 n hn, ?_⟩
  refine ⟨[(2, false)], rfl, fun h => ?_, fun h => ?_⟩
  · simp at h; omega
  clear h
  refine ⟨(n : Int), wrap64 (by omega) (by omega), ⟨rfl, by omega, by show (8 : Int) * _ ≤ _; omega, by omega⟩, ⟨by simp, by show 1 ≤ ((n : Int)).toNat; omega, by simp⟩, scal [x], ?_⟩
  refine ⟨fun q c => ∃ k : Nat, 1 ≤ k ∧ k ≤ n ∧ q = n - k ∧ c = ⟨[(7, .osl 480 1 n), (8, I k)], [(480, ⟨3, 1, .pure, List.replicate k [I x] ++ List.replicate (n - k) [I 0]⟩)]⟩, ⟨_, _, Wk.keep [7, 8] [480], 1, by omega, by omega, rfl, ?_⟩, ?_⟩
  · have e : (List.replicate n [I 0]).take 0 ++ ([[I x]] : List (List AV)).take (min 1 n) ++ (List.replicate n [I 0]).drop (0 + min 1 n) = List.replicate 1 [I x] ++ List.replicate (n - 1) [I 0] := by
      rw [show min 1 n = 1 by omega, List.drop_replicate]; rfl
    have e2 : ((min 1 n : Nat) : Int) = ((1 : Nat) : Int) := by omega
    show Cfg.mk [(7, .osl 480 1 n), (8, I ((min 1 n : Nat) : Int))] [(480, (⟨3, 1, .pure, (List.replicate n [I 0]).take 0 ++ ([[I x]] : List (List AV)).take (min 1 n) ++ (List.replicate n [I 0]).drop (0 + min 1 n)⟩ : OBlk))] = _
    rw [e, e2]
  rintro q c ⟨k, hk1, hkn, rfl, rfl⟩
  refine ⟨fun h => ?_, fun h => ?_⟩
  · have h : k < n := by simp at h; omega
    refine ⟨⟨by omega, by omega⟩, ⟨by omega, by omega⟩, ⟨?_, ?_, ?_⟩, ((k + min k (n - k) : Nat) : Int), ?_, ?_⟩
    · show k + (n - k) ≤ _
      simp
    · show 1 ≤ n - k
      omega
    · show 1 ≤ k
      omega
    · refine wrapTo ?_ ?_ ?_
      · show (k : Int) + ((min k (n - k) : Nat) : Int) = _
        omega
      · show _ ≤ (k : Int) + ((min k (n - k) : Nat) : Int)
        omega
      · show (k : Int) + ((min k (n - k) : Nat) : Int) ≤ _
        omega
    · refine ⟨_, _, Wk.keep [7, 8] [480], by omega, k + min k (n - k), by omega, by omega, rfl, ?_⟩
      rw [← copy_rows x n k (by omega) hk1 h]; rfl
  · have h : k = n := by simp at h; omega
    subst h
    have e : List.replicate k [I x] ++ List.replicate (k - k) [I 0] = (List.replicate k x).map enc := by
      rw [Nat.sub_self, List.map_replicate]; simp [enc]
    rw [e]
    exact ⟨rfl, _, rfl, rfl, by simp, .inl ⟨rfl, by show AV.fsl true 3 1 (List.replicate k x).length _ = AV.fsl true 3 1 k _; rw [List.length_replicate]⟩⟩
theorem c31 (n : Nat) (hn1 : 1 ≤ n) (hn : n ≤ 1000) : Fn Try.prog 31 [I n] (fA (List.replicate n (-1))) := by
  refine mk31 rfl ⟨_, c49 (-1) n hn1 hn, false, ?_⟩
  exact ⟨rfl, _, rfl, rfl, by simp, .inl ⟨rfl, rfl⟩⟩
end Go.Abs.L38
