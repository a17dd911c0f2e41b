import Derived.Test.YtioekoecinogjaaDoorC03c
import Derived.Test.YtioekoecinogjaaDoorTxt
import Derived.Test.YtioekoecinogjaaDoorS03
namespace Go.Abs.L03
open Go Go.Abs Go.Abs.Day Go.Proofs Go.RowKit
set_option linter.unusedVariables false
set_option maxRecDepth 20000
theorem tab_of {P : Program} {name : String} {w : World} (hg : P.globalNamed name = some 1) (h : WI w) : Lib.TabIs P w name .u64 Lib.pow10Tab := by
  obtain ⟨_, t, s, h⟩ := h
  unfold Lib.TabIs World.var?
  rw [hg]
  simp only [Option.bind_some, h]
theorem below_grow {w : World} (k : Nat) (os : Array Obj) : Below w.heap.size w (Sort.grow (w.drewN k) os) := by
  refine ⟨rfl, rfl, rfl, ?_, fun g hg => ?_⟩
  · simp [Sort.grow, World.drewN]
  · simp only [Sort.grow, World.drewN]
    rw [Array.getElem?_append_left hg]
theorem c_Itoa (n : Int) (h0 : 0 ≤ n) (h1 : n ≤ 9223372036854775807) : Fn Tryd.prog 82 [I n] (.str (bs (Lib.itoa n))) := by
  refine ⟨⟨_, Tryd.func82, by kernel_rfl, by kernel_rfl⟩, fun X w vs hw hl hv => ?_⟩
  have hs : vs = #[.int .i64 n] := by
    have h0 : vs.size = 1 := by simpa using hl.symm
    obtain ⟨v, rfl⟩ := Array.size_eq_one_iff.1 h0
    have := VR.int_inv (hv 0 _ v rfl rfl)
    rw [this]
  subst hs
  refine (Any.strconv_Itoa Tryd.laysM171 n (by omega) h1 w (tab_of (by kernel_rfl) hw)).mono ?_
  rintro e w' ⟨rfl, k, os, rfl⟩
  exact ⟨_, rfl, .str, below_grow k os⟩
theorem c_digits (n : Int) (k : Nat) (k1 : 1 ≤ k) (k2 : k ≤ 18) (h0 : 0 ≤ n) (h1 : n < 10 ^ k) (h2 : n ≤ 1000000000000) : Fn Tryd.prog 77 [I n, I k] (.str (bs (low k n))) := by
  have hnd := nDigits_le h0 k1 h1
  have hp := pow_nDigits h0
  have hi := itoa_low h0
  have hpos := Lib.nDigits_pos n.toNat
  generalize Lib.nDigits n.toNat = nd at hnd hp hi hpos
  refine mk77 rfl ⟨_, c_Itoa n h0 (by omega), ?_⟩
  have hll : ((bs (Lib.itoa n)).size : Int) = nd := by rw [hi, bs_size, low_len]
  refine ⟨_, wrap64 (by omega) (by omega), ?_⟩
  refine ⟨fun N c => ∃ i : Nat, i ≤ k - nd ∧ N = k - nd - i ∧ c = ⟨[(4, .str ⟨#[]⟩), (5, .str (bs (low (nd + i) n))), (11, I ((k : Int) - nd)), (12, I i)], []⟩, ⟨_, _, Wk.keep [4, 5, 11, 12] [], 0, by omega, rfl, ?_⟩, ?_⟩
  · rw [Nat.add_zero, ← hi, ← hll]; rfl
  · rintro N c ⟨i, hi1, rfl, rfl⟩
    refine ⟨fun h => ?_, fun h => ?_⟩
    · simp at h
      refine ⟨?_, _, wrap64 (by omega) (by omega), _, _, Wk.keep [4, 5, 11, 12] [], by omega, i + 1, by omega, rfl, ?_⟩
      · show 1 + (bs (low (nd + i) n)).size ≤ _
        rw [bs_size, low_len]; omega
      · have hlt : n < 10 ^ (nd + i) := Int.lt_of_lt_of_le hp (pow_up nd i)
        rw [← Nat.add_assoc, low_zero h0 hlt, bs_zero]
        rfl
    · simp at h
      have : nd + i = k := by omega
      rw [this]
      exact ⟨rfl, rfl, rfl⟩
theorem c_Digits (n : Int) (k : Nat) (k2 : k ≤ 18) (h0 : 0 ≤ n) (h2 : n ≤ 1000000000000) : Fn Tryd.prog 61 [I n, I k] (.str (bs (low k n))) := by
  refine mk61 rfl ?_
  refine ⟨fun N c => ∃ (i : Nat) (q : Int), i ≤ k ∧ q = n / 10 ^ i ∧ N = k - i ∧ c = ⟨[(0, I q), (1, I k), (4, .str ⟨#[]⟩), (5, .str (bs (low i n))), (6, I i)], []⟩, ⟨_, _, Wk.keep [0, 1, 4, 5, 6] [], 0, n, by omega, by simp, rfl, rfl⟩, ?_⟩
  rintro N c ⟨i, q, hi, hq, rfl, rfl⟩
  have q0 : 0 ≤ q := by rw [hq]; exact Int.ediv_nonneg h0 (Int.le_of_lt (Int.pow_pos (by omega)))
  have q1 : q ≤ n := by rw [hq]; exact Int.ediv_le_self _ h0
  refine ⟨fun h => ?_, fun h => ?_⟩
  · simp at h
    refine ⟨by decide, _, wrap64 (by rw [rem64 q0]; omega) (by rw [rem64 q0]; omega), ⟨by rw [rem64 q0]; omega, by omega, by rw [rem64 q0]; show q % 10 + 1 ≤ 10; omega⟩, ?_, by decide, _, quo64 q0 (by omega) (by omega), _, wrap64 (by omega) (by omega), _, _, Wk.keep [0, 1, 4, 5, 6] [], by omega, i + 1, q / 10, by omega, by rw [hq, div_step], rfl, ?_⟩
    · rw [rem64 q0]
      show (digS.extract (q % 10).toNat (q % 10 + 1).toNat).size + (bs (low i n)).size ≤ _
      rw [digS_at (by omega) (by omega), bs_size, bs_size, low_len]
      simp; omega
    · rw [low, ← hq, bs_dig, ← digS_at (d := q % 10) (by omega) (by omega), ← rem64 q0]
      rfl
  · simp at h
    have : i = k := by omega
    subst this
    exact ⟨rfl, rfl, rfl⟩
theorem c_number (l : List UInt8) (hl : l.length ≤ 10) : Fn Tryd.prog 81 [.str (bs l)] (I (if allDig l = true then numL l 0 else -1)) := by
  refine mk81 rfl ?_
  refine ⟨fun N c => ∃ (i : Nat) (a : Int), i ≤ l.length ∧ 0 ≤ a ∧ a < 10 ^ i ∧ numL (l.drop i) a = numL l 0 ∧ allDig (l.drop i) = allDig l ∧ N = l.length - i ∧ c = ⟨[(0, .str (bs l)), (2, I 0), (3, I a), (6, I l.length), (7, I i)], []⟩, ⟨_, _, Wk.keep [0, 2, 3, 6, 7] [], 0, 0, by omega, by omega, by simp, by simp, by simp, rfl, rfl⟩, ?_⟩
  rintro N c ⟨i, a, hi, a0, a1, hN, hA, rfl, rfl⟩
  have hp : (10 : Int) ^ i ≤ 10 ^ 10 := by
    have := pow_up i (10 - i)
    rwa [show i + (10 - i) = 10 by omega] at this
  refine ⟨fun h => ?_, fun h => ?_⟩
  · simp at h
    obtain ⟨b, hb, hd, _⟩ := drop_cons h
    rw [hd, numL] at hN
    rw [hd, allDig] at hA
    have hbt := byte_lt b
    refine ⟨[], _, idx_ok hb, _, idx_ok hb, fun hf => ?_, fun hf => ?_⟩
    · have hnd : isDig b = false := by unfold isDig; rw [Bool.not_eq_false']; exact hf
      rw [hnd, Bool.false_and] at hA
      rw [← hA]
      exact ⟨rfl, rfl, rfl⟩
    · have hdg : isDig b = true := by unfold isDig; rw [Bool.not_eq_true']; exact hf
      have hb2 := hdg
      simp [isDig] at hb2
      rw [hdg, Bool.true_and] at hA
      refine ⟨_, wrap64 (by omega) (by omega), _, idx_ok hb, _, wrap8 (by omega) (by omega), _, wrap64 (by omega) (by omega), _, wrap64 (by omega) (by omega), _, wrap64 (by omega) (by omega), ?_⟩
      refine ⟨_, _, Wk.keep [0, 2, 3, 6, 7] [], by omega, i + 1, 10 * a + ((b.toNat : Int) - 48), by omega, by omega, ?_, hN, hA, rfl, rfl⟩
      rw [Int.pow_succ]; omega
  · simp at h
    have : i = l.length := by omega
    subst this
    simp [numL, allDig] at hN hA
    rw [if_pos hA, ← hN]
    exact ⟨rfl, rfl, rfl⟩
theorem c_Number (l : List UInt8) (hl : l.length ≤ 10) : Fn Tryd.prog 70 [.str (bs l)] (.tup [I (if allDig l = true then numL l 0 else 0), .bool (allDig l && decide (l.length > 0))]) := by
  refine mk70 rfl ?_
  refine ⟨fun N c => ∃ (i : Nat) (a : Int), i ≤ l.length ∧ 0 ≤ a ∧ a < 10 ^ i ∧ numL (l.drop i) a = numL l 0 ∧ allDig (l.drop i) = allDig l ∧ N = l.length - i ∧ c = ⟨[(0, .str (bs l)), (2, I 0), (3, .bool false), (4, I a), (5, I i)], []⟩, ⟨_, _, Wk.keep [0, 2, 3, 4, 5] [], 0, 0, by omega, by omega, by simp, by simp, by simp, rfl, rfl⟩, ?_⟩
  rintro N c ⟨i, a, hi, a0, a1, hN, hA, rfl, rfl⟩
  have hp : (10 : Int) ^ i ≤ 10 ^ 10 := by
    have := pow_up i (10 - i)
    rwa [show i + (10 - i) = 10 by omega] at this
  have hsz : ((bs l).size : Int) = l.length := rfl
  refine ⟨fun h => ?_, fun h => ?_⟩
  · simp at h
    obtain ⟨b, hb, hd, _⟩ := drop_cons h
    rw [hd, numL] at hN
    rw [hd, allDig] at hA
    have hbt := byte_lt b
    refine ⟨[], _, idx_ok hb, _, idx_ok hb, fun hf => ?_, fun hf => ?_⟩
    · have hnd : isDig b = false := by unfold isDig; rw [Bool.not_eq_false']; exact hf
      rw [hnd, Bool.false_and] at hA
      rw [← hA]
      exact ⟨_, _, rfl, ⟨rfl, rfl⟩, rfl, rfl, trivial⟩
    · have hdg : isDig b = true := by unfold isDig; rw [Bool.not_eq_true']; exact hf
      have hb2 := hdg
      simp [isDig] at hb2
      rw [hdg, Bool.true_and] at hA
      refine ⟨_, wrap64 (by omega) (by omega), _, idx_ok hb, _, wrap8 (by omega) (by omega), _, wrap64 (by omega) (by omega), _, wrap64 (by omega) (by omega), _, wrap64 (by omega) (by omega), ?_⟩
      refine ⟨_, _, Wk.keep [0, 2, 3, 4, 5] [], by omega, i + 1, 10 * a + ((b.toNat : Int) - 48), by omega, by omega, ?_, hN, hA, rfl, rfl⟩
      rw [Int.pow_succ]; omega
  · simp at h
    have : i = l.length := by omega
    subst this
    simp [numL, allDig] at hN hA
    rw [hA, if_pos rfl, ← hN]
    refine ⟨_, _, rfl, ⟨rfl, rfl⟩, rfl, ?_, trivial⟩
    show AV.bool (true && decide (l.length > 0)) = AV.bool (decide (((l.length : Nat) : Int) > 0))
    simp
theorem four {d y m n : Int} (h : IsDate d y m n) : (0 ≤ y ∧ y < 10 ^ 4 ∧ y ≤ 1000000000000) ∧ (0 ≤ m ∧ m < 10 ^ 2 ∧ m ≤ 1000000000000) ∧ 0 ≤ n ∧ n < 10 ^ 2 ∧ n ≤ 1000000000000 := by
  have := h.y1; have := h.y2; have := h.m1; have := h.m2; have := h.n1; have := h.n2
  have := lenM_range y m
  have e4 : (10 : Int) ^ 4 = 10000 := by decide
  have e2 : (10 : Int) ^ 2 = 100 := by decide
  rw [e4, e2]; omega
theorem bs_sizes (a b : List UInt8) : (bs a ++ bs b).size = a.length + b.length := by rw [bs_app, bs_size, List.length_append]
theorem c_Format (d y m n : Int) (hD : IsDate d y m n) (hd : d ≤ 1048575) : Fn Tryd.prog 57 [I d] (.tup [.str (bs (txt y m n)), I 0]) := by
  obtain ⟨⟨a1, a2, a3⟩, ⟨b1, b2, b3⟩, g1, g2, g3⟩ := four hD
  refine mk57 rfl ⟨_, c_Date d y m n hD hd, fun h => (by cases h), fun _ => ?_⟩
  have h45 : (⟨#[45]⟩ : ByteArray) = bs [45] := rfl
  refine ⟨_, c_digits y 4 (by omega) (by omega) a1 a2 a3, ?_, _, c_digits m 2 (by omega) (by omega) b1 b2 b3, ?_, ?_, _, c_digits n 2 (by omega) (by omega) g1 g2 g3, ?_, ?_⟩
  · rw [bs_size, low_len]; show 4 + 1 ≤ _; omega
  · rw [h45, bs_app, bs_size, bs_size, List.length_append, low_len, low_len]; simp
  · rw [h45, bs_app, bs_app, bs_size, bs_size, List.length_append, List.length_append, low_len, low_len]; simp
  · rw [h45, bs_app, bs_app, bs_app, bs_size, bs_size, List.length_append, List.length_append, List.length_append, low_len, low_len, low_len]; simp
  · rw [txt_bs]
    exact ⟨_, _, rfl, ⟨rfl, rfl⟩, rfl, rfl, trivial⟩
theorem c_FormatBad (d : Int) (h : ¬ good d) : Fn Tryd.prog 57 [I d] (.tup [.str (bs []), I 2]) :=
  mk57 rfl ⟨_, c_DateBad d h, fun _ => ⟨_, _, rfl, ⟨rfl, rfl⟩, rfl, rfl, trivial⟩, fun h => (by cases h)⟩
theorem c_rFormat (d y m n : Int) (hD : IsDate d y m n) (hd : d ≤ 1048575) : Fn Tryd.prog 35 [I d] (.tup [.str (bs (txt y m n)), I 0]) := by
  obtain ⟨⟨a1, a2, a3⟩, ⟨b1, b2, b3⟩, g1, g2, g3⟩ := four hD
  refine mk35 rfl ⟨_, c_rDate d y m n hD hd, fun h => (by cases h), fun _ => ?_⟩
  have h45 : (⟨#[45]⟩ : ByteArray) = bs [45] := rfl
  refine ⟨_, c_Digits y 4 (by omega) a1 a3, ?_, _, c_Digits m 2 (by omega) b1 b3, ?_, ?_, _, c_Digits n 2 (by omega) g1 g3, ?_, ?_⟩
  · rw [bs_size, low_len]; show 4 + 1 ≤ _; omega
  · rw [h45, bs_app, bs_size, bs_size, List.length_append, low_len, low_len]; simp
  · rw [h45, bs_app, bs_app, bs_size, bs_size, List.length_append, List.length_append, low_len, low_len]; simp
  · rw [h45, bs_app, bs_app, bs_app, bs_size, bs_size, List.length_append, List.length_append, List.length_append, low_len, low_len, low_len]; simp
  · rw [txt_bs]
    exact ⟨_, _, rfl, ⟨rfl, rfl⟩, rfl, rfl, trivial⟩
theorem c_rFormatBad (d : Int) (h : ¬ good d) : Fn Tryd.prog 35 [I d] (.tup [.str (bs []), I 2]) :=
  mk35 rfl ⟨_, c_rDateBad d h, fun _ => ⟨_, _, rfl, ⟨rfl, rfl⟩, rfl, rfl, trivial⟩, fun h => (by cases h)⟩
end Go.Abs.L03
