import Derived.Test.YtnmpnlhlbjemeaaL39d
import Derived.Test.YtnmpnlhlbjemeaaP1
namespace Go.Abs.L39
open Go Go.Abs Go.Proofs
set_option linter.unusedVariables false
set_option maxRecDepth 20000
theorem k22n {l : List Int} (hl : l.length ≤ 9223372036854775807) {room : Int} (hf : fewE l room ≠ 0) : Fn Try.prog 22 [A l, I room] (.tup [.nilsl, I (fewE l room)]) := by
  have := c22 l hl room; rwa [tabR, if_pos hf] at this
theorem k22s {l : List Int} (hl : l.length ≤ 9223372036854775807) {room : Int} (hf : fewE l room = 0) : Fn Try.prog 22 [A l, I room] (.tup [fA (tabE l room), I 0]) := by
  have := c22 l hl room; rwa [tabR, if_neg (by omega), hf] at this
theorem tabE_at {l : List Int} {room : Int} {k : Nat} (h : k < 2 ^ l.length) : ((tabE l room).map enc)[k]? = some [I (tv l room k)] := by
  rw [List.getElem?_map, tabE, tab_at l room h]; rfl
theorem absI {x : Int} (hx : i64 x) : ∃ m m' : Int, IntKind.i64.wrap (x + 1) = m ∧ IntKind.i64.wrap (0 - m) = m' ∧ 0 ≤ maxI x m' := by
  refine ⟨_, _, rfl, rfl, ?_⟩
  unfold i64 at hx
  unfold maxI
  by_cases h : 0 ≤ x
  · split <;> omega
  · rw [wrap64 (x := x + 1) (by omega) (by omega), wrap64 (by omega) (by omega), if_pos (by omega)]; omega
theorem tmod_nat {a : Int} {n : Nat} (h : 0 ≤ a) : a.tmod (n : Int) = ((a.toNat % n : Nat) : Int) := by
  rw [Int.tmod_eq_emod_of_nonneg h, Int.natCast_emod, Int.toNat_of_nonneg h]
theorem or_nat {a b : Nat} (ha : a < 9223372036854775808) (hb : b < 9223372036854775808) (hab : a ||| b < 9223372036854775808) : bits .or .i64 (a : Int) (b : Int) = ((a ||| b : Nat) : Int) := by
  show IntKind.i64.wrap ((BitVec.ofInt 64 (a : Int) ||| BitVec.ofInt 64 (b : Int)).toNat : Int) = _
  rw [BitVec.toNat_or, ofInt64 a (by omega), ofInt64 b (by omega)]
  exact wrap64 (by omega) (by omega)
theorem sizeAt_of' {l : List Int} {j : Nat} (h : j < l.length) : l[j]? = some l[j] := by simp
set_option maxHeartbeats 1000000 in
theorem l6 (l : List Int) (hl : l.length ≤ 9223372036854775807) (room x y : Int) (hx : i64 x) (hy : i64 y) : Fn Try.prog 6 [A l, I room, .agg [I x, I y]] (.bool true) := by
  refine mk6 rfl ⟨_, c10, fun h => (by cases h), fun _ => ?_⟩
  by_cases h1 : l.length > 10
  · exact ⟨[(3, true)], by simp; omega, fun _ => ⟨rfl, rfl, rfl⟩, fun h => (by cases h)⟩
  refine ⟨[(3, false)], by simp; omega, fun h => ?_, fun h => ?_⟩
  · exact ⟨rfl, rfl, rfl⟩
  have h0 : l.length ≠ 0 := by
    intro e; rw [e] at h; exact absurd h (by decide)
  by_cases hf : fewE l room ≠ 0
  · refine ⟨_, c13 l (by omega), true, _, k22n hl hf, fun _ => ?_, fun h => ?_⟩
    · exact ⟨rfl, rfl, rfl⟩
    · simp at h; omega
  have hf : fewE l room = 0 := by omega
  have o := few_okl hf
  have hp1 : 1 ≤ 2 ^ l.length := Nat.one_le_two_pow
  have hp2 : 2 ^ l.length ≤ 1024 := Nat.pow_le_pow_right (by decide) (by omega : l.length ≤ 10)
  have ht : ∀ k, k < 2 ^ l.length → ((tabE l room).map enc)[k]? = some [I (tv l room k)] := fun k hk => tabE_at hk
  have htl : (tabE l room).length = 2 ^ l.length := tabP_len _ _ _
  have hsh : (1 : Int) * 2 ^ ((l.length : Nat) : Int).toNat = ((2 ^ l.length : Nat) : Int) := by rw [Int.toNat_natCast]; simp
  obtain ⟨m1, m2, e1, e2, hs0⟩ := absI hx
  obtain ⟨n1, n2, f1, f2, hi0⟩ := absI hy
  have hs : (maxI x m2).tmod ((tabE l room).length : Int) = (((maxI x m2).toNat % 2 ^ l.length : Nat) : Int) := by
    rw [tmod_nat hs0, htl]
  have hi : (maxI y n2).tmod (l.length : Int) = (((maxI y n2).toNat % l.length : Nat) : Int) := by
    exact tmod_nat hi0
  have hsl : (maxI x m2).toNat % 2 ^ l.length < 2 ^ l.length := Nat.mod_lt _ (by omega)
  have hil : (maxI y n2).toNat % l.length < l.length := Nat.mod_lt _ (by omega)
  generalize (maxI x m2).toNat % 2 ^ l.length = s at *
  generalize (maxI y n2).toNat % l.length = i at *
  have hq1 : 2 ^ i ≤ 512 := Nat.pow_le_pow_right (by decide) (by omega : i ≤ 9)
  have hml : s ||| 2 ^ i < 2 ^ l.length := Nat.or_lt_two_pow hsl (Nat.pow_lt_pow_right (by decide) hil)
  have hor : bits .or .i64 ((s : Nat) : Int) ((2 ^ i : Nat) : Int) = ((s ||| 2 ^ i : Nat) : Int) := or_nat (by omega) (by omega) (by omega)
  have hsi : (1 : Int) * 2 ^ ((i : Nat) : Int).toNat = ((2 ^ i : Nat) : Int) := by rw [Int.toNat_natCast]; simp
  obtain ⟨hg1, hg2, hg3, hg4⟩ := sets_grow o (s := s) (sizeAt_of' hil)
  have hn1 := o.nonneg s
  have hn2 := o.nonneg (s ||| 2 ^ i)
  have ht0 := ht 0 (by omega)
  have hts := ht s hsl
  have htm := ht _ hml
  have hbs := o.lt hsl
  have hbm := o.lt hml
  rw [tv_zero] at ht0
  clear ht
  have hsm : ((s : Nat) : Int) = ((s ||| 2 ^ i : Nat) : Int) ∨ ((s : Nat) : Int) ≠ ((s ||| 2 ^ i : Nat) : Int) := Decidable.em _
  refine ⟨_, c13 l (by omega), true, _, k22s hl hf, true, fun h => (by cases h), fun _ => ?_⟩
  generalize tabE l room = t at *
  generalize 2 ^ l.length = p at *
  generalize 2 ^ i = q at *
  generalize tv l room (s ||| q) = b at *
  generalize tv l room s = a at *
  generalize s ||| q = m at *
  refine ⟨[(6, false)], ⟨by omega, by show ((l.length : Nat) : Int) ≤ 64; omega⟩, ((p : Nat) : Int), wrapTo hsh (by rw [hsh]; omega) (by rw [hsh]; omega), by rw [htl]; simp, ⟨by omega, by omega⟩, [I 0], ht0, fun h => (by cases h), fun _ => ?_⟩
  refine ⟨m1, e1, m2, e2, by omega, n1, f1, n2, f2, by omega, ⟨by rw [hi]; omega, by rw [hi]; show ((i : Nat) : Int) ≤ 64; omega⟩, ((q : Nat) : Int), by rw [hi, hsi]; exact wrap64 (by omega) (by omega), ((m : Nat) : Int), by rw [hs]; exact hor, ?_⟩
  refine ⟨⟨by rw [hs]; omega, by rw [hs]; omega⟩, [I a], by rw [hs]; exact hts, by decide, a.tdiv 10001, wrap64 ?_ ?_, ⟨by omega, by omega⟩, [I b], htm, by decide, b.tdiv 10001, wrap64 ?_ ?_, ?_⟩
  · rw [Int.tdiv_eq_ediv_of_nonneg hn1]; omega
  · rw [Int.tdiv_eq_ediv_of_nonneg hn1]; omega
  · rw [Int.tdiv_eq_ediv_of_nonneg hn2]; omega
  · rw [Int.tdiv_eq_ediv_of_nonneg hn2]; omega
  rw [Int.tdiv_eq_ediv_of_nonneg hn1, Int.tdiv_eq_ediv_of_nonneg hn2]
  have hrem : b.tmod 10001 = b % 10001 := Int.tmod_eq_emod_of_nonneg hn2
  by_cases hsm : ((s : Nat) : Int) = ((m : Nat) : Int)
  · refine ⟨[(3, true), (9, true), (18, true), (22, true)], by simp; omega, ?_⟩
    refine ⟨_, wrap64 (by omega) (by omega), by simp; omega, ⟨by omega, by omega⟩, [I b], htm, by decide, by simp; omega, ?_⟩
    refine ⟨by rw [hs]; simpa using hsm, ?_⟩
    exact ⟨rfl, rfl, rfl⟩
  · refine ⟨[(3, true), (9, true), (18, true), (22, false)], by simp; omega, ?_⟩
    refine ⟨_, wrap64 (by omega) (by omega), by simp; omega, ⟨by omega, by omega⟩, [I b], htm, by decide, by simp; omega, ?_⟩
    refine ⟨by rw [hs]; simpa using hsm, ?_⟩
    refine ⟨⟨by omega, by omega⟩, [I b], htm, ?_⟩
    refine ⟨rfl, rfl, ?_⟩
    show AV.bool true = AV.bool _
    simp; omega
end Go.Abs.L39
