import Derived.Test.YtnmpnlhlbjemeaaP1
import Derived.Test.YtnmpnlhlbjemeaaL39d
namespace Go.Abs.L39
open Go Go.Abs Go.Proofs
set_option linter.unusedVariables false
set_option maxRecDepth 20000
def bitsP (n : Nat) : List Int := (List.range (n + 1)).map fun i => ((2 ^ i : Nat) : Int)
theorem bitsP_len (n : Nat) : (bitsP n).length = n + 1 := by simp [bitsP]
theorem bitsP_at {n i : Nat} (h : i ≤ n) : (bitsP n)[i]? = some ((2 ^ i : Nat) : Int) := by
  unfold bitsP
  rw [List.getElem?_map, List.getElem?_range (by omega)]; rfl
theorem bitsP_succ (n : Nat) : bitsP (n + 1) = bitsP n ++ [((2 ^ (n + 1) : Nat) : Int)] := by
  unfold bitsP
  rw [List.range_succ, List.map_append]; rfl
theorem bitsP_row {n i : Nat} (h : i ≤ n) : ((bitsP n).map enc)[i]? = some [I ((2 ^ i : Nat) : Int)] := by
  rw [List.getElem?_map, bitsP_at h]; rfl
theorem pow60 {i : Nat} (h : i ≤ 60) : 2 ^ i ≤ 1152921504606846976 := Nat.pow_le_pow_right (by decide) h
theorem c38 (n : Nat) (hn : n ≤ 60) : Fn Try.prog 38 [I n] (fA (bitsP n)) := by
  refine mk38 rfl ⟨fun q c => ∃ i : Nat, i ≤ n ∧ q = n - i ∧ c = ⟨[(0, I n), (3, .osl 64 1 (i + 1)), (5, I n), (6, I i)], [(64, ⟨3, 1, .pure, (bitsP i).map enc⟩)]⟩, ⟨_, _, Wk.keep [0, 3, 5, 6] [64], 0, by omega, rfl, rfl⟩, ?_⟩
  rintro q c ⟨i, hi, rfl, rfl⟩
  refine ⟨fun h => ?_, fun h => ?_⟩
  · have h : i < n := by simp at h; omega
    have hp := pow60 (i := i) (by omega)
    have hp1 : 2 ^ (i + 1) = 2 * 2 ^ i := by rw [Nat.pow_succ]; omega
    refine ⟨(i : Int), wrapTo (by omega) (by omega) (by omega), ⟨by omega, by omega⟩, [I ((2 ^ i : Nat) : Int)], by rw [Int.toNat_natCast]; exact bitsP_row (Nat.le_refl _), ((2 ^ (i + 1) : Nat) : Int), ?_, ?_⟩
    · rw [hp1]
      generalize 2 ^ i = p at *
      exact wrapTo (by omega) (by omega) (by omega)
    refine ⟨⟨by show (i + 1 + 1) * 8 ≤ _; omega, by omega⟩, ((i + 1 : Nat) : Int), wrapTo (by omega) (by omega) (by omega), ?_⟩
    refine ⟨_, _, Wk.keep [0, 3, 5, 6] [64], by omega, i + 1, by omega, rfl, ?_⟩
    rw [bitsP_succ, List.map_append]
    show Cfg.mk _ [(64, (⟨3, 1, .pure, ((bitsP i).map enc).take (i + 1) ++ _⟩ : OBlk))] = _
    rw [List.take_of_length_le (by rw [List.length_map, bitsP_len]; exact Nat.le_refl _)]; rfl
  · have h : i = n := by simp at h; omega
    subst h
    exact ⟨rfl, _, rfl, rfl, by rw [List.length_map, bitsP_len], .inl ⟨rfl, by show AV.fsl true 3 1 (bitsP i).length _ = AV.fsl true 3 1 (i + 1) _; rw [bitsP_len]⟩⟩
end Go.Abs.L39
namespace Go.Abs.L39
open Go Go.Abs Go.Proofs
set_option linter.unusedVariables false
set_option maxRecDepth 20000
theorem tdiv_nat (a b : Nat) : ((a : Nat) : Int).tdiv ((b : Nat) : Int) = ((a / b : Nat) : Int) := by
  rw [Int.tdiv_eq_ediv_of_nonneg (by omega), Int.natCast_ediv]
theorem tmod_nat' (a b : Nat) : ((a : Nat) : Int).tmod ((b : Nat) : Int) = ((a % b : Nat) : Int) := by
  rw [Int.tmod_eq_emod_of_nonneg (by omega), Int.natCast_emod]
theorem tabP_row {l : List Int} {room : Int} {k j : Nat} (h : j < k) : ((tabP l room k).map enc)[j]? = some [I ((tabP l room k).getD j 0)] := by
  rw [List.getElem?_map, tab_at l room h, tab_getD l room h]; rfl
set_option maxHeartbeats 1000000 in
theorem c23 (l : List Int) (hl : l.length ≤ 9223372036854775807) (room : Int) : Fn Try.prog 23 [A l, I room] (tabR l room) := by
  refine mk23 rfl ⟨_, c37 l hl room, fun h => ?_, fun h => ?_⟩
  · have h : fewE l room ≠ 0 := by simpa using h
    rw [tabR, if_pos h]; exact ⟨_, _, rfl, .inl rfl, rfl, rfl, trivial⟩
  have h : fewE l room = 0 := by simpa using h
  rw [tabR, if_neg (by omega), h]
  have o := few_okl h
  obtain ⟨_, hr1, hr2, hlen, hsz⟩ := few_ok h
  have hpow : 2 ^ l.length ≤ 4096 := Nat.pow_le_pow_right (by decide) hlen
  have hpos : 1 ≤ 2 ^ l.length := Nat.one_le_two_pow
  refine ⟨_, c38 l.length (by omega), true, ?_⟩
  have hbl : (bitsP l.length).length = l.length + 1 := bitsP_len _
  have hbr : ((bitsP l.length).map enc)[((l.length : Nat) : Int).toNat]? = some [I ((2 ^ l.length : Nat) : Int)] := by rw [Int.toNat_natCast]; exact bitsP_row (Nat.le_refl _)
  have hbnd := tabP_bounds (room := room) (by omega : l.length ≤ 60) (fun n hn => by have := hsz n hn; omega)
  have hte : ∀ k, k < 2 ^ l.length → k ≠ 0 → bestQ room (tabP l room k) k l 0 0 = tv l room k := fun k h1 h2 => tab_eq o h1 h2
  unfold tabE
  generalize 2 ^ l.length = P at *
  refine ⟨fun q c => ∃ k : Nat, 1 ≤ k ∧ k ≤ P ∧ q = P - k ∧ c = ⟨[(0, A l), (1, I room), (7, A (bitsP l.length)), (8, .osl 416 1 k), (9, I k)], [(416, ⟨3, 1, .pure, (tabP l room k).map enc⟩)]⟩, ⟨_, _, Wk.keep [0, 1, 7, 8, 9] [416], 1, by omega, by omega, rfl, rfl⟩, ?_⟩
  rintro q c ⟨k, hk1, hk2, rfl, rfl⟩
  refine ⟨⟨by omega, by omega⟩, [I ((P : Nat) : Int)], hbr, fun hc => ?_, fun hc => ?_⟩
  · have hk : k < P := by simp at hc; omega
    refine ⟨fun q c => ∃ (i : Nat) (best : Int), i ≤ l.length ∧ q = l.length - i ∧ 0 ≤ best ∧ best ≤ 1100000 ∧ bestQ room (tabP l room k) k (l.drop i) i best = tv l room k ∧ c = ⟨[(0, A l), (1, I room), (7, A (bitsP l.length)), (8, .osl 416 1 k), (9, I k), (10, I best), (36, A l), (37, I l.length), (38, I i)], [(416, ⟨3, 1, .pure, (tabP l room k).map enc⟩)]⟩,
      ⟨_, _, Wk.keep [0, 1, 7, 8, 9, 10, 36, 37, 38] [416], 0, 0, by omega, rfl, by omega, by omega, hte k hk (by omega), rfl⟩, ?_⟩
    rintro q c ⟨i, best, hi, rfl, hb0, hb1, hI, rfl⟩
    refine ⟨fun h1 => ?_, fun h1 => ?_⟩
    · have hil : i < l.length := by simp at h1; omega
      obtain ⟨n, hn, hd, _⟩ := drop_cons hil
      have hn0 := hsz n (List.mem_of_getElem? hn)
      rw [hd, bestQ] at hI
      have hbi : ((bitsP l.length).map enc)[((i : Nat) : Int).toNat]? = some [I ((2 ^ i : Nat) : Int)] := by rw [Int.toNat_natCast]; exact bitsP_row (by omega)
      have hp0 : 1 ≤ 2 ^ i := Nat.one_le_two_pow
      have hpi : 2 ^ i ≤ 4096 := Nat.le_trans (Nat.pow_le_pow_right (by decide) (by omega : i ≤ 12)) (by decide)
      have hdv := tdiv_nat k (2 ^ i)
      have hmd : ((k / 2 ^ i : Nat) : Int).tmod 2 = ((k / 2 ^ i % 2 : Nat) : Int) := tmod_nat' _ 2
      have hdl : k / 2 ^ i ≤ k := Nat.div_le_self _ _
      have hbk : k / 2 ^ i % 2 ≠ 0 → 2 ^ i ≤ k := fun e => bit_le ((bit_iff k i).1 e)
      generalize k / 2 ^ i = d at *
      refine ⟨⟨by omega, by omega⟩, enc n, get_map hn, ⟨by omega, by omega⟩, [I ((2 ^ i : Nat) : Int)], hbi, by omega, ((d : Nat) : Int), wrapTo hdv (by rw [hdv]; omega) (by rw [hdv]; omega), by decide, fun hz => ?_, fun hz => ?_⟩
      · have hz : d % 2 = 0 := by rw [hmd] at hz; exact_mod_cast (eq_of_beq hz : ((d % 2 : Nat) : Int) = 0)
        rw [if_pos hz] at hI
        refine ⟨_, wrap64 (by omega) (by omega), ?_⟩
        exact ⟨_, _, Wk.keep [0, 1, 7, 8, 9, 10, 36, 37, 38] [416], by omega, i + 1, best, by omega, rfl, hb0, hb1, hI, rfl⟩
      · have hz : d % 2 ≠ 0 := by
          intro e
          rw [hmd, e] at hz; cases hz
        rw [if_neg hz] at hI
        have hle := hbk hz
        clear hdv hmd hdl hz hbk
        generalize 2 ^ i = b at *
        have hxb : 0 ≤ (tabP l room k).getD (k - b) 0 ∧ (tabP l room k).getD (k - b) 0 ≤ 1000000 := by
          rw [List.getD_eq_getElem?_getD]
          cases hq : (tabP l room k)[k - b]? with
          | none => exact ⟨Int.le_refl _, by decide⟩
          | some x => exact hbnd k x (List.mem_of_getElem? hq)
        have hrow : ((tabP l room k).map enc)[((k - b : Nat) : Int).toNat]? = some [I ((tabP l room k).getD (k - b) 0)] := by rw [Int.toNat_natCast]; exact tabP_row (by omega)
        have hp1 := put1_bounds (room := room) hxb (show 1 ≤ n ∧ n ≤ 10000 by omega)
        unfold put1 at hI hp1
        generalize (tabP l room k).getD (k - b) 0 = x at *
        have e1 : x.tdiv 10001 = x / 10001 := Int.tdiv_eq_ediv_of_nonneg hxb.1
        have e2 : x.tmod 10001 = x % 10001 := Int.tmod_eq_emod_of_nonneg hxb.1
        refine ⟨⟨by omega, by omega⟩, [I ((b : Nat) : Int)], hbi, ((k - b : Nat) : Int), wrapTo (by omega) (by omega) (by omega), ⟨by omega, by omega⟩, [I x], hrow, by decide, x.tdiv 10001, wrap64 (by omega) (by omega), by decide, ?_⟩
        generalize hY : (if x.tdiv 10001 = 0 ∨ x.tmod 10001 + n > room then (x.tdiv 10001 + 1) * 10001 + 0 + n else x.tdiv 10001 * 10001 + x.tmod 10001 + n) = Y at hI hp1
        by_cases hq : x.tdiv 10001 = 0
        · rw [if_pos (.inl hq)] at hY; subst hY
          refine ⟨[(2, true)], by simp [hq], fun _ => ?_, fun h => (by cases h)⟩
          refine ⟨_, wrap64 (by omega) (by omega), _, wrap64 (by omega) (by omega), _, wrap64 (by omega) (by omega), _, wrap64 (by omega) (by omega), ?_⟩
          by_cases hb : best = 0
          · rw [if_pos (.inl hb)] at hI
            refine ⟨[(2, true)], by simp [hb], fun _ => ?_, fun h => (by cases h)⟩
            refine ⟨_, wrap64 (by omega) (by omega), ?_⟩
            exact ⟨_, _, Wk.keep [0, 1, 7, 8, 9, 10, 36, 37, 38] [416], by omega, i + 1, (x.tdiv 10001 + 1) * 10001 + 0 + n, by omega, rfl, by omega, by omega, hI, rfl⟩
          · refine ⟨[(2, false)], by simp [hb], fun h => ?_, fun h => ?_⟩
            · have h : (x.tdiv 10001 + 1) * 10001 + 0 + n < best := by simpa using h
              rw [if_pos (.inr h)] at hI
              refine ⟨_, wrap64 (by omega) (by omega), ?_⟩
              exact ⟨_, _, Wk.keep [0, 1, 7, 8, 9, 10, 36, 37, 38] [416], by omega, i + 1, (x.tdiv 10001 + 1) * 10001 + 0 + n, by omega, rfl, by omega, by omega, hI, rfl⟩
            · have h : ¬ (x.tdiv 10001 + 1) * 10001 + 0 + n < best := by simpa using h
              rw [if_neg (by rintro (h' | h'); exact hb h'; exact h h')] at hI
              refine ⟨_, wrap64 (by omega) (by omega), ?_⟩
              exact ⟨_, _, Wk.keep [0, 1, 7, 8, 9, 10, 36, 37, 38] [416], by omega, i + 1, best, by omega, rfl, by omega, by omega, hI, rfl⟩
        · refine ⟨[(2, false)], by simp [hq], x.tmod 10001 + n, wrap64 (by omega) (by omega), fun h => ?_, fun h => ?_⟩
          · have h : x.tmod 10001 + n > room := by simpa using h
            rw [if_pos (.inr h)] at hY; subst hY
            refine ⟨_, wrap64 (by omega) (by omega), _, wrap64 (by omega) (by omega), _, wrap64 (by omega) (by omega), _, wrap64 (by omega) (by omega), ?_⟩
            by_cases hb : best = 0
            · rw [if_pos (.inl hb)] at hI
              refine ⟨[(2, true)], by simp [hb], fun _ => ?_, fun h => (by cases h)⟩
              refine ⟨_, wrap64 (by omega) (by omega), ?_⟩
              exact ⟨_, _, Wk.keep [0, 1, 7, 8, 9, 10, 36, 37, 38] [416], by omega, i + 1, (x.tdiv 10001 + 1) * 10001 + 0 + n, by omega, rfl, by omega, by omega, hI, rfl⟩
            · refine ⟨[(2, false)], by simp [hb], fun h => ?_, fun h => ?_⟩
              · have h : (x.tdiv 10001 + 1) * 10001 + 0 + n < best := by simpa using h
                rw [if_pos (.inr h)] at hI
                refine ⟨_, wrap64 (by omega) (by omega), ?_⟩
                exact ⟨_, _, Wk.keep [0, 1, 7, 8, 9, 10, 36, 37, 38] [416], by omega, i + 1, (x.tdiv 10001 + 1) * 10001 + 0 + n, by omega, rfl, by omega, by omega, hI, rfl⟩
              · have h : ¬ (x.tdiv 10001 + 1) * 10001 + 0 + n < best := by simpa using h
                rw [if_neg (by rintro (h' | h'); exact hb h'; exact h h')] at hI
                refine ⟨_, wrap64 (by omega) (by omega), ?_⟩
                exact ⟨_, _, Wk.keep [0, 1, 7, 8, 9, 10, 36, 37, 38] [416], by omega, i + 1, best, by omega, rfl, by omega, by omega, hI, rfl⟩
          · have h : ¬ x.tmod 10001 + n > room := by simpa using h
            rw [if_neg (by rintro (h' | h'); exact hq h'; exact h h')] at hY; subst hY
            refine ⟨_, wrap64 (by omega) (by omega), _, wrap64 (by omega) (by omega), _, wrap64 (by omega) (by omega), ?_⟩
            by_cases hb : best = 0
            · rw [if_pos (.inl hb)] at hI
              refine ⟨[(2, true)], by simp [hb], fun _ => ?_, fun h => (by cases h)⟩
              refine ⟨_, wrap64 (by omega) (by omega), ?_⟩
              exact ⟨_, _, Wk.keep [0, 1, 7, 8, 9, 10, 36, 37, 38] [416], by omega, i + 1, x.tdiv 10001 * 10001 + x.tmod 10001 + n, by omega, rfl, by omega, by omega, hI, rfl⟩
            · refine ⟨[(2, false)], by simp [hb], fun h => ?_, fun h => ?_⟩
              · have h : x.tdiv 10001 * 10001 + x.tmod 10001 + n < best := by simpa using h
                rw [if_pos (.inr h)] at hI
                refine ⟨_, wrap64 (by omega) (by omega), ?_⟩
                exact ⟨_, _, Wk.keep [0, 1, 7, 8, 9, 10, 36, 37, 38] [416], by omega, i + 1, x.tdiv 10001 * 10001 + x.tmod 10001 + n, by omega, rfl, by omega, by omega, hI, rfl⟩
              · have h : ¬ x.tdiv 10001 * 10001 + x.tmod 10001 + n < best := by simpa using h
                rw [if_neg (by rintro (h' | h'); exact hb h'; exact h h')] at hI
                refine ⟨_, wrap64 (by omega) (by omega), ?_⟩
                exact ⟨_, _, Wk.keep [0, 1, 7, 8, 9, 10, 36, 37, 38] [416], by omega, i + 1, best, by omega, rfl, by omega, by omega, hI, rfl⟩
    · have hil : i = l.length := by simp at h1; omega
      subst hil
      rw [List.drop_length, bestQ] at hI
      refine ⟨⟨by show (k + 1) * 8 ≤ _; omega, by omega⟩, ((k + 1 : Nat) : Int), wrapTo (by omega) (by omega) (by omega), ?_⟩
      refine ⟨_, _, Wk.keep [0, 1, 7, 8, 9] [416], by omega, k + 1, by omega, by omega, rfl, ?_⟩
      rw [tabP, List.map_append]
      show Cfg.mk _ [(416, (⟨3, 1, .pure, ((tabP l room k).map enc).take k ++ _⟩ : OBlk))] = _
      rw [List.take_of_length_le (by rw [List.length_map, tabP_len]; exact Nat.le_refl _), hI]; rfl
  · have hkp : k = P := by simp at hc; omega
    subst hkp
    exact ⟨_, _, rfl, ⟨_, rfl, rfl, by rw [List.length_map, tabP_len], .inl ⟨rfl, by show AV.fsl true 3 1 (tabP l room k).length _ = AV.fsl true 3 1 k _; rw [tabP_len]⟩⟩, rfl, rfl, trivial⟩
end Go.Abs.L39
namespace Go.Abs.L39
open Go Go.Abs Go.Proofs
set_option linter.unusedVariables false
set_option maxRecDepth 20000
def encB (b : Bool) : List AV := [.bool b]
abbrev AB (l : List Bool) : AV := .rsl 1 l.length (l.map encB)
def idxG {α : Type} [BEq α] (x : α) : Nat → List α → Int
  | _, [] => -1
  | i, a :: r => if x == a then i else idxG x (i + 1) r
theorem idxG_bounds {α : Type} [BEq α] (x : α) : ∀ (l : List α) (i : Nat), -1 ≤ idxG x i l ∧ idxG x i l ≤ i + l.length
  | [], i => ⟨by simp [idxG], by simp only [idxG, List.length_nil]; omega⟩
  | a :: r, i => by
    unfold idxG
    split
    · simp; omega
    · have := idxG_bounds x r (i + 1)
      simp; omega
theorem idxG_mem {α : Type} [BEq α] (x : α) : ∀ (l : List α) (i : Nat), decide (idxG x i l ≥ 0) = l.any (x == ·)
  | [], i => by simp [idxG]
  | a :: r, i => by
    unfold idxG
    rw [List.any_cons]
    split
    · rename_i h; rw [h]; simp
    · rename_i h
      rw [idxG_mem x r (i + 1), show (x == a) = false by simpa using h]; rfl
theorem c44 (l : List Bool) (hl : l.length ≤ 9223372036854775807) (x : Bool) : Fn Try.prog 44 [AB l, .bool x] (I (idxG x 0 l)) := by
  refine mk44 rfl ?_
  refine ⟨fun q c => ∃ i : Nat, i ≤ l.length ∧ q = l.length - i ∧ idxG x i (l.drop i) = idxG x 0 l ∧ c = ⟨[(0, AB l), (1, .bool x), (7, I l.length), (8, I i)], []⟩, ⟨_, _, Wk.keep [0, 1, 7, 8] [], 0, by omega, rfl, rfl, rfl⟩, ?_⟩
  rintro q c ⟨i, hi, rfl, hI, rfl⟩
  refine ⟨fun h => ?_, fun h => ?_⟩
  · simp at h
    obtain ⟨a, ha, hd, _⟩ := drop_cons h
    rw [hd, idxG] at hI
    refine ⟨⟨by omega, by omega⟩, encB a, get_map ha, fun hz => ?_, fun hz => ?_⟩
    · have hz : (x == a) = true := hz
      rw [if_pos hz] at hI
      rw [← hI]; exact ⟨rfl, rfl, rfl⟩
    · have hz : (x == a) = false := hz
      rw [if_neg (by rw [hz]; simp)] at hI
      refine ⟨_, wrap64 (by omega) (by omega), ?_⟩
      exact ⟨_, _, Wk.keep [0, 1, 7, 8] [], by omega, i + 1, by omega, rfl, hI, rfl⟩
  · simp at h
    have : i = l.length := by omega
    subst this
    rw [List.drop_length] at hI
    rw [← hI]; exact ⟨rfl, rfl, rfl⟩
theorem c41 (l : List Int) (hl : l.length ≤ 9223372036854775807) (x : Int) : Fn Try.prog 41 [A l, I x] (I (idxG x 0 l)) := by
  refine mk41 rfl ?_
  refine ⟨fun q c => ∃ i : Nat, i ≤ l.length ∧ q = l.length - i ∧ idxG x i (l.drop i) = idxG x 0 l ∧ c = ⟨[(0, A l), (1, I x), (7, I l.length), (8, I i)], []⟩, ⟨_, _, Wk.keep [0, 1, 7, 8] [], 0, by omega, rfl, rfl, rfl⟩, ?_⟩
  rintro q c ⟨i, hi, rfl, hI, rfl⟩
  refine ⟨fun h => ?_, fun h => ?_⟩
  · simp at h
    obtain ⟨a, ha, hd, _⟩ := drop_cons h
    rw [hd, idxG] at hI
    refine ⟨⟨by omega, by omega⟩, enc a, get_map ha, fun hz => ?_, fun hz => ?_⟩
    · have hz : (x == a) = true := hz
      rw [if_pos hz] at hI
      rw [← hI]; exact ⟨rfl, rfl, rfl⟩
    · have hz : (x == a) = false := hz
      rw [if_neg (by rw [hz]; simp)] at hI
      refine ⟨_, wrap64 (by omega) (by omega), ?_⟩
      exact ⟨_, _, Wk.keep [0, 1, 7, 8] [], by omega, i + 1, by omega, rfl, hI, rfl⟩
  · simp at h
    have : i = l.length := by omega
    subst this
    rw [List.drop_length] at hI
    rw [← hI]; exact ⟨rfl, rfl, rfl⟩
theorem c39 (l : List Bool) (hl : l.length ≤ 9223372036854775807) (x : Bool) : Fn Try.prog 39 [AB l, .bool x] (.bool (l.any (x == ·))) := by
  rw [← idxG_mem x l 0]
  exact mk39 rfl ⟨_, c44 l hl x, rfl, rfl, rfl⟩
theorem c30 (l : List Int) (hl : l.length ≤ 9223372036854775807) (x : Int) : Fn Try.prog 30 [A l, I x] (.bool (l.any (x == ·))) := by
  rw [← idxG_mem x l 0]
  exact mk30 rfl ⟨_, c41 l hl x, rfl, rfl, rfl⟩
def fewB (T : List (List Int)) : Bool := T.all (fun t => decide (t.length ≤ 60)) && decide (T.length ≤ 60)
theorem c27 (T : List (List Int)) (hl : T.length ≤ 9223372036854775807) : Fn Try.prog 27 [AA T] (.bool (fewB T)) := by
  refine mk27 rfl ?_
  refine ⟨fun q c => ∃ i : Nat, i ≤ T.length ∧ q = T.length - i ∧ (T.drop i).all (fun t => decide (t.length ≤ 60)) = T.all (fun t => decide (t.length ≤ 60)) ∧ c = ⟨[(0, AA T), (5, AA T), (6, I T.length), (7, I i)], []⟩, ⟨_, _, Wk.keep [0, 5, 6, 7] [], 0, by omega, rfl, rfl, rfl⟩, ?_⟩
  rintro q c ⟨i, hi, rfl, hI, rfl⟩
  refine ⟨fun h => ?_, fun h => ?_⟩
  · simp at h
    obtain ⟨a, ha, hd, _⟩ := drop_cons h
    rw [hd, List.all_cons] at hI
    refine ⟨⟨by omega, by omega⟩, encT a, get_map ha, fun hz => ?_, fun hz => ?_⟩
    · have hz : a.length > 60 := by simp at hz; omega
      have : decide (a.length ≤ 60) = false := by simp; omega
      rw [this, Bool.false_and] at hI
      rw [fewB, ← hI]; exact ⟨rfl, rfl, rfl⟩
    · have hz : ¬ a.length > 60 := by simp at hz; omega
      have : decide (a.length ≤ 60) = true := by simp; omega
      rw [this, Bool.true_and] at hI
      refine ⟨_, wrap64 (by omega) (by omega), ?_⟩
      exact ⟨_, _, Wk.keep [0, 5, 6, 7] [], by omega, i + 1, by omega, rfl, hI, rfl⟩
  · simp at h
    have : i = T.length := by omega
    subst this
    rw [List.drop_length, List.all_nil] at hI
    refine ⟨rfl, rfl, ?_⟩
    rw [fewB, ← hI, Bool.true_and]
    show AV.bool (decide (T.length ≤ 60)) = AV.bool (decide ((T.length : Int) ≤ 60))
    congr 1; exact decide_eq_decide.2 (by omega)
end Go.Abs.L39
namespace Go.Abs.L39
open Go Go.Abs Go.Proofs
set_option linter.unusedVariables false
set_option maxRecDepth 20000
/-! ### Valid -/
inductive Vd (α : Type) where
  | err (e : Int)
  | ok (a : α)
def Vd.code {α : Type} (f : α → Int) : Vd α → Int
  | .err e => e
  | .ok a => f a
def inV (l : List Int) : List Int → Option Int → List Bool → Int → Vd (List Bool × Int)
  | [], _, S, s => .ok (S, s)
  | n :: r, prev, S, s => if n < 0 ∨ n ≥ l.length then .err 2 else if S.getD n.toNat false = true then .err 6 else if prev.any (fun p => decide (n < p)) = true then .err 5 else inV l r (some n) (S.set n.toNat true) (s + l.getD n.toNat 0)
def outV (l : List Int) (room : Int) : List (List Int) → Option Int → List Bool → Vd (List Bool)
  | [], _, S => .ok S
  | b :: r, prev, S => if b = [] then .err 9 else match inV l b prev S 0 with
    | .err e => .err e
    | .ok (S', s) => if s > room then .err 12 else outV l room r b.head? S'
def endV (S : List Bool) : Int := if S.any (false == ·) = true then 10 else 0
def validE (l : List Int) (room : Int) (T : List (List Int)) : Int := if chkE l room ≠ 0 then 1 else (outV l room T none (List.replicate l.length false)).code endV
abbrev O28 (S : List Bool) : List (Nat × OBlk) := [(304, ⟨4, 1, .pure, S.map encB⟩)]
abbrev G28 (l : List Int) (room : Int) (T : List (List Int)) (k : Nat) : List (Nat × AV) := [(0, A l), (1, I room), (2, AA T), (7, .osl 304 1 l.length), (20, AA T), (21, I T.length), (22, I k)]
abbrev H28 (l : List Int) (room : Int) (T : List (List Int)) (k : Nat) (b : List Int) (s : Int) (i : Nat) : List (Nat × AV) := [(0, A l), (1, I room), (2, AA T), (7, .osl 304 1 l.length), (8, I k), (9, A b), (10, I s), (20, AA T), (21, I T.length), (22, I k), (30, A b), (31, I b.length), (32, I i)]
theorem S_row {S : List Bool} {k : Nat} (h : k < S.length) : (S.map encB)[k]? = some [.bool (S.getD k false)] := by
  rw [List.getElem?_map, List.getD_eq_getElem?_getD, List.getElem?_eq_getElem h]; rfl
theorem S_set {S : List Bool} {k : Nat} : (S.map encB).set k [.bool true] = (S.set k true).map encB := by
  rw [List.map_set]; rfl
set_option maxHeartbeats 2000000 in
theorem c28 (l : List Int) (hl : l.length ≤ 9223372036854775807) (room : Int) (T : List (List Int)) (hT : T.length ≤ 9223372036854775807) (hTb : ∀ b ∈ T, b.length ≤ 100000) : Fn Try.prog 28 [A l, I room, AA T] (I (validE l room T)) := by
  refine mk28 rfl ⟨_, c31 l hl room, fun h => ?_, fun h => ?_⟩
  · have h : chkE l room ≠ 0 := by simpa using h
    rw [validE, if_pos h]; exact ⟨rfl, rfl, rfl⟩
  have h : chkE l room = 0 := by simpa using h
  obtain ⟨hr1, hr2, hlen, hsz⟩ := chk_ok h
  have hv : validE l room T = (outV l room T none (List.replicate l.length false)).code endV := by rw [validE, if_neg (by omega)]
  rw [hv]
  refine ⟨⟨rfl, by omega, by show (1 : Int) * _ ≤ _; omega, by omega⟩, ?_⟩
  refine ⟨fun q c => ∃ (k : Nat) (prev : Option Int) (S : List Bool), k ≤ T.length ∧ q = T.length - k ∧ S.length = l.length ∧ (k = 0 → prev = none) ∧ (∀ j, k = j + 1 → ∃ (p : Int) (b : List Int), prev = some p ∧ T[j]? = some (p :: b)) ∧ outV l room (T.drop k) prev S = outV l room T none (List.replicate l.length false) ∧ c = ⟨G28 l room T k, O28 S⟩, ⟨_, _, Wk.keep [0, 1, 2, 7, 20, 21, 22] [304], 0, none, List.replicate l.length false, by omega, rfl, by simp, fun _ => rfl, fun j hj => (by omega), rfl, ?_⟩, ?_⟩
  · have e : (List.replicate l.length false).map encB = List.replicate l.length [.bool false] := by rw [List.map_replicate]; rfl
    show _ = Cfg.mk _ [(304, (⟨4, 1, .pure, (List.replicate l.length false).map encB⟩ : OBlk))]
    rw [e]; rfl
  rintro q c ⟨k, prev, S, hk, rfl, hS, hp0, hp1, hI, rfl⟩
  refine ⟨fun hc => ?_, fun hc => ?_⟩
  · simp at hc
    obtain ⟨b, hb, hd, _⟩ := drop_cons hc
    rw [hd, outV] at hI
    have hbl := hTb b (List.mem_of_getElem? hb)
    refine ⟨⟨by omega, by omega⟩, encT b, get_map hb, fun hz => ?_, fun hz => ?_⟩
    · have hz : b = [] := by
        have hz : ((b.length : Int) == 0) = true := hz
        have : b.length = 0 := by simpa using hz
        exact List.eq_nil_of_length_eq_zero this
      rw [if_pos hz] at hI
      rw [← hI]; exact ⟨rfl, rfl, rfl⟩
    have hz : b ≠ [] := by
      rintro rfl; cases hz
    rw [if_neg hz] at hI
    refine ⟨fun q c => ∃ (i : Nat) (pr : Option Int) (S' : List Bool) (s : Int), i ≤ b.length ∧ q = b.length - i ∧ S'.length = l.length ∧ 0 ≤ s ∧ s ≤ 10000 * i ∧ (i = 0 → pr = prev) ∧ (∀ j, i = j + 1 → ∃ p : Int, pr = some p ∧ b[j]? = some p) ∧ inV l (b.drop i) pr S' s = inV l b prev S 0 ∧ c = ⟨H28 l room T k b s i, O28 S'⟩,
      ⟨_, _, Wk.keep [0, 1, 2, 7, 8, 9, 10, 20, 21, 22, 30, 31, 32] [304], 0, prev, S, 0, by omega, rfl, hS, by omega, by omega, fun _ => rfl, fun j hj => (by omega), rfl, rfl⟩, ?_⟩
    rintro q c ⟨i, pr, S', s, hi, rfl, hS', hs0, hs1, hq0, hq1, hJ, rfl⟩
    refine ⟨fun hc2 => ?_, fun hc2 => ?_⟩
    · simp at hc2
      obtain ⟨n, hn, hd2, _⟩ := drop_cons hc2
      rw [hd2, inV] at hJ
      refine ⟨⟨by omega, by omega⟩, enc n, get_map hn, ?_⟩
      by_cases hn0 : n < 0
      · rw [if_pos (.inl hn0)] at hJ
        rw [← hJ] at hI
        rw [← hI]
        exact ⟨[(2, true)], by simpa using hn0, fun _ => ⟨rfl, rfl, rfl⟩, fun h => (by cases h)⟩
      refine ⟨[(2, false)], by simpa using hn0, fun hz1 => ?_, fun hz1 => ?_⟩
      · have hz1 : n ≥ l.length := by simpa using hz1
        rw [if_pos (.inr hz1)] at hJ
        rw [← hJ] at hI
        rw [← hI]; exact ⟨rfl, rfl, rfl⟩
      have hz1 : ¬ n ≥ l.length := by simpa using hz1
      rw [if_neg (by omega)] at hJ
      have hnl : n.toNat < l.length := by omega
      have hrow := S_row (S := S') (k := n.toNat) (by omega)
      refine ⟨⟨by omega, by omega⟩, _, hrow, fun hz2 => ?_, fun hz2 => ?_⟩
      · have hz2 : S'.getD n.toNat false = true := hz2
        rw [if_pos hz2] at hJ
        rw [← hJ] at hI
        rw [← hI]; exact ⟨rfl, rfl, rfl⟩
      have hz2 : S'.getD n.toNat false = false := hz2
      rw [if_neg (by rw [hz2]; simp)] at hJ
      obtain ⟨z, hz3, _, _⟩ := drop_cons hnl
      have hz0 := hsz z (List.mem_of_getElem? hz3)
      rw [show l.getD n.toNat 0 = z by rw [List.getD_eq_getElem?_getD, hz3]; rfl] at hJ
      by_cases hi0 : i = 0
      · have hpr := hq0 hi0
        by_cases hk0 : k = 0
        · rw [show pr.any (fun p => decide (n < p)) = false by rw [hpr, hp0 hk0]; rfl, if_neg (by simp)] at hJ
          refine ⟨[(2, false), (11, false), (14, true), (18, false)], by simp; omega, rfl, by simp; omega, by simp; omega, fun h => (by cases h), fun _ => ?_⟩
          refine ⟨⟨by omega, by omega⟩, _, hrow, ⟨by omega, by omega⟩, enc z, get_map hz3, _, wrap64 (by omega) (by omega), _, wrap64 (by omega) (by omega), ?_⟩
          refine ⟨_, _, Wk.keep [0, 1, 2, 7, 8, 9, 10, 20, 21, 22, 30, 31, 32] [304], by omega, i + 1, some n, S'.set n.toNat true, s + z, by omega, rfl, by rw [List.length_set]; exact hS', by omega, by omega, fun hx => (by omega), fun j hj => ⟨n, rfl, by rw [show j = i by omega]; exact hn⟩, hJ, ?_⟩
          show _ = Cfg.mk _ [(304, (⟨4, 1, .pure, (S'.set n.toNat true).map encB⟩ : OBlk))]
          rw [← S_set]; rfl
        · obtain ⟨p, b', hp2, hp3⟩ := hp1 (k - 1) (by omega)
          rw [show pr.any (fun p => decide (n < p)) = decide (n < p) by rw [hpr, hp2]; rfl] at hJ
          have hp3' : (T.map encT)[((k : Int) - 1).toNat]? = some (encT (p :: b')) := by
            rw [show ((k : Int) - 1).toNat = k - 1 by omega]; exact get_map hp3
          refine ⟨[(2, false), (11, false), (14, true), (18, true)], by simp; omega, rfl, by simp; omega, by simp; omega, _, wrap64 (by omega) (by omega), ⟨by omega, by omega⟩, encT (p :: b'), hp3', ⟨by omega, by simp⟩, enc p, rfl, fun hz4 => ?_, fun hz4 => ?_⟩
          · have hz4 : n < p := by simpa using hz4
            rw [if_pos (by simpa using hz4)] at hJ
            rw [← hJ] at hI
            rw [← hI]; exact ⟨rfl, rfl, rfl⟩
          · have hz4 : ¬ n < p := by simpa using hz4
            rw [if_neg (by simpa using hz4)] at hJ
            refine ⟨⟨by omega, by omega⟩, _, hrow, ⟨by omega, by omega⟩, enc z, get_map hz3, _, wrap64 (by omega) (by omega), _, wrap64 (by omega) (by omega), ?_⟩
            refine ⟨_, _, Wk.keep [0, 1, 2, 7, 8, 9, 10, 20, 21, 22, 30, 31, 32] [304], by omega, i + 1, some n, S'.set n.toNat true, s + z, by omega, rfl, by rw [List.length_set]; exact hS', by omega, by omega, fun hx => (by omega), fun j hj => ⟨n, rfl, by rw [show j = i by omega]; exact hn⟩, hJ, ?_⟩
            show _ = Cfg.mk _ [(304, (⟨4, 1, .pure, (S'.set n.toNat true).map encB⟩ : OBlk))]
            rw [← S_set]; rfl
      · obtain ⟨p, hp2, hp3⟩ := hq1 (i - 1) (by omega)
        rw [show pr.any (fun p => decide (n < p)) = decide (n < p) by rw [hp2]; rfl] at hJ
        have hp3' : (b.map enc)[((i : Int) - 1).toNat]? = some (enc p) := by
          rw [show ((i : Int) - 1).toNat = i - 1 by omega]; exact get_map hp3
        by_cases hz4 : n < p
        · rw [if_pos (by simpa using hz4)] at hJ
          rw [← hJ] at hI
          rw [← hI]
          refine ⟨[(2, true), (11, true)], by simp; omega, _, wrap64 (by omega) (by omega), ⟨by omega, by omega⟩, enc p, hp3', by simpa using hz4, fun _ => ⟨rfl, rfl, rfl⟩, fun h => (by cases h)⟩
        · rw [if_neg (by simpa using hz4)] at hJ
          refine ⟨[(2, true), (11, false), (14, false), (18, false)], by simp; omega, _, wrap64 (by omega) (by omega), ⟨by omega, by omega⟩, enc p, hp3', by simpa using hz4, by simp; omega, rfl, fun h => (by cases h), fun _ => ?_⟩
          refine ⟨⟨by omega, by omega⟩, _, hrow, ⟨by omega, by omega⟩, enc z, get_map hz3, _, wrap64 (by omega) (by omega), _, wrap64 (by omega) (by omega), ?_⟩
          refine ⟨_, _, Wk.keep [0, 1, 2, 7, 8, 9, 10, 20, 21, 22, 30, 31, 32] [304], by omega, i + 1, some n, S'.set n.toNat true, s + z, by omega, rfl, by rw [List.length_set]; exact hS', by omega, by omega, fun hx => (by omega), fun j hj => ⟨n, rfl, by rw [show j = i by omega]; exact hn⟩, hJ, ?_⟩
          show _ = Cfg.mk _ [(304, (⟨4, 1, .pure, (S'.set n.toNat true).map encB⟩ : OBlk))]
          rw [← S_set]; rfl
    · simp at hc2
      have hib : i = b.length := by omega
      subst hib
      rw [List.drop_length, inV] at hJ
      rw [← hJ] at hI
      refine ⟨fun hz5 => ?_, fun hz5 => ?_⟩
      · have hz5 : s > room := by simpa using hz5
        have hI : (if s > room then .err 12 else outV l room (T.drop (k + 1)) b.head? S' : Vd (List Bool)) = outV l room T none (List.replicate l.length false) := hI
        rw [if_pos hz5] at hI
        rw [← hI]; exact ⟨rfl, rfl, rfl⟩
      · have hz5 : ¬ s > room := by simpa using hz5
        have hI : (if s > room then .err 12 else outV l room (T.drop (k + 1)) b.head? S' : Vd (List Bool)) = outV l room T none (List.replicate l.length false) := hI
        rw [if_neg hz5] at hI
        refine ⟨_, wrap64 (by omega) (by omega), ?_⟩
        refine ⟨_, _, Wk.keep [0, 1, 2, 7, 20, 21, 22] [304], by omega, k + 1, b.head?, S', by omega, rfl, hS', fun hx => (by omega), fun j hj => ?_, hI, rfl⟩
        have : j = k := by omega
        subst this
        cases b with
        | nil => exact absurd rfl hz
        | cons p b' => exact ⟨p, b', rfl, hb⟩
  · have : k = T.length := by simp at hc; omega
    subst this
    rw [List.drop_length, outV] at hI
    rw [← hI]
    have k39 : Fn Try.prog 39 [.rsl 1 l.length ((S.map encB).take l.length), .bool false] (.bool (S.any (false == ·))) := by
      rw [List.take_of_length_le (by rw [List.length_map]; omega), ← hS]
      exact c39 S (by omega) false
    refine ⟨_, k39, fun hz6 => ?_, fun hz6 => ?_⟩
    · have hz6 : S.any (false == ·) = true := hz6
      show ev _ _ _ _ _ _ _
      rw [Vd.code, endV, if_pos hz6]; exact ⟨rfl, rfl, rfl⟩
    · have hz6 : S.any (false == ·) = false := hz6
      rw [Vd.code, endV, if_neg (by rw [hz6]; simp)]; exact ⟨rfl, rfl, rfl⟩
end Go.Abs.L39
