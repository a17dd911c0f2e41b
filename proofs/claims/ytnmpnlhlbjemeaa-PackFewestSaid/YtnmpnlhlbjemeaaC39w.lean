import Derived.Test.YtnmpnlhlbjemeaaC39v
namespace Go.Abs.L39
open Go Go.Abs Go.Proofs
set_option linter.unusedVariables false
set_option maxRecDepth 20000
theorem tdiv_nat (a b : Nat) : ((a : Nat) : Int).tdiv ((b : Nat) : Int) = ((a / b : Nat) : Int) := by
  rw [Int.tdiv_eq_ediv_of_nonneg (by omega), Int.natCast_ediv]
theorem tmod_nat' (a b : Nat) : ((a : Nat) : Int).tmod ((b : Nat) : Int) = ((a % b : Nat) : Int) := by
  rw [Int.tmod_eq_emod_of_nonneg (by omega), Int.natCast_emod]
theorem tabP_row {l : List Int} {room : Int} {k j : Nat} (h : j < k) : ((tabP l room k).map enc)[j]? = some [I ((tabP l room k).getD j 0)] := by
  rw [List.getElem?_map, tab_at l room h, tab_getD l room h]; rfl
set_option maxHeartbeats 1000000 in
theorem c23 (l : List Int) (hl : l.length ≤ 9223372036854775807) (room : Int) : Fn Try.prog 23 [A l, I room] (tabR l room) := by
  refine mk23 rfl ⟨_, c37 l hl room, fun h => ?_, fun h => ?_⟩
  · have h : fewE l room ≠ 0 := by simpa using h
    rw [tabR, if_pos h]; exact ⟨_, _, rfl, .inl rfl, rfl, rfl, trivial⟩
  have h : fewE l room = 0 := by simpa using h
  rw [tabR, if_neg (by omega), h]
  have o := few_okl h
  obtain ⟨_, hr1, hr2, hlen, hsz⟩ := few_ok h
  have hpow : 2 ^ l.length ≤ 4096 := Nat.pow_le_pow_right (by decide) hlen
  have hpos : 1 ≤ 2 ^ l.length := Nat.one_le_two_pow
  refine ⟨_, c38 l.length (by omega), true, ?_⟩
  have hbl : (bitsP l.length).length = l.length + 1 := bitsP_len _
  have hbr : ((bitsP l.length).map enc)[((l.length : Nat) : Int).toNat]? = some [I ((2 ^ l.length : Nat) : Int)] := by rw [Int.toNat_natCast]; exact bitsP_row (Nat.le_refl _)
  have hbnd := tabP_bounds (room := room) (by omega : l.length ≤ 60) (fun n hn => by have := hsz n hn; omega)
  have hte : ∀ k, k < 2 ^ l.length → k ≠ 0 → bestQ room (tabP l room k) k l 0 0 = tv l room k := fun k h1 h2 => tab_eq o h1 h2
  unfold tabE
  generalize 2 ^ l.length = P at *
  refine ⟨fun q c => ∃ k : Nat, 1 ≤ k ∧ k ≤ P ∧ q = P - k ∧ c = ⟨[(0, A l), (1, I room), (7, A (bitsP l.length)), (8, .osl 416 1 k), (9, I k)], [(416, ⟨3, 1, .pure, (tabP l room k).map enc⟩)]⟩, ⟨_, _, Wk.keep [0, 1, 7, 8, 9] [416], 1, by omega, by omega, rfl, rfl⟩, ?_⟩
  rintro q c ⟨k, hk1, hk2, rfl, rfl⟩
  refine ⟨⟨by omega, by omega⟩, [I ((P : Nat) : Int)], hbr, fun hc => ?_, fun hc => ?_⟩
  · have hk : k < P := by simp at hc; omega
    refine ⟨fun q c => ∃ (i : Nat) (best : Int), i ≤ l.length ∧ q = l.length - i ∧ 0 ≤ best ∧ best ≤ 1100000 ∧ bestQ room (tabP l room k) k (l.drop i) i best = tv l room k ∧ c = ⟨[(0, A l), (1, I room), (7, A (bitsP l.length)), (8, .osl 416 1 k), (9, I k), (10, I best), (36, A l), (37, I l.length), (38, I i)], [(416, ⟨3, 1, .pure, (tabP l room k).map enc⟩)]⟩,
      ⟨_, _, Wk.keep [0, 1, 7, 8, 9, 10, 36, 37, 38] [416], 0, 0, by omega, rfl, by omega, by omega, hte k hk (by omega), rfl⟩, ?_⟩
    rintro q c ⟨i, best, hi, rfl, hb0, hb1, hI, rfl⟩
    refine ⟨fun h1 => ?_, fun h1 => ?_⟩
    · have hil : i < l.length := by simp at h1; omega
      obtain ⟨n, hn, hd, _⟩ := drop_cons hil
      have hn0 := hsz n (List.mem_of_getElem? hn)
      rw [hd, bestQ] at hI
      have hbi : ((bitsP l.length).map enc)[((i : Nat) : Int).toNat]? = some [I ((2 ^ i : Nat) : Int)] := by rw [Int.toNat_natCast]; exact bitsP_row (by omega)
      have hp0 : 1 ≤ 2 ^ i := Nat.one_le_two_pow
      have hpi : 2 ^ i ≤ 4096 := Nat.le_trans (Nat.pow_le_pow_right (by decide) (by omega : i ≤ 12)) (by decide)
      have hdv := tdiv_nat k (2 ^ i)
      have hmd : ((k / 2 ^ i : Nat) : Int).tmod 2 = ((k / 2 ^ i % 2 : Nat) : Int) := tmod_nat' _ 2
      have hdl : k / 2 ^ i ≤ k := Nat.div_le_self _ _
      have hbk : k / 2 ^ i % 2 ≠ 0 → 2 ^ i ≤ k := fun e => bit_le ((bit_iff k i).1 e)
      generalize k / 2 ^ i = d at *
      refine ⟨⟨by omega, by omega⟩, enc n, get_map hn, ⟨by omega, by omega⟩, [I ((2 ^ i : Nat) : Int)], hbi, by omega, ((d : Nat) : Int), wrapTo hdv (by rw [hdv]; omega) (by rw [hdv]; omega), by decide, fun hz => ?_, fun hz => ?_⟩
      · have hz : d % 2 = 0 := by rw [hmd] at hz; exact_mod_cast (eq_of_beq hz : ((d % 2 : Nat) : Int) = 0)
        rw [if_pos hz] at hI
        refine ⟨_, wrap64 (by omega) (by omega), ?_⟩
        exact ⟨_, _, Wk.keep [0, 1, 7, 8, 9, 10, 36, 37, 38] [416], by omega, i + 1, best, by omega, rfl, hb0, hb1, hI, rfl⟩
      · have hz : d % 2 ≠ 0 := by
          intro e
          rw [hmd, e] at hz; cases hz
        rw [if_neg hz] at hI
        have hle := hbk hz
        clear hdv hmd hdl hz hbk
        generalize 2 ^ i = b at *
        have hxb : 0 ≤ (tabP l room k).getD (k - b) 0 ∧ (tabP l room k).getD (k - b) 0 ≤ 1000000 := by
          rw [List.getD_eq_getElem?_getD]
          cases hq : (tabP l room k)[k - b]? with
          | none => exact ⟨Int.le_refl _, by decide⟩
          | some x => exact hbnd k x (List.mem_of_getElem? hq)
        have hrow : ((tabP l room k).map enc)[((k - b : Nat) : Int).toNat]? = some [I ((tabP l room k).getD (k - b) 0)] := by rw [Int.toNat_natCast]; exact tabP_row (by omega)
        have hp1 := put1_bounds (room := room) hxb (show 1 ≤ n ∧ n ≤ 10000 by omega)
        unfold put1 at hI hp1
        generalize (tabP l room k).getD (k - b) 0 = x at *
        have e1 : x.tdiv 10001 = x / 10001 := Int.tdiv_eq_ediv_of_nonneg hxb.1
        have e2 : x.tmod 10001 = x % 10001 := Int.tmod_eq_emod_of_nonneg hxb.1
        refine ⟨⟨by omega, by omega⟩, [I ((b : Nat) : Int)], hbi, ((k - b : Nat) : Int), wrapTo (by omega) (by omega) (by omega), ⟨by omega, by omega⟩, [I x], hrow, by decide, x.tdiv 10001, wrap64 (by omega) (by omega), by decide, ?_⟩
        generalize hY : (if x.tdiv 10001 = 0 ∨ x.tmod 10001 + n > room then (x.tdiv 10001 + 1) * 10001 + 0 + n else x.tdiv 10001 * 10001 + x.tmod 10001 + n) = Y at hI hp1
        by_cases hq : x.tdiv 10001 = 0
        · rw [if_pos (.inl hq)] at hY; subst hY
          refine ⟨[(2, true)], by simp [hq], fun _ => ?_, fun h => (by cases h)⟩
          refine ⟨_, wrap64 (by omega) (by omega), _, wrap64 (by omega) (by omega), _, wrap64 (by omega) (by omega), _, wrap64 (by omega) (by omega), ?_⟩
          by_cases hb : best = 0
          · rw [if_pos (.inl hb)] at hI
            refine ⟨[(2, true)], by simp [hb], fun _ => ?_, fun h => (by cases h)⟩
            refine ⟨_, wrap64 (by omega) (by omega), ?_⟩
            exact ⟨_, _, Wk.keep [0, 1, 7, 8, 9, 10, 36, 37, 38] [416], by omega, i + 1, (x.tdiv 10001 + 1) * 10001 + 0 + n, by omega, rfl, by omega, by omega, hI, rfl⟩
          · refine ⟨[(2, false)], by simp [hb], fun h => ?_, fun h => ?_⟩
            · have h : (x.tdiv 10001 + 1) * 10001 + 0 + n < best := by simpa using h
              rw [if_pos (.inr h)] at hI
              refine ⟨_, wrap64 (by omega) (by omega), ?_⟩
              exact ⟨_, _, Wk.keep [0, 1, 7, 8, 9, 10, 36, 37, 38] [416], by omega, i + 1, (x.tdiv 10001 + 1) * 10001 + 0 + n, by omega, rfl, by omega, by omega, hI, rfl⟩
            · have h : ¬ (x.tdiv 10001 + 1) * 10001 + 0 + n < best := by simpa using h
              rw [if_neg (by rintro (h' | h'); exact hb h'; exact h h')] at hI
              refine ⟨_, wrap64 (by omega) (by omega), ?_⟩
              exact ⟨_, _, Wk.keep [0, 1, 7, 8, 9, 10, 36, 37, 38] [416], by omega, i + 1, best, by omega, rfl, by omega, by omega, hI, rfl⟩
        · refine ⟨[(2, false)], by simp [hq], x.tmod 10001 + n, wrap64 (by omega) (by omega), fun h => ?_, fun h => ?_⟩
          · have h : x.tmod 10001 + n > room := by simpa using h
            rw [if_pos (.inr h)] at hY; subst hY
            refine ⟨_, wrap64 (by omega) (by omega), _, wrap64 (by omega) (by omega), _, wrap64 (by omega) (by omega), _, wrap64 (by omega) (by omega), ?_⟩
            by_cases hb : best = 0
            · rw [if_pos (.inl hb)] at hI
              refine ⟨[(2, true)], by simp [hb], fun _ => ?_, fun h => (by cases h)⟩
              refine ⟨_, wrap64 (by omega) (by omega), ?_⟩
              exact ⟨_, _, Wk.keep [0, 1, 7, 8, 9, 10, 36, 37, 38] [416], by omega, i + 1, (x.tdiv 10001 + 1) * 10001 + 0 + n, by omega, rfl, by omega, by omega, hI, rfl⟩
            · refine ⟨[(2, false)], by simp [hb], fun h => ?_, fun h => ?_⟩
              · have h : (x.tdiv 10001 + 1) * 10001 + 0 + n < best := by simpa using h
                rw [if_pos (.inr h)] at hI
                refine ⟨_, wrap64 (by omega) (by omega), ?_⟩
                exact ⟨_, _, Wk.keep [0, 1, 7, 8, 9, 10, 36, 37, 38] [416], by omega, i + 1, (x.tdiv 10001 + 1) * 10001 + 0 + n, by omega, rfl, by omega, by omega, hI, rfl⟩
              · have h : ¬ (x.tdiv 10001 + 1) * 10001 + 0 + n < best := by simpa using h
                rw [if_neg (by rintro (h' | h'); exact hb h'; exact h h')] at hI
                refine ⟨_, wrap64 (by omega) (by omega), ?_⟩
                exact ⟨_, _, Wk.keep [0, 1, 7, 8, 9, 10, 36, 37, 38] [416], by omega, i + 1, best, by omega, rfl, by omega, by omega, hI, rfl⟩
          · have h : ¬ x.tmod 10001 + n > room := by simpa using h
            rw [if_neg (by rintro (h' | h'); exact hq h'; exact h h')] at hY; subst hY
            refine ⟨_, wrap64 (by omega) (by omega), _, wrap64 (by omega) (by omega), _, wrap64 (by omega) (by omega), ?_⟩
            by_cases hb : best = 0
            · rw [if_pos (.inl hb)] at hI
              refine ⟨[(2, true)], by simp [hb], fun _ => ?_, fun h => (by cases h)⟩
              refine ⟨_, wrap64 (by omega) (by omega), ?_⟩
              exact ⟨_, _, Wk.keep [0, 1, 7, 8, 9, 10, 36, 37, 38] [416], by omega, i + 1, x.tdiv 10001 * 10001 + x.tmod 10001 + n, by omega, rfl, by omega, by omega, hI, rfl⟩
            · refine ⟨[(2, false)], by simp [hb], fun h => ?_, fun h => ?_⟩
              · have h : x.tdiv 10001 * 10001 + x.tmod 10001 + n < best := by simpa using h
                rw [if_pos (.inr h)] at hI
                refine ⟨_, wrap64 (by omega) (by omega), ?_⟩
                exact ⟨_, _, Wk.keep [0, 1, 7, 8, 9, 10, 36, 37, 38] [416], by omega, i + 1, x.tdiv 10001 * 10001 + x.tmod 10001 + n, by omega, rfl, by omega, by omega, hI, rfl⟩
              · have h : ¬ x.tdiv 10001 * 10001 + x.tmod 10001 + n < best := by simpa using h
                rw [if_neg (by rintro (h' | h'); exact hb h'; exact h h')] at hI
                refine ⟨_, wrap64 (by omega) (by omega), ?_⟩
                exact ⟨_, _, Wk.keep [0, 1, 7, 8, 9, 10, 36, 37, 38] [416], by omega, i + 1, best, by omega, rfl, by omega, by omega, hI, rfl⟩
    · have hil : i = l.length := by simp at h1; omega
      subst hil
      rw [List.drop_length, bestQ] at hI
      refine ⟨⟨by show (k + 1) * 8 ≤ _; omega, by omega⟩, ((k + 1 : Nat) : Int), wrapTo (by omega) (by omega) (by omega), ?_⟩
      refine ⟨_, _, Wk.keep [0, 1, 7, 8, 9] [416], by omega, k + 1, by omega, by omega, rfl, ?_⟩
      rw [tabP, List.map_append]
      show Cfg.mk _ [(416, (⟨3, 1, .pure, ((tabP l room k).map enc).take k ++ _⟩ : OBlk))] = _
      rw [List.take_of_length_le (by rw [List.length_map, tabP_len]; exact Nat.le_refl _), hI]; rfl
  · have hkp : k = P := by simp at hc; omega
    subst hkp
    exact ⟨_, _, rfl, ⟨_, rfl, rfl, by rw [List.length_map, tabP_len], .inl ⟨rfl, by show AV.fsl true 3 1 (tabP l room k).length _ = AV.fsl true 3 1 k _; rw [tabP_len]⟩⟩, rfl, rfl, trivial⟩
end Go.Abs.L39
