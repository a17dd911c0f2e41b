import Derived.Test.YtnmpnlhlbjemeaaC2
import Derived.Test.YtnmpnlhlbjemeaaL39e
namespace Go.Abs.L39
open Go Go.Abs Go.Proofs
set_option linter.unusedVariables false
set_option maxRecDepth 20000
theorem c21 (l : List Int) (hl : l.length ≤ 9223372036854775807) (room : Int) : Fn Try.prog 21 [A l, I room] (.tup [I (leastE l room), I (fewE l room)]) := by
  refine mk21 rfl ⟨_, c23 l hl room, ?_⟩
  rw [tabR]
  by_cases h : fewE l room ≠ 0
  · rw [if_pos h]
    refine ⟨fun h => ?_, fun h => ?_⟩
    · rw [leastE, if_pos ‹_›]; exact ⟨_, _, rfl, ⟨rfl, rfl⟩, rfl, rfl, trivial⟩
    · simp at h; omega
  · rw [if_neg h]
    refine ⟨true, fun h => ?_, fun h => ?_⟩
    · simp at h; omega
    · have h0 : fewE l room = 0 := by simpa using h
      obtain ⟨h1, h2, h3, h4, h5⟩ := few_ok h0
      have hp : 1 ≤ 2 ^ l.length := Nat.one_le_two_pow
      have hp2 : 2 ^ l.length ≤ 4096 := Nat.pow_le_pow_right (by decide) h4
      have hlen : (tabE l room).length = 2 ^ l.length := tabP_len _ _ _
      have hb := tabP_bounds (room := room) (show l.length ≤ 60 by omega) (fun n hn => by have := h5 n hn; omega) (2 ^ l.length)
      rw [leastE, if_neg (by omega), h0]
      have hb' : 0 ≤ (tabE l room).getD (2 ^ l.length - 1) 0 ∧ (tabE l room).getD (2 ^ l.length - 1) 0 ≤ 1000000 := by
        rw [List.getD_eq_getElem?_getD]
        cases hq : (tabE l room)[2 ^ l.length - 1]? with
        | none => exact ⟨Int.le_refl _, by decide⟩
        | some x => exact hb x (List.mem_of_getElem? hq)
      have hrow : ((tabE l room).map enc)[(((2 ^ l.length - 1 : Nat)) : Int).toNat]? = some [I ((tabE l room).getD (2 ^ l.length - 1) 0)] := by
        rw [Int.toNat_natCast, List.getElem?_map, List.getD_eq_getElem?_getD, List.getElem?_eq_getElem (by omega)]; rfl
      have hn : ((tabE l room).length : Int) - 1 = ((2 ^ l.length - 1 : Nat) : Int) := by rw [hlen]; omega
      generalize (tabE l room).getD (2 ^ l.length - 1) 0 = x at *
      have hx : x.tdiv 10001 = ((x.toNat / 10001 : Nat) : Int) := by rw [Int.tdiv_eq_ediv_of_nonneg hb'.1]; omega
      refine ⟨_, wrapTo hn (by omega) (by omega), ⟨by omega, by show _ < ((tabE l room).length : Int); omega⟩, _, hrow, by decide, _, wrapTo hx (by omega) (by omega), ?_⟩
      exact ⟨_, _, rfl, ⟨rfl, rfl⟩, rfl, rfl, trivial⟩
theorem k23n {l : List Int} (hl : l.length ≤ 9223372036854775807) {room : Int} (hf : fewE l room ≠ 0) : Fn Try.prog 23 [A l, I room] (.tup [.nilsl, I (fewE l room)]) := by
  have := c23 l hl room; rwa [tabR, if_pos hf] at this
theorem k23s {l : List Int} (hl : l.length ≤ 9223372036854775807) {room : Int} (hf : fewE l room = 0) : Fn Try.prog 23 [A l, I room] (.tup [fA (tabE l room), I 0]) := by
  have := c23 l hl room; rwa [tabR, if_neg (by omega), hf] at this
def verE (l : List Int) (room : Int) (m : List Int) : Int := if fewE l room ≠ 0 then fewE l room else if tabE l room = m then 0 else 14
theorem c25 (l : List Int) (hl : l.length ≤ 9223372036854775807) (room : Int) (m : List Int) : Fn Try.prog 25 [A l, I room, A m] (I (verE l room m)) := by
  by_cases hf : fewE l room ≠ 0
  · refine mk25 rfl ⟨_, k22n hl hf, fun h => ?_, fun h => ?_⟩
    · rw [verE, if_pos hf]; exact ⟨rfl, rfl, rfl⟩
    · simp at h; omega
  have hf : fewE l room = 0 := by omega
  have hlen : (tabE l room).length ≤ 9223372036854775807 := by
    obtain ⟨_, _, _, h4, _⟩ := few_ok hf
    have hp2 : 2 ^ l.length ≤ 4096 := Nat.pow_le_pow_right (by decide) h4
    have : (tabE l room).length = 2 ^ l.length := tabP_len _ _ _
    omega
  refine mk25 rfl ⟨_, k22s hl hf, true, fun h => (by cases h), fun _ => ⟨_, c24 (tabE l room) m hlen, fun h => ?_, fun h => ?_⟩⟩
  · have h : tabE l room ≠ m := by simpa using h
    rw [verE, if_neg (by omega), if_neg h]; exact ⟨rfl, rfl, rfl⟩
  · have h : tabE l room = m := by simpa using h
    rw [verE, if_neg (by omega), if_pos h]; exact ⟨rfl, rfl, rfl⟩
theorem c25n (l : List Int) (hl : l.length ≤ 9223372036854775807) (room : Int) (hf : fewE l room ≠ 0) : Fn Try.prog 25 [A l, I room, .nilsl] (I (fewE l room)) := by
  refine mk25 rfl ⟨_, k22n hl hf, fun h => ?_, fun h => ?_⟩
  · exact ⟨rfl, rfl, rfl⟩
  · simp at h; omega
theorem c24n : Fn Try.prog 24 [.nilsl, .nilsl] (.bool true) := by
  refine mk24 rfl ⟨fun h => (by cases h), fun _ => ?_⟩
  refine ⟨fun q c => q = 0 ∧ c = ⟨[(0, .nilsl), (1, .nilsl), (12, I 0), (13, I 0)], []⟩, ⟨_, _, Wk.keep [0, 1, 12, 13] [], rfl, rfl⟩, ?_⟩
  rintro q c ⟨rfl, rfl⟩
  exact ⟨fun h => (by cases h), fun _ => ⟨rfl, rfl, rfl⟩⟩
theorem c26 (l : List Int) (hl : l.length ≤ 9223372036854775807) (room : Int) (m : List Int) (hm : m.length ≤ 9223372036854775807) : Fn Try.prog 26 [A l, I room, A m] (I (verE l room m)) := by
  by_cases hf : fewE l room ≠ 0
  · refine mk26 rfl ⟨_, k23n hl hf, fun h => ?_, fun h => ?_⟩
    · rw [verE, if_pos hf]; exact ⟨rfl, rfl, rfl⟩
    · simp at h; omega
  have hf : fewE l room = 0 := by omega
  have hlen : (tabE l room).length ≤ 9223372036854775807 := by
    obtain ⟨_, _, _, h4, _⟩ := few_ok hf
    have hp2 : 2 ^ l.length ≤ 4096 := Nat.pow_le_pow_right (by decide) h4
    have : (tabE l room).length = 2 ^ l.length := tabP_len _ _ _
    omega
  have hv : verE l room m = if tabE l room = m then 0 else 14 := by rw [verE, if_neg (by omega)]
  rw [hv]
  refine mk26 rfl ⟨_, k23s hl hf, true, fun h => (by cases h), fun _ => ?_⟩
  generalize tabE l room = t at *
  refine ⟨fun h => ?_, fun h => ?_⟩
  · have h : t.length ≠ m.length := by simp at h; omega
    rw [if_neg (by rintro rfl; exact h rfl)]; exact ⟨rfl, rfl, rfl⟩
  · have h : t.length = m.length := by simp at h; omega
    refine ⟨fun q c => ∃ i : Nat, i ≤ t.length ∧ q = t.length - i ∧ (t.drop i == m.drop i) = (t == m) ∧
      c = ⟨[(2, A m), (7, A t), (25, I t.length), (26, I i)], []⟩, ⟨_, _, Wk.keep [2, 7, 25, 26] [], 0, by omega, rfl, by simp, rfl⟩, ?_⟩
    rintro q c ⟨i, hi, rfl, hI, rfl⟩
    refine ⟨fun h5 => ?_, fun h5 => ?_⟩
    · simp at h5
      obtain ⟨n, hn, hd, _⟩ := drop_cons h5
      obtain ⟨n', hn', hd', _⟩ := drop_cons (l := m) (i := i) (by omega)
      rw [beq_drop hn hn' hd hd'] at hI
      refine ⟨⟨by omega, by omega⟩, enc n, get_map hn, ⟨by omega, by omega⟩, enc n', get_map hn', fun hz => ?_, fun hz => ?_⟩
      · have hz : (n == n') = false := by
          have : ((n != n')) = true := hz
          simpa [bne] using this
        rw [hz, Bool.false_and] at hI
        rw [if_neg (by rintro rfl; simp at hI)]; exact ⟨rfl, rfl, rfl⟩
      · have hz : (n == n') = true := by
          have : ((n != n')) = false := hz
          simpa [bne] using this
        rw [hz, Bool.true_and] at hI
        refine ⟨_, wrap64 (by omega) (by omega), ?_⟩
        exact ⟨_, _, Wk.keep [2, 7, 25, 26] [], by omega, i + 1, by omega, rfl, hI, rfl⟩
    · simp at h5
      have hil : i = t.length := by omega
      subst hil
      have : (t == m) = true := by rw [← hI, List.drop_length, h, List.drop_length]; rfl
      rw [if_pos (by simpa using this)]; exact ⟨rfl, rfl, rfl⟩
end Go.Abs.L39
