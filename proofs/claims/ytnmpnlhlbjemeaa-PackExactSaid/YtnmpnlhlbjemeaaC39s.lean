import Derived.Test.YtnmpnlhlbjemeaaC39r
namespace Go.Abs.L39
open Go Go.Abs Go.Proofs
set_option linter.unusedVariables false
set_option maxRecDepth 20000
def fewE (l : List Int) (room : Int) : Int := if chkE l room ≠ 0 then 1 else if l.length > 12 then 8 else 0
theorem c35 (l : List Int) (hl : l.length ≤ 9223372036854775807) (room : Int) : Fn Try.prog 35 [A l, I room] (I (fewE l room)) := by
  refine mk35 rfl ⟨_, c31 l hl room, fun h => ?_, fun h => ?_⟩
  · have h : chkE l room ≠ 0 := by simpa using h
    rw [fewE, if_pos h]; exact ⟨rfl, rfl, rfl⟩
  · have h : ¬ chkE l room ≠ 0 := by simpa using h
    rw [fewE, if_neg h]
    refine ⟨fun h => ?_, fun h => ?_⟩
    · have h : l.length > 12 := by simp at h; omega
      rw [if_pos h]; exact ⟨rfl, rfl, rfl⟩
    · have h : ¬ l.length > 12 := by simp at h; omega
      rw [if_neg h]; exact ⟨rfl, rfl, rfl⟩
theorem c37 (l : List Int) (hl : l.length ≤ 9223372036854775807) (room : Int) : Fn Try.prog 37 [A l, I room] (I (fewE l room)) := by
  refine mk37 rfl ⟨_, c32 l hl room, fun h => ?_, fun h => ?_⟩
  · have h : chkE l room ≠ 0 := by simpa using h
    rw [fewE, if_pos h]; exact ⟨rfl, rfl, rfl⟩
  · have h : ¬ chkE l room ≠ 0 := by simpa using h
    rw [fewE, if_neg h]
    refine ⟨fun h => ?_, fun h => ?_⟩
    · have h : l.length > 12 := by simp at h; omega
      rw [if_pos h]; exact ⟨rfl, rfl, rfl⟩
    · have h : ¬ l.length > 12 := by simp at h; omega
      rw [if_neg h]; exact ⟨rfl, rfl, rfl⟩
def tabE (l : List Int) (room : Int) : List Int := tabP l room (2 ^ l.length)
theorem few_ok {l : List Int} {room : Int} (h : fewE l room = 0) : chkE l room = 0 ∧ 1 ≤ room ∧ room ≤ 10000 ∧ l.length ≤ 12 ∧ ∀ n ∈ l, 1 ≤ n ∧ n ≤ room := by
  unfold fewE at h
  split at h
  · cases h
  · split at h
    · cases h
    · rename_i h1 h2
      have h1 : chkE l room = 0 := by omega
      obtain ⟨a, b, c, d⟩ := chk_ok h1
      exact ⟨h1, a, b, by omega, d⟩
/-- what Table answers -/
def tabR (l : List Int) (room : Int) : AV := .tup [if fewE l room ≠ 0 then .nilsl else fA (tabE l room), I (fewE l room)]
theorem c22 (l : List Int) (hl : l.length ≤ 9223372036854775807) (room : Int) : Fn Try.prog 22 [A l, I room] (tabR l room) := by
  refine mk22 rfl ⟨_, c35 l hl room, fun h => ?_, fun h => ?_⟩
  · have h : fewE l room ≠ 0 := by simpa using h
    rw [tabR, if_pos h]; exact ⟨_, _, rfl, .inl rfl, rfl, rfl, trivial⟩
  · have h : fewE l room = 0 := by simpa using h
    rw [tabR, if_neg (by omega), h]
    obtain ⟨h1, h2, h3, h4, h5⟩ := few_ok h
    refine ⟨_, c36 l room h4 (fun n hn => by have := h5 n hn; omega) h3, false, ?_⟩
    exact ⟨_, _, rfl, ⟨_, rfl, rfl, by rw [List.length_map, tabP_len], .inl ⟨rfl, rfl⟩⟩, rfl, rfl, trivial⟩
def leastE (l : List Int) (room : Int) : Nat := if fewE l room ≠ 0 then 0 else ((tabE l room).getD (2 ^ l.length - 1) 0).toNat / 10001
theorem c20 (l : List Int) (hl : l.length ≤ 9223372036854775807) (room : Int) : Fn Try.prog 20 [A l, I room] (.tup [I (leastE l room), I (fewE l room)]) := by
  refine mk20 rfl ⟨_, c22 l hl room, ?_⟩
  rw [tabR]
  by_cases h : fewE l room ≠ 0
  · rw [if_pos h]
    refine ⟨fun h => ?_, fun h => ?_⟩
    · rw [leastE, if_pos ‹_›]; exact ⟨_, _, rfl, ⟨rfl, rfl⟩, rfl, rfl, trivial⟩
    · simp at h; omega
  · rw [if_neg h]
    refine ⟨true, fun h => ?_, fun h => ?_⟩
    · simp at h; omega
    · have h0 : fewE l room = 0 := by simpa using h
      obtain ⟨h1, h2, h3, h4, h5⟩ := few_ok h0
      have hp : 1 ≤ 2 ^ l.length := Nat.one_le_two_pow
      have hp2 : 2 ^ l.length ≤ 4096 := Nat.pow_le_pow_right (by decide) h4
      have hlen : (tabE l room).length = 2 ^ l.length := tabP_len _ _ _
      have hb := tabP_bounds (room := room) (show l.length ≤ 60 by omega) (fun n hn => by have := h5 n hn; omega) (2 ^ l.length)
      rw [leastE, if_neg (by omega), h0]
      have hb' : 0 ≤ (tabE l room).getD (2 ^ l.length - 1) 0 ∧ (tabE l room).getD (2 ^ l.length - 1) 0 ≤ 1000000 := by
        rw [List.getD_eq_getElem?_getD]
        cases hq : (tabE l room)[2 ^ l.length - 1]? with
        | none => exact ⟨Int.le_refl _, by decide⟩
        | some x => exact hb x (List.mem_of_getElem? hq)
      have hrow : ((tabE l room).map enc)[(((2 ^ l.length - 1 : Nat)) : Int).toNat]? = some [I ((tabE l room).getD (2 ^ l.length - 1) 0)] := by
        rw [Int.toNat_natCast, List.getElem?_map, List.getD_eq_getElem?_getD, List.getElem?_eq_getElem (by omega)]; rfl
      have hn : ((tabE l room).length : Int) - 1 = ((2 ^ l.length - 1 : Nat) : Int) := by rw [hlen]; omega
      generalize (tabE l room).getD (2 ^ l.length - 1) 0 = x at *
      have hx : x.tdiv 10001 = ((x.toNat / 10001 : Nat) : Int) := by rw [Int.tdiv_eq_ediv_of_nonneg hb'.1]; omega
      refine ⟨_, wrapTo hn (by omega) (by omega), ⟨by omega, by show _ < ((tabE l room).length : Int); omega⟩, _, hrow, by decide, _, wrapTo hx (by omega) (by omega), ?_⟩
      exact ⟨_, _, rfl, ⟨rfl, rfl⟩, rfl, rfl, trivial⟩
end Go.Abs.L39
