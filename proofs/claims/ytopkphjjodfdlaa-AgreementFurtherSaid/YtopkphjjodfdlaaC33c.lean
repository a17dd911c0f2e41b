import Derived.Test.YtopkphjjodfdlaaC33b
namespace Go.Abs.L33
open Go Go.Abs Go.Proofs
set_option linter.unusedVariables false
set_option maxRecDepth 20000
def firstS (id : Int) : List Agr → Bool
  | [] => false
  | a :: r => if (a.id == id) = true then a.strict else firstS id r
def rstrictE (l : List Agr) (id : Int) : Bool := if checkE l ≠ 0 then false else firstS id l
theorem c18 (l : List Agr) (hl : l.length ≤ 9223372036854775807) (id : Int) : Fn Try.prog 18 [A l, I id] (.bool (rstrictE l id)) := by
  refine mk18 rfl ⟨_, c16 l, fun h => ?_, fun h => ?_⟩
  · simp at h
    exact ⟨rfl, rfl, by rw [rstrictE, if_pos h]; rfl⟩
  · simp at h
    rw [rstrictE, if_neg (by simp [h])]
    refine ⟨fun n c => ∃ i : Nat, i ≤ l.length ∧ n = l.length - i ∧ c = ⟨[(0, A l), (1, I id), (4, .bool false), (10, A l), (11, I l.length), (12, I i)], []⟩ ∧ firstS id (l.drop i) = firstS id l, ⟨_, _, Wk.keep [0, 1, 4, 10, 11, 12] [], 0, by omega, rfl, rfl, by simp⟩, ?_⟩
    rintro n c ⟨i, hi, rfl, rfl, hI⟩
    refine ⟨fun h => ?_, fun h => ?_⟩
    · simp at h
      obtain ⟨a, ha, hd, _⟩ := drop_cons h
      rw [hd, firstS] at hI
      refine ⟨⟨by omega, by omega⟩, encA a, by simp [ha], fun hf => ?_, fun hf => ?_⟩
      · rw [if_pos hf] at hI
        exact ⟨rfl, rfl, by rw [← hI]; rfl⟩
      · rw [if_neg (by simp [hf])] at hI
        refine ⟨_, wrap64 (by omega) (by omega), ?_⟩
        exact ⟨_, _, Wk.keep [0, 1, 4, 10, 11, 12] [], by omega, i + 1, by omega, rfl, rfl, hI⟩
    · simp at h
      have : i = l.length := by omega
      subst this
      simp [firstS] at hI
      exact ⟨rfl, rfl, by rw [← hI]; rfl⟩
def stepF (x d : Int) : Int → List Agr → Int
  | out, [] => out
  | out, a :: r => stepF x d (if closesB a x d = true then maxI out (endsE a) else out) r
theorem c46 (l : List Agr) (hl : l.length ≤ 9223372036854775807) (x d : Int) : Fn Try.prog 46 [A l, I x, I d] (I (stepF x d d l)) := by
  refine mk46 rfl ?_
  refine ⟨fun n c => ∃ (i : Nat) (o : Int), i ≤ l.length ∧ n = l.length - i ∧ c = ⟨[(1, I x), (2, I d), (6, I 0), (7, I o), (11, A l), (12, I l.length), (13, I i)], []⟩ ∧ stepF x d o (l.drop i) = stepF x d d l, ⟨_, _, Wk.keep [1, 2, 6, 7, 11, 12, 13] [], 0, _, by omega, rfl, rfl, by simp⟩, ?_⟩
  rintro n c ⟨i, o, hi, rfl, rfl, hI⟩
  refine ⟨fun h => ?_, fun h => ?_⟩
  · simp at h
    obtain ⟨a, ha, hd, _⟩ := drop_cons h
    rw [hd, stepF] at hI
    refine ⟨⟨by omega, by omega⟩, encA a, by simp [ha], _, c12 a x d, fun hf => ?_, fun hf => ?_⟩
    · rw [if_pos hf] at hI
      refine ⟨_, c41 a, _, wrap64 (by omega) (by omega), ?_⟩
      exact ⟨_, _, Wk.keep [1, 2, 6, 7, 11, 12, 13] [], by omega, i + 1, _, by omega, rfl, rfl, hI⟩
    · rw [if_neg (by simp [hf])] at hI
      refine ⟨_, wrap64 (by omega) (by omega), ?_⟩
      exact ⟨_, _, Wk.keep [1, 2, 6, 7, 11, 12, 13] [], by omega, i + 1, _, by omega, rfl, rfl, hI⟩
  · simp at h
    have : i = l.length := by omega
    subst this
    simp [stepF] at hI
    exact ⟨rfl, rfl, by rw [← hI]; rfl⟩
/-- r is the first day from d on, on which none closes x -/
structure IsOpen (l : List Agr) (x d r : Int) : Prop where
  le : d ≤ r
  op : ∀ a ∈ l, closesB a x r = false
  cl : ∀ k, d ≤ k → k < r → ∃ a ∈ l, closesB a x k = true
theorem closes_iff {a : Agr} {x d : Int} : closesB a x d = true ↔ formedB a = true ∧ a.acc = x ∧ a.lo ≤ d ∧ d < a.hi ∧ d < a.til := by
  simp [closesB, and_assoc]
theorem formed_iff {a : Agr} : formedB a = true ↔ 1 ≤ a.id ∧ a.id ≤ 1073741824 ∧ 1 ≤ a.acc ∧ a.acc ≤ 1073741824 ∧ 0 ≤ a.til ∧ a.til ≤ 1048576 ∧ 0 ≤ a.lo ∧ a.lo < a.hi ∧ a.hi ≤ 1048576 := by
  simp [formedB, and_assoc]
theorem ends_le (a : Agr) : endsE a ≤ a.til ∧ endsE a ≤ a.hi ∧ (endsE a = a.til ∨ endsE a = a.hi) := by
  unfold endsE minI; split <;> omega
theorem stepF_ge (x d : Int) : ∀ (l : List Agr) (o : Int), o ≤ stepF x d o l
  | [], o => Int.le_refl _
  | a :: r, o => by
    refine Int.le_trans ?_ (stepF_ge x d r _)
    split
    · unfold maxI; split <;> omega
    · exact Int.le_refl _
theorem stepF_le {x d r : Int} : ∀ {l : List Agr} {o : Int}, o ≤ r → (∀ a ∈ l, closesB a x d = true → endsE a ≤ r) → stepF x d o l ≤ r
  | [], o, h, _ => h
  | a :: r', o, h, hl => by
    refine stepF_le (l := r') ?_ fun b hb => hl b (by simp [hb])
    split
    · rename_i hc
      have := hl a (by simp) hc
      unfold maxI; split <;> omega
    · exact h
theorem stepF_mem {x d : Int} : ∀ {l : List Agr} {o : Int} {a : Agr}, a ∈ l → closesB a x d = true → endsE a ≤ stepF x d o l
  | b :: r, o, a, h, hc => by
    rcases List.mem_cons.1 h with rfl | h
    · refine Int.le_trans ?_ (stepF_ge x d r _)
      rw [if_pos hc]
      unfold maxI; split <;> omega
    · rw [stepF]; exact stepF_mem (l := r) h hc
theorem IsOpen.step_le {l : List Agr} {x d r k : Int} (h : IsOpen l x d r) (hk : d ≤ k) (hr : k ≤ r) : stepF x k k l ≤ r := by
  refine stepF_le hr fun a ha hc => ?_
  have h1 := h.op a ha
  rw [closes_iff] at hc
  have := ends_le a
  by_cases hlt : r < endsE a
  · have : closesB a x r = true := by rw [closes_iff]; refine ⟨hc.1, hc.2.1, ?_, ?_, ?_⟩ <;> omega
    rw [this] at h1; cases h1
  · omega
theorem IsOpen.step_eq {l : List Agr} {x d r k : Int} (h : IsOpen l x d r) (hk : d ≤ k) (hr : k ≤ r) (he : stepF x k k l = k) : k = r := by
  by_cases hlt : k < r
  · obtain ⟨a, ha, hc⟩ := h.cl k hk hlt
    have h1 := stepF_mem (o := k) ha hc
    rw [closes_iff] at hc
    have := ends_le a
    omega
  · omega
theorem c39 (l : List Agr) (hl : l.length ≤ 9223372036854775807) (x d r : Int) (h : IsOpen l x d r) : Fn Try.prog 39 [A l, I x, I d] (I r) := by
  refine mk39 rfl ⟨_, c46 l hl x d, ?_⟩
  refine ⟨fun n c => ∃ k : Int, d ≤ k ∧ k ≤ r ∧ n = (r - k).toNat ∧ c = ⟨[(0, A l), (1, I x), (2, I k), (6, I 0), (7, .func 46 []), (8, I (stepF x k k l))], []⟩, ⟨_, _, Wk.keep [0, 1, 2, 6, 7, 8] [], d, by omega, h.le, rfl, rfl⟩, ?_⟩
  rintro n c ⟨k, hk, hr, rfl, rfl⟩
  refine ⟨fun hf => ?_, fun hf => ?_⟩
  · simp at hf
    have h1 := h.step_le hk hr
    have h2 := stepF_ge x k l k
    refine ⟨_, c46 l hl x _, ?_⟩
    exact ⟨_, _, Wk.keep [0, 1, 2, 6, 7, 8] [], by omega, stepF x k k l, by omega, h1, rfl, rfl⟩
  · simp at hf
    have := h.step_eq hk hr hf
    subst this
    exact ⟨rfl, rfl, rfl⟩
end Go.Abs.L33
