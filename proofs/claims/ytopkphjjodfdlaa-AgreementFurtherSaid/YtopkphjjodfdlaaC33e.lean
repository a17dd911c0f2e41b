import Derived.Test.YtopkphjjodfdlaaC33d
namespace Go.Abs.L33
open Go Go.Abs Go.Proofs
set_option linter.unusedVariables false
set_option maxRecDepth 20000
def openF (l : List Agr) (x : Int) : Nat → Int → Int
  | 0, d => d
  | n + 1, d => if (l.any (closesB · x d)) = true then openF l x n (d + 1) else d
def openDay (l : List Agr) (x d : Int) : Int := openF l x (1048576 - d).toNat d
theorem openF_spec {l : List Agr} {x : Int} : ∀ {n : Nat} {d : Int}, 1048576 - d ≤ n → IsOpen l x d (openF l x n d) ∧ (d ≤ 1048576 → openF l x n d ≤ 1048576)
  | 0, d, h => by
    refine ⟨⟨Int.le_refl _, fun a ha => ?_, fun k h1 h2 => ?_⟩, fun h => h⟩
    · cases hc : closesB a x d with
      | false => exact hc
      | true =>
        rw [closes_iff] at hc
        have := formed_iff.1 hc.1
        omega
    · simp only [openF] at h2; omega
  | n + 1, d, h => by
    simp only [openF]
    split
    · rename_i hc
      obtain ⟨a, ha, hc⟩ := List.any_eq_true.1 hc
      obtain ⟨ih, hb⟩ := openF_spec (l := l) (x := x) (n := n) (d := d + 1) (by omega)
      refine ⟨⟨by have := ih.le; omega, ih.op, fun k h1 h2 => ?_⟩, fun _ => hb ?_⟩
      · by_cases e : k = d
        · subst e; exact ⟨a, ha, hc⟩
        · exact ih.cl k (by omega) h2
      · rw [closes_iff] at hc
        have := formed_iff.1 hc.1
        omega
    · rename_i hc
      refine ⟨⟨Int.le_refl _, fun a ha => ?_, fun k h1 h2 => by omega⟩, fun h => h⟩
      cases hca : closesB a x d with
      | false => rfl
      | true => exact absurd (List.any_eq_true.2 ⟨a, ha, hca⟩) hc
theorem openDay_spec (l : List Agr) (x d : Int) : IsOpen l x d (openDay l x d) := (openF_spec (by omega)).1
theorem openDay_le (l : List Agr) (x : Int) {d : Int} (h : d ≤ 1048576) : openDay l x d ≤ 1048576 := (openF_spec (by omega)).2 h
theorem IsOpen.uniq {l : List Agr} {x d r s : Int} (h : IsOpen l x d r) (k : IsOpen l x d s) : r = s := by
  have key : ∀ {r s}, IsOpen l x d r → IsOpen l x d s → ¬ r < s := by
    intro r s h k hlt
    obtain ⟨a, ha, hc⟩ := k.cl r h.le hlt
    rw [h.op a ha] at hc; cases hc
  have := key h k
  have := key k h
  omega
def badO (x d : Int) : Bool := decide (x < 1) || decide (x > 1073741824) || decide (d < 0) || decide (d > 1048575)
def opensR (l : List Agr) (x d : Int) : Int × Int :=
  if checkE l ≠ 0 then (0, 1) else if badO x d = true then (0, 2) else if openDay l x d = 1048576 then (0, 23) else (openDay l x d, 0)
theorem c19 (l : List Agr) (x d : Int) : Fn Try.prog 19 [A l, I x, I d] (.tup [I (opensR l x d).1, I (opensR l x d).2]) := by
  refine mk19 rfl ⟨_, c14 l, fun h => ?_, fun h => ?_⟩
  · simp at h
    rw [opensR, if_pos h]
    exact ⟨_, _, rfl, ⟨rfl, rfl⟩, rfl, rfl, trivial⟩
  · simp at h
    have hl := check_len h
    rw [opensR, if_neg (by simp [h])]
    refine ⟨[], fun h => ?_, fun h => ?_⟩
    · have h' : badO x d = true := h
      rw [if_pos h']
      exact ⟨_, _, rfl, ⟨rfl, rfl⟩, rfl, rfl, trivial⟩
    · have h' : badO x d = false := h
      rw [if_neg (by rw [h']; simp)]
      refine ⟨_, c39 l (by omega) x d _ (openDay_spec l x d), fun h => ?_, fun h => ?_⟩
      · simp at h
        rw [if_pos h]
        exact ⟨_, _, rfl, ⟨rfl, rfl⟩, rfl, rfl, trivial⟩
      · simp at h
        rw [if_neg h]
        exact ⟨_, _, rfl, ⟨rfl, rfl⟩, rfl, rfl, trivial⟩
theorem grounds_nil {l : List Agr} {x k : Int} (hc : checkE l = 0) : groundsE l x k = [] ↔ ∀ a ∈ l, closesB a x k = false := by
  rw [groundsE, if_neg (by simp [hc])]
  simp
theorem grounds_cons {l : List Agr} {x k : Int} {g : Gr} {r : List Gr} (h : groundsE l x k = g :: r) : ∃ a ∈ l, closesB a x k = true ∧ g = groundE a := by
  unfold groundsE at h
  split at h
  · cases h
  · have : g ∈ (l.filter (closesB · x k)).map groundE := by rw [h]; simp
    simp only [List.mem_map, List.mem_filter] at this
    obtain ⟨a, ⟨h1, h2⟩, rfl⟩ := this
    exact ⟨a, h1, h2, rfl⟩
theorem c20 (l : List Agr) (x d : Int) : Fn Try.prog 20 [A l, I x, I d] (.tup [I (opensR l x d).1, I (opensR l x d).2]) := by
  refine mk20 rfl ⟨_, c16 l, fun h => ?_, fun h => ?_⟩
  · simp at h
    rw [opensR, if_pos h]
    exact ⟨_, _, rfl, ⟨rfl, rfl⟩, rfl, rfl, trivial⟩
  · simp at h
    have hchk := h
    rw [opensR, if_neg (by simp [h])]
    refine ⟨[], fun h => ?_, fun h => ?_⟩
    · have h' : badO x d = true := h
      rw [if_pos h']
      exact ⟨_, _, rfl, ⟨rfl, rfl⟩, rfl, rfl, trivial⟩
    · have h' : badO x d = false := h
      rw [if_neg (by rw [h']; simp)]
      have hO := openDay_spec l x d
      have hd : d ≤ 1048575 := by simp [badO] at h'; omega
      have hle := openDay_le l x (d := d) (by omega)
      generalize openDay l x d = r at hO hle
      refine ⟨fun n c => ∃ k : Int, d ≤ k ∧ k ≤ r ∧ n = (r - k).toNat ∧ c = ⟨[(0, A l), (1, I x), (2, I k), (6, I 0), (7, I 0)], []⟩, ⟨_, _, Wk.keep [0, 1, 2, 6, 7] [], d, by omega, hO.le, rfl, rfl⟩, ?_⟩
      rintro n c ⟨k, hk, hr, rfl, rfl⟩
      refine ⟨fun hf => ?_, fun hf => ?_⟩
      · simp at hf
        refine ⟨_, c23 l x k, fun hg => ?_, fun hg => ?_⟩
        · simp at hg
          have hn := (grounds_nil hchk).1 (List.eq_nil_of_length_eq_zero (by simpa using hg))
          have : k = r := by
            by_cases hlt : k < r
            · obtain ⟨a, ha, hc⟩ := hO.cl k hk hlt
              rw [hn a ha] at hc; cases hc
            · omega
          subst this
          rw [if_neg (by omega)]
          exact ⟨_, _, rfl, ⟨rfl, rfl⟩, rfl, rfl, trivial⟩
        · simp at hg
          cases hgl : groundsE l x k with
          | nil => rw [hgl] at hg; simp at hg
          | cons g gs =>
            obtain ⟨a, ha, hc, rfl⟩ := grounds_cons hgl
            have h1 := hO.step_le hk hr
            have h2 := stepF_mem (o := k) ha hc
            rw [closes_iff] at hc
            have h3 := ends_le a
            refine ⟨⟨by omega, by simp⟩, encG (groundE a), by simp, ?_⟩
            exact ⟨_, _, Wk.keep [0, 1, 2, 6, 7] [], by omega, endsE a, by omega, by omega, rfl, rfl⟩
      · simp at hf
        rw [if_pos (by omega)]
        exact ⟨_, _, rfl, ⟨rfl, rfl⟩, rfl, rfl, trivial⟩
end Go.Abs.L33
