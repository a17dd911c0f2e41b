import Derived.Test.YtopkphjjodfdlaaC33h
namespace Go.Abs.L33
open Go Go.Abs Go.Proofs
set_option linter.unusedVariables false
set_option maxRecDepth 20000
theorem chk_sorted : ∀ {l : List Agr} {p : Option Agr}, chk p l = 0 → (∀ q, p = some q → ∀ a ∈ l, q.id < a.id) ∧ List.Pairwise (fun a b : Agr => a.id < b.id) l ∧ ∀ a ∈ l, formedB a = true
  | [], p, h => ⟨by simp, .nil, by simp⟩
  | a :: r, p, h => by
    simp only [chk] at h
    split at h
    · cases h
    · rename_i hf
      have hf : formedB a = true := by simpa using hf
      have key : chk (some a) r = 0 → List.Pairwise (fun a b : Agr => a.id < b.id) (a :: r) ∧ ∀ b ∈ a :: r, formedB b = true := by
        intro h
        obtain ⟨h1, h2, h3⟩ := chk_sorted h
        exact ⟨.cons (h1 a rfl) h2, by simpa using ⟨hf, h3⟩⟩
      cases p with
      | none => exact ⟨by simp, key h⟩
      | some q =>
        simp only at h
        split at h
        · cases h
        · rename_i hq
          obtain ⟨h2, h3⟩ := key h
          refine ⟨fun q' e b hb => ?_, h2, h3⟩
          injection e with e; subst e
          rcases List.mem_cons.1 hb with rfl | hb
          · omega
          · have := (List.pairwise_cons.1 h2).1 b hb
            omega
theorem check_sorted {l : List Agr} (h : checkE l = 0) : List.Pairwise (fun a b : Agr => a.id < b.id) l ∧ ∀ a ∈ l, formedB a = true := by
  have hl := check_len h
  rw [checkE_le hl] at h
  exact (chk_sorted h).2
theorem idxF_any {α : Type} (p : α → Bool) (l : List α) : decide (idxF p 0 l ≥ 0) = l.any p := by
  rw [Bool.eq_iff_iff]
  rcases idxF_spec p l 0 with ⟨h1, h2⟩ | ⟨i, a, h1, h2, h3, _⟩
  · rw [h1]
    simp only [decide_eq_true_eq, List.any_eq_true]
    constructor
    · intro h; omega
    · rintro ⟨a, ha, hp⟩
      rw [h2 a ha] at hp; cases hp
  · rw [h3]
    simp only [decide_eq_true_eq, List.any_eq_true]
    constructor
    · intro _; exact ⟨a, List.mem_of_getElem? h1, h2⟩
    · intro _; omega
theorem firstS_any (id : Int) : ∀ {l : List Agr}, List.Pairwise (fun a b : Agr => a.id < b.id) l → firstS id l = l.any (fun a => (a.id == id) && a.strict)
  | [], _ => rfl
  | a :: r, h => by
    obtain ⟨h1, h2⟩ := List.pairwise_cons.1 h
    simp only [firstS, List.any_cons]
    split
    · rename_i he
      rw [he, Bool.true_and]
      have : r.any (fun a => (a.id == id) && a.strict) = false := by
        rw [List.any_eq_false]
        intro b hb
        have := h1 b hb
        simp at he ⊢
        omega
      rw [this, Bool.or_false]
    · rename_i he
      rw [firstS_any id h2]
      simp only [Bool.not_eq_true] at he
      rw [he, Bool.false_and, Bool.false_or]
theorem strict_eq (l : List Agr) (id : Int) : strictE l id = rstrictE l id := by
  unfold strictE rstrictE
  split
  · rename_i h
    have : (checkE l == 0) = false := by simpa using h
    rw [this, Bool.false_and]
  · rename_i h
    have h : checkE l = 0 := by simpa using h
    rw [h, idxF_any, firstS_any id (check_sorted h).1]
    rfl
theorem l3 (l : List Agr) (hl : l.length ≤ 9223372036854775807) (x y z : Int) : Fn Try.prog 3 [A l, .agg [I x, I y, I z]] (.bool true) := by
  refine mk3 rfl ⟨_, c10, fun h => (by cases h), fun _ => ⟨[], _, c11 l, fun h => ⟨rfl, rfl, rfl⟩, fun h => ?_⟩⟩
  have hlen : l.length ≤ 65 := by simp at h; omega
  clear h
  have hm : 0 ≤ minI l.length 20 ∧ minI l.length 20 ≤ l.length := by unfold minI; split <;> omega
  refine ⟨hm, ?_⟩
  generalize hk : (minI l.length 20).toNat = k
  have hkl : k ≤ l.length := by omega
  refine ⟨fun n c => ∃ i : Nat, i ≤ k ∧ n = k - i ∧ c = ⟨[(0, A l), (3, .ovar 48 0), (4, .bool false), (21, .rsl 6 k ((l.map encA).take k)), (22, I k), (23, I i)], [(48, ⟨23, 3, .any, [[I x, I y, I z]]⟩)]⟩, ⟨_, _, Wk.keep [0, 3, 4, 21, 22, 23] [48], 0, by omega, rfl, rfl⟩, ?_⟩
  rintro n c ⟨i, hi, rfl, rfl⟩
  refine ⟨fun h => ?_, fun h => ?_⟩
  · simp at h
    obtain ⟨a, ha, _, _⟩ := drop_cons (l := l) (i := i) (by omega)
    refine ⟨⟨by omega, by omega⟩, encA a, by simp [ha, h], _, c12 a y z, _, c13 a y z, fun hf => ?_, fun hf => ?_⟩
    · simp at hf
    · refine ⟨_, wrap64 (by omega) (by omega), ?_⟩
      exact ⟨_, _, Wk.keep [0, 3, 4, 21, 22, 23] [48], by omega, i + 1, by omega, rfl, rfl⟩
  · refine ⟨[], _, c15 l (by omega), true, _, c14 l, _, c16 l, _, c15 l (by omega), true, _, c17 l hl x, _, c18 l hl x, rfl, rfl, ?_⟩
    show AV.bool true = AV.bool ((checkE l == checkE l) && (strictE l x == rstrictE l x))
    rw [strict_eq]; simp
end Go.Abs.L33
