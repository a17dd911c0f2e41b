import Derived.Test.YtopkphjjodfdlaaC33k
namespace Go.Abs.L33
open Go Go.Abs Go.Proofs
set_option linter.unusedVariables false
set_option maxRecDepth 20000
theorem c44 (l : List Gr) (hl : l.length ≤ 9223372036854775807) (g : Gr) : Fn Try.prog 44 [G l, .agg (encG g)] (I (idxF (fun a => decide (g = a)) 0 l)) := by
  refine mk44 rfl ?_
  refine ⟨fun n c => ∃ i : Nat, i ≤ l.length ∧ n = l.length - i ∧ c = ⟨[(0, G l), (3, .ovar 48 0), (4, I 0), (7, I l.length), (8, I i)], [(48, ⟨52, 4, .any, [encG g]⟩)]⟩ ∧ idxF (fun a => decide (g = a)) i (l.drop i) = idxF (fun a => decide (g = a)) 0 l, ⟨_, _, Wk.keep [0, 3, 4, 7, 8] [48], 0, by omega, rfl, rfl, by simp⟩, ?_⟩
  rintro n c ⟨i, hi, rfl, rfl, hI⟩
  refine ⟨fun h => ?_, fun h => ?_⟩
  · simp at h
    obtain ⟨a, ha, hd, _⟩ := drop_cons h
    rw [hd, idxF] at hI
    refine ⟨⟨by omega, by omega⟩, encG a, by simp [ha], fun hf => ?_, fun hf => ?_⟩
    · have hf : eqL (encG g) (encG a) = true := hf
      rw [eqL_encG] at hf
      rw [if_pos hf] at hI
      exact ⟨rfl, rfl, by rw [← hI]; rfl⟩
    · have hf : eqL (encG g) (encG a) = false := hf
      rw [eqL_encG] at hf
      rw [if_neg (by simp [hf])] at hI
      refine ⟨_, wrap64 (by omega) (by omega), ?_⟩
      exact ⟨_, _, Wk.keep [0, 3, 4, 7, 8] [48], by omega, i + 1, by omega, rfl, rfl, hI⟩
  · simp at h
    have : i = l.length := by omega
    subst this
    simp [idxF] at hI
    exact ⟨rfl, rfl, by rw [← hI]; rfl⟩
theorem c34 (l : List Gr) (hl : l.length ≤ 9223372036854775807) (g : Gr) : Fn Try.prog 34 [G l, .agg (encG g)] (.bool (l.any fun a => decide (g = a))) :=
  mk34 rfl ⟨_, c44 l hl g, rfl, rfl, by rw [← idxF_any]; rfl⟩
theorem l9 (l : List Agr) (x d : Int) : Fn Try.prog 9 [A l, I x, I d] (.bool true) := by
  refine mk9 rfl ⟨_, c10, fun h => (by cases h), fun _ => ?_⟩
  by_cases h20 : 20 < l.length
  · exact ⟨[(3, true), (8, true)], _, c11 l, by simp; omega, rfl, fun _ => ⟨rfl, rfl, rfl⟩, fun h => by cases h⟩
  by_cases h0 : l.length = 0
  · refine ⟨[(3, false), (8, true)], _, c11 l, by simp; omega, ?_⟩
    refine ⟨by simp [h0], fun _ => ⟨rfl, rfl, rfl⟩, fun h => by cases h⟩
  refine ⟨[(3, false), (8, false)], _, c11 l, by simp; omega, by simpa using h0, _, c15 l (by omega), _, fnA (c14 l), fun _ => ⟨rfl, rfl, rfl⟩, fun hc => ?_⟩
  have hc : checkE l = 0 := by simpa using hc
  refine ⟨_, c15 l (by omega), _, fnA (c22 l x d), ?_⟩
  refine ⟨fun n c => ∃ i : Nat, i ≤ l.length ∧ n = l.length - i ∧ c = ⟨[(0, A l), (1, I x), (2, I d), (6, .bool false), (7, .osl 528 4 (groundsE l x d).length), (35, I l.length), (36, I i)], [(528, ⟨52, 4, .pure, (groundsE l x d).map encG⟩)]⟩, ⟨_, _, Wk.keep [0, 1, 2, 6, 7, 35, 36] [528], 0, by omega, rfl, rfl⟩, ?_⟩
  rintro n c ⟨i, hi, rfl, rfl⟩
  refine ⟨fun h => ?_, fun h => ⟨rfl, rfl, rfl⟩⟩
  simp at h
  obtain ⟨a, ha, hd, _⟩ := drop_cons h
  refine ⟨_, c15 l (by omega), _, wrap64 (by omega) (by omega), by simp, _, c33 l (by omega) i h, ?_⟩
  have hel : (l.eraseIdx i).length ≤ 20 := by have := (List.eraseIdx_sublist l i).length_le; omega
  have hlen := less_len (x := x) (d := d) hc ha
  have h64 := grounds_len (l.eraseIdx i) x d
  refine ⟨_, fnA (c22 (l.eraseIdx i) x d), ?_⟩
  refine ⟨⟨by omega, by omega⟩, encA a, by simp [ha], _, c12 a x d, ?_⟩
  generalize hm : groundsE l x d = most at *
  generalize hs : groundsE (l.eraseIdx i) x d = less at *
  refine ⟨[], _, wrap64 (by omega) (by omega), fun hf => ?_, fun hf => ?_⟩
  · exfalso
    revert hf
    cases hcl : closesB a x d <;> simp [hcl] at hlen ⊢ <;> omega
  · refine ⟨fun n c => ∃ k : Nat, k ≤ less.length ∧ n = less.length - k ∧ c = ⟨[(0, A l), (1, I x), (2, I d), (6, .bool false), (7, .osl 528 4 most.length), (35, I l.length), (36, I i), (75, .osl 752 4 less.length), (76, I less.length), (77, I k)], [(528, ⟨52, 4, .pure, most.map encG⟩), (752, ⟨52, 4, .pure, less.map encG⟩)]⟩,
      ⟨_, _, Wk.keep [0, 1, 2, 6, 7, 35, 36, 75, 76, 77] [528, 752], 0, by omega, rfl, rfl⟩, ?_⟩
    rintro n c ⟨k, hk, rfl, rfl⟩
    refine ⟨fun h2 => ?_, fun h2 => ?_⟩
    · simp at h2
      obtain ⟨g, hg, _, _⟩ := drop_cons h2
      have hgm : g ∈ most := by rw [← hm]; exact less_mem hc (by rw [hs]; exact List.mem_of_getElem? hg)
      refine ⟨⟨by omega, by omega⟩, encG g, get_map hg, ?_⟩
      refine ⟨_, fnG (c34 most (by have := grounds_len l x d; rw [hm] at this; omega) g), fun hf => ?_, fun hf => ?_⟩
      · exfalso
        have : (most.any fun a => decide (g = a)) = true := List.any_eq_true.2 ⟨g, hgm, by simp⟩
        rw [this] at hf; cases hf
      · refine ⟨_, wrap64 (by omega) (by omega), ?_⟩
        exact ⟨_, _, Wk.keep [0, 1, 2, 6, 7, 35, 36, 75, 76, 77] [528, 752], by omega, k + 1, by omega, rfl, rfl⟩
    · refine ⟨_, wrap64 (by omega) (by omega), ?_⟩
      exact ⟨_, _, Wk.keep [0, 1, 2, 6, 7, 35, 36] [528], by omega, i + 1, by omega, rfl, rfl⟩
end Go.Abs.L33
