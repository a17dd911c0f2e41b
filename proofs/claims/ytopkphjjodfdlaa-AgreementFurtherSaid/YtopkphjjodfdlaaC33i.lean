import Derived.Test.YtopkphjjodfdlaaL33b
namespace Go.Abs.L33
open Go Go.Abs Go.Proofs
set_option linter.unusedVariables false
set_option maxRecDepth 20000
def del (l : List Agr) (x : Int) : List Agr := l.filter fun a => !(a.acc == x)
abbrev fnX (x : Int) : AV := .func 32 [.rptr [I x] 0]
theorem del_snoc (l : List Agr) (a : Agr) (x : Int) : del (l ++ [a]) x = if (a.acc == x) = true then del l x else del l x ++ [a] := by
  simp only [del, List.filter_append]
  cases h : (a.acc == x) <;> simp [h]
theorem del_le (l : List Agr) (x : Int) : (del l x).length ≤ l.length := List.length_filter_le _ _
def zrow : List AV := [I 0, I 0, I 0, .bool false, I 0, I 0]
theorem c31 (l : List Agr) (hl : l.length ≤ 2000) (x : Int) : FnM Try.prog 31 29 6 (l.map encA) [fnX x] (fA (del l x)) := by
  refine fnM_of (N := 42) (ks := [0, 1, 4, 5, 6, 7, 12, 19, 29]) 4 tabOK tabOne mixed Try.func31 rfl (by kernel_rfl) (by kernel_rfl) rfl rfl rfl ?_
  rw [List.length_map]
  refine ⟨_, fnA (c27 l (by omega) (fun a => a.acc == x) 32 [I x] (fun a _ => c32 a x)), fun h => ?_, fun h => ?_⟩
  · simp at h
    rcases idxF_spec (fun a : Agr => a.acc == x) l 0 with ⟨_, h2⟩ | ⟨i, a, _, _, h3, _⟩
    · have hd : del l x = l := by
        rw [del, List.filter_eq_self]
        intro a ha; have := h2 a ha; simp at this; simp [this]
      refine ⟨_, rfl, rfl, by simp, rfl, ?_⟩
      rw [hd]
      show AV.fsl true 29 6 l.length (l.map encA) = AV.fsl true 29 6 l.length ((l.map encA).take l.length)
      rw [tkA]
    · rw [h3] at h; omega
  · simp at h
    rcases idxF_spec (fun a : Agr => a.acc == x) l 0 with ⟨h1, _⟩ | ⟨i0, a0, ha0, hp0, h3, h4⟩
    · exact absurd h1 h
    · rw [Nat.zero_add] at h3
      rw [h3]
      have hi0 : i0 < l.length := (List.getElem?_eq_some_iff.1 ha0).1
      have hd0 : del (l.take (i0 + 1)) x = l.take i0 := by
        rw [List.take_succ_eq_append_getElem hi0, del_snoc]
        have e0 : l[i0] = a0 := (List.getElem?_eq_some_iff.1 ha0).2
        rw [e0, if_pos hp0, del, List.filter_eq_self]
        intro b hb
        obtain ⟨j, hj⟩ := List.getElem?_of_mem hb
        rw [List.getElem?_take] at hj
        split at hj
        · rename_i hji; have := h4 j b hji hj; simp at this; simp [this]
        · cases hj
      refine ⟨_, wrap64 (by omega) (by omega), ?_⟩
      refine ⟨fun m c => ∃ (i j : Nat) (M : List Agr) (R : List (List AV)), R = M.map encA ∧ i < j ∧ j ≤ l.length ∧ M.length = l.length ∧ M.take i = del (l.take j) x ∧ M.drop j = l.drop j ∧ m = l.length - j ∧ c = ⟨[(0, .osl 1 6 l.length), (1, fnX x), (4, .nilsl), (5, I i), (6, I j)], [(1, ⟨29, 6, .pure, R⟩)]⟩,
        ⟨_, _, Wk.keep [0, 1, 4, 5, 6] [1], i0, i0 + 1, l, l.map encA, rfl, by omega, by omega, rfl, hd0.symm, rfl, rfl, rfl⟩, ?_⟩
      rintro m c ⟨i, j, M, R, hR, hij, hj, hM, hMi, hMj, rfl, rfl⟩
      have hil : i = (del (l.take j) x).length := by rw [← hMi, List.length_take]; omega
      refine ⟨fun h => ?_, fun h => ?_⟩
      · simp at h
        obtain ⟨a, ha, _, ht⟩ := drop_cons (l := l) (i := j) (by omega)
        have haM : M[j]? = some a := by
          have h0 : (M.drop j)[0]? = some a := by rw [hMj, List.getElem?_drop, Nat.add_zero]; exact ha
          rw [List.getElem?_drop, Nat.add_zero] at h0
          exact h0
        have hMj1 : M.drop (j + 1) = l.drop (j + 1) := by
          rw [← List.drop_drop, hMj, List.drop_drop]
        refine ⟨⟨by omega, by omega⟩, encA a, by rw [hR]; exact get_map haM, _, c32 a x, fun hf => ?_, fun hf => ?_⟩
        · have hf : (!(a.acc == x)) = true := hf
          have hf' : ¬ (a.acc == x) = true := by simpa using hf
          obtain ⟨b, hb⟩ : ∃ b, M[i]? = some b := ⟨M[i]'(by omega), by simp⟩
          refine ⟨⟨by omega, by omega⟩, encA b, by rw [hR]; exact get_map hb, _, wrap64 (by omega) (by omega), _, wrap64 (by omega) (by omega), ?_⟩
          refine ⟨_, _, Wk.keep [0, 1, 4, 5, 6] [1], by omega, i + 1, j + 1, M.set i a, _, ?_, by omega, by omega, by simpa using hM, ?_, ?_, rfl, rfl⟩
          · rw [hR, List.map_set]; rfl
          · rw [ht, del_snoc, if_neg hf', List.take_succ_eq_append_getElem (by simp; omega)]
            simp [List.take_set_of_le, hMi]
          · rw [List.drop_set_of_lt (by omega), hMj1]
        · have hf : (!(a.acc == x)) = false := hf
          have hf' : (a.acc == x) = true := by simpa using hf
          refine ⟨_, wrap64 (by omega) (by omega), ?_⟩
          refine ⟨_, _, Wk.keep [0, 1, 4, 5, 6] [1], by omega, i, j + 1, M, R, hR, by omega, by omega, hM, ?_, hMj1, rfl, rfl⟩
          rw [ht, del_snoc, if_pos hf', hMi]
      · simp at h
        have : j = l.length := by omega
        subst this
        rw [List.take_length] at hMi hil
        have hle := del_le l x
        have hRl : R.length = l.length := by rw [hR, List.length_map, hM]
        have ht : R.take i = (del l x).map encA := by rw [hR, ← List.map_take, hMi]
        refine ⟨⟨by omega, by omega⟩, ?_, ⟨by omega, by omega⟩, ?_⟩
        · show (i : Int).toNat + (l.length - (i : Int).toNat) ≤ R.length
          omega
        · refine ⟨_, rfl, rfl, ?_, rfl, ?_⟩
          · show (i : Int).toNat ≤ (R.take (i : Int).toNat ++ List.replicate (l.length - (i : Int).toNat) _ ++ R.drop _).length
            simp; omega
          · show AV.fsl true 29 6 (del l x).length ((del l x).map encA) = AV.fsl true 29 6 (i : Int).toNat ((R.take (i : Int).toNat ++ List.replicate (l.length - (i : Int).toNat) _ ++ R.drop _).take (i : Int).toNat)
            rw [Int.toNat_natCast, List.append_assoc, List.take_left' (by rw [List.length_take]; omega), ht, ← hil]
end Go.Abs.L33
