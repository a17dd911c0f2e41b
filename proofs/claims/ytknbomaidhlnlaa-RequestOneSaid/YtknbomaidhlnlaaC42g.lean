import Derived.Test.YtknbomaidhlnlaaL42a
namespace Go.Abs.L42
open Go Go.Abs Go.Proofs
set_option linter.unusedVariables false
set_option maxRecDepth 20000
def encI (n : Int) : List AV := [.int .i64 n]
abbrev N (l : List Int) : AV := .rsl 1 l.length (l.map encI)
abbrev fN (l : List Int) : AV := .fsl true 3 1 l.length (l.map encI)
theorem c31 (l m : List Int) (hl : l.length ≤ 9223372036854775807) : Fn Try.prog 31 [N l, N m] (.bool (decide (l = m))) := by
  refine mk31 rfl ⟨fun h => ?_, fun h => ?_⟩
  · simp at h
    exact ⟨rfl, rfl, by rw [decide_eq_false (by rintro rfl; omega)]; rfl⟩
  · simp at h
    have hlen : l.length = m.length := by omega
    refine ⟨fun n c => ∃ i : Nat, i ≤ l.length ∧ n = l.length - i ∧ c = ⟨[(0, N l), (1, N m), (4, .bool false), (12, I l.length), (13, I i)], []⟩ ∧ l.take i = m.take i, ⟨_, _, Wk.keep [0, 1, 4, 12, 13] [], 0, by omega, rfl, rfl, by simp⟩, ?_⟩
    rintro n c ⟨i, hi, rfl, rfl, hI⟩
    refine ⟨fun h => ?_, fun h => ?_⟩
    · simp at h
      obtain ⟨a, ha, _, _⟩ := drop_cons h
      obtain ⟨b, hb, _, _⟩ := drop_cons (l := m) (i := i) (by omega)
      obtain ⟨k1, k2⟩ := drop2 ha hb hI
      refine ⟨⟨by omega, by omega⟩, encI a, get_map ha, ⟨by omega, by omega⟩, encI b, get_map hb, fun hf => ?_, fun hf => ?_⟩
      · have hf : (a != b) = true := hf
        exact ⟨rfl, rfl, by rw [decide_eq_false (k1 (by simpa using hf))]; rfl⟩
      · have hf : (a != b) = false := hf
        refine ⟨_, wrap64 (by omega) (by omega), ?_⟩
        exact ⟨_, _, Wk.keep [0, 1, 4, 12, 13] [], by omega, i + 1, by omega, rfl, rfl, k2 (by simpa using hf)⟩
    · simp at h
      have : i = l.length := by omega
      subst this
      rw [List.take_length, hlen, List.take_length] at hI
      exact ⟨rfl, rfl, by rw [decide_eq_true hI]; rfl⟩
def openE (l : List Req) (x : Int) : List Int := if checkE l ≠ 0 then [] else (l.filter fun r => openB r && (r.rd == x)).map (·.id)
def accI (l : List Req) (x : Int) (i : Nat) : List Int := ((l.take i).filter fun r => openB r && (r.rd == x)).map (·.id)
theorem accI_len (l : List Req) (x : Int) (i : Nat) (h : l.length ≤ 256) : (accI l x i).length ≤ 256 := by
  have := List.length_filter_le (fun r => openB r && (r.rd == x)) (l.take i)
  simp only [accI, List.length_map]
  simp only [List.length_take] at this
  omega
theorem accI_t {l : List Req} {x : Int} {i : Nat} {a : Req} (ht : l.take (i + 1) = l.take i ++ [a]) (h : (openB a && (a.rd == x)) = true) : accI l x (i + 1) = accI l x i ++ [a.id] := by
  rw [accI, ht, List.filter_append, List.map_append]; simp [accI, h]
theorem accI_f {l : List Req} {x : Int} {i : Nat} {a : Req} (ht : l.take (i + 1) = l.take i ++ [a]) (h : (openB a && (a.rd == x)) = false) : accI l x (i + 1) = accI l x i := by
  rw [accI, ht, List.filter_append, List.map_append]; simp [accI, h]
theorem c32 (l : List Req) (x : Int) : Fn Try.prog 32 [A l, I x] (fN (openE l x)) := by
  refine mk32 rfl ⟨_, c15 l, fun h => ?_, fun h => ?_⟩
  · simp at h
    refine ⟨rfl, .inr ⟨true, 3, 1, ?_⟩⟩
    rw [openE, if_pos h]; rfl
  · simp at h
    have hl := check_len h
    rw [openE, if_neg (by simp [h])]
    refine ⟨fun n c => ∃ i : Nat, i ≤ l.length ∧ n = l.length - i ∧ c = ⟨[(1, I x), (4, .nilsl), (5, .osl 464 1 (accI l x i).length), (11, A l), (12, I l.length), (13, I i)], [(464, ⟨3, 1, .pure, (accI l x i).map encI⟩)]⟩, ⟨_, _, Wk.nilKeep 5 464 ⟨3, 1, .pure, []⟩ [1, 4, 5, 11, 12, 13] [464] rfl rfl rfl, 0, by omega, rfl, rfl⟩, ?_⟩
    rintro n c ⟨i, hi, rfl, rfl⟩
    refine ⟨fun h => ?_, fun h => ?_⟩
    · simp at h
      obtain ⟨a, ha, _, ht⟩ := drop_cons h
      have hal := accI_len l x i hl
      refine ⟨⟨by omega, by omega⟩, encR a, get_map ha, [], _, c42 a, fun hf => ?_, fun hf => ?_⟩
      · refine ⟨⟨by show (_ + 1) * 8 ≤ _; omega, by omega⟩, _, wrap64 (by omega) (by omega), ?_⟩
        refine ⟨_, _, Wk.keep [1, 4, 5, 11, 12, 13] [464], by omega, i + 1, by omega, rfl, ?_⟩
        rw [accI_t ht hf]
        rw [List.map_append, List.length_append]
        exact cfg1 rfl (take_app _ _ (by simp))
      · refine ⟨_, wrap64 (by omega) (by omega), ?_⟩
        refine ⟨_, _, Wk.keep [1, 4, 5, 11, 12, 13] [464], by omega, i + 1, by omega, rfl, ?_⟩
        rw [accI_f ht hf]
        rfl
    · simp at h
      have : i = l.length := by omega
      subst this
      refine ⟨rfl, _, rfl, rfl, by simp, .inl ⟨rfl, ?_⟩⟩
      simp [accI]
theorem c33 (l : List Req) (x : Int) : Fn Try.prog 33 [A l, I x] (fN (openE l x)) := by
  refine mk33 rfl ⟨_, c16 l, fun h => ?_, fun h => ?_⟩
  · simp at h
    refine ⟨rfl, .inr ⟨true, 3, 1, ?_⟩⟩
    rw [openE, if_pos h]; rfl
  · simp at h
    have hl := check_len h
    rw [openE, if_neg (by simp [h])]
    refine ⟨fun n c => ∃ i : Nat, i ≤ l.length ∧ n = l.length - i ∧ c = ⟨[(1, I x), (4, .nilsl), (5, .osl 464 1 (accI l x i).length), (11, A l), (12, I l.length), (13, I i)], [(464, ⟨3, 1, .pure, (accI l x i).map encI⟩)]⟩, ⟨_, _, Wk.nilKeep 5 464 ⟨3, 1, .pure, []⟩ [1, 4, 5, 11, 12, 13] [464] rfl rfl rfl, 0, by omega, rfl, rfl⟩, ?_⟩
    rintro n c ⟨i, hi, rfl, rfl⟩
    refine ⟨fun h => ?_, fun h => ?_⟩
    · simp at h
      obtain ⟨a, ha, _, ht⟩ := drop_cons h
      have hal := accI_len l x i hl
      refine ⟨⟨by omega, by omega⟩, encR a, get_map ha, [], _, c39 a, fun hf => ?_, fun hf => ?_⟩
      · have hf : ((a.rd == x) && openB a) = true := hf
        rw [Bool.and_comm] at hf
        refine ⟨⟨by show (_ + 1) * 8 ≤ _; omega, by omega⟩, _, wrap64 (by omega) (by omega), ?_⟩
        refine ⟨_, _, Wk.keep [1, 4, 5, 11, 12, 13] [464], by omega, i + 1, by omega, rfl, ?_⟩
        rw [accI_t ht hf]
        rw [List.map_append, List.length_append]
        exact cfg1 rfl (take_app _ _ (by simp))
      · have hf : ((a.rd == x) && openB a) = false := hf
        rw [Bool.and_comm] at hf
        refine ⟨_, wrap64 (by omega) (by omega), ?_⟩
        refine ⟨_, _, Wk.keep [1, 4, 5, 11, 12, 13] [464], by omega, i + 1, by omega, rfl, ?_⟩
        rw [accI_f ht hf]
        rfl
    · simp at h
      have : i = l.length := by omega
      subst this
      refine ⟨rfl, _, rfl, rfl, by simp, .inl ⟨rfl, ?_⟩⟩
      simp [accI]
end Go.Abs.L42
