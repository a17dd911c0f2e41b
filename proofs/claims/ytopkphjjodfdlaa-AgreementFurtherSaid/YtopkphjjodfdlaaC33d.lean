import Derived.Test.YtopkphjjodfdlaaC33c
namespace Go.Abs.L33
open Go Go.Abs Go.Proofs
set_option linter.unusedVariables false
set_option maxRecDepth 20000
theorem cfg1 {fr fr' : List (Nat × AV)} {b e sz : Nat} {kd : Kd} {rows rows' : List (List AV)} (h1 : fr = fr') (h2 : rows = rows') : (⟨fr, [(b, ⟨e, sz, kd, rows⟩)]⟩ : Cfg) = ⟨fr', [(b, ⟨e, sz, kd, rows'⟩)]⟩ := by subst h1 h2; rfl
theorem take_app {α : Type} {n : Nat} (xs ys : List α) (h : xs.length = n) : xs.take n ++ ys = xs ++ ys := by rw [List.take_of_length_le (by omega)]
theorem eqL_encG (a b : Gr) : eqL (encG a) (encG b) = decide (a = b) := by
  rw [Bool.eq_iff_iff]; cases a; cases b; simp [eqL, encG, eqC]
theorem eqL_encA (a b : Agr) : eqL (encA a) (encA b) = decide (a = b) := by
  rw [Bool.eq_iff_iff]; cases a; cases b; simp [eqL, encA, eqC]
theorem drop2 {α : Type} [DecidableEq α] {l m : List α} {i : Nat} {a b : α} (ha : l[i]? = some a) (hb : m[i]? = some b) (h : l.take i = m.take i) : (a ≠ b → l ≠ m) ∧ (a = b → l.take (i + 1) = m.take (i + 1)) := by
  constructor
  · rintro hn rfl
    rw [ha] at hb; injection hb with hb; exact hn hb
  · rintro rfl
    obtain ⟨h1, h2⟩ := List.getElem?_eq_some_iff.1 ha
    obtain ⟨h3, h4⟩ := List.getElem?_eq_some_iff.1 hb
    rw [List.take_succ_eq_append_getElem h1, List.take_succ_eq_append_getElem h3, h, h2, h4]
theorem c21 (l m : List Gr) (hl : l.length ≤ 9223372036854775807) : Fn Try.prog 21 [G l, G m] (.bool (decide (l = m))) := by
  refine mk21 rfl ⟨fun h => ?_, fun h => ?_⟩
  · simp at h
    exact ⟨rfl, rfl, by rw [decide_eq_false (by rintro rfl; omega)]; rfl⟩
  · simp at h
    have hlen : l.length = m.length := by omega
    refine ⟨fun n c => ∃ i : Nat, i ≤ l.length ∧ n = l.length - i ∧ c = ⟨[(0, G l), (1, G m), (4, .bool false), (12, I l.length), (13, I i)], []⟩ ∧ l.take i = m.take i, ⟨_, _, Wk.keep [0, 1, 4, 12, 13] [], 0, by omega, rfl, rfl, by simp⟩, ?_⟩
    rintro n c ⟨i, hi, rfl, rfl, hI⟩
    refine ⟨fun h => ?_, fun h => ?_⟩
    · simp at h
      obtain ⟨a, ha, _, _⟩ := drop_cons h
      obtain ⟨b, hb, _, _⟩ := drop_cons (l := m) (i := i) (by omega)
      obtain ⟨k1, k2⟩ := drop2 ha hb hI
      refine ⟨⟨by omega, by omega⟩, encG a, by simp [ha], ⟨by omega, by omega⟩, encG b, by simp [hb], fun hf => ?_, fun hf => ?_⟩
      · have hf : (!eqL (encG a) (encG b)) = true := hf
        simp only [Bool.not_eq_true', eqL_encG, decide_eq_false_iff_not] at hf
        exact ⟨rfl, rfl, by rw [decide_eq_false (k1 hf)]; rfl⟩
      · have hf : (!eqL (encG a) (encG b)) = false := hf
        simp only [Bool.not_eq_false', eqL_encG, decide_eq_true_eq] at hf
        refine ⟨_, wrap64 (by omega) (by omega), ?_⟩
        exact ⟨_, _, Wk.keep [0, 1, 4, 12, 13] [], by omega, i + 1, by omega, rfl, rfl, k2 hf⟩
    · simp at h
      have : i = l.length := by omega
      subst this
      rw [List.take_length, hlen, List.take_length] at hI
      exact ⟨rfl, rfl, by rw [decide_eq_true hI]; rfl⟩
theorem c26 (l m : List Agr) (hl : l.length ≤ 9223372036854775807) : Fn Try.prog 26 [A l, A m] (.bool (decide (l = m))) := by
  refine mk26 rfl ⟨fun h => ?_, fun h => ?_⟩
  · simp at h
    exact ⟨rfl, rfl, by rw [decide_eq_false (by rintro rfl; omega)]; rfl⟩
  · simp at h
    have hlen : l.length = m.length := by omega
    refine ⟨fun n c => ∃ i : Nat, i ≤ l.length ∧ n = l.length - i ∧ c = ⟨[(0, A l), (1, A m), (4, .bool false), (12, I l.length), (13, I i)], []⟩ ∧ l.take i = m.take i, ⟨_, _, Wk.keep [0, 1, 4, 12, 13] [], 0, by omega, rfl, rfl, by simp⟩, ?_⟩
    rintro n c ⟨i, hi, rfl, rfl, hI⟩
    refine ⟨fun h => ?_, fun h => ?_⟩
    · simp at h
      obtain ⟨a, ha, _, _⟩ := drop_cons h
      obtain ⟨b, hb, _, _⟩ := drop_cons (l := m) (i := i) (by omega)
      obtain ⟨k1, k2⟩ := drop2 ha hb hI
      refine ⟨⟨by omega, by omega⟩, encA a, by simp [ha], ⟨by omega, by omega⟩, encA b, by simp [hb], fun hf => ?_, fun hf => ?_⟩
      · have hf : (!eqL (encA a) (encA b)) = true := hf
        simp only [Bool.not_eq_true', eqL_encA, decide_eq_false_iff_not] at hf
        exact ⟨rfl, rfl, by rw [decide_eq_false (k1 hf)]; rfl⟩
      · have hf : (!eqL (encA a) (encA b)) = false := hf
        simp only [Bool.not_eq_false', eqL_encA, decide_eq_true_eq] at hf
        refine ⟨_, wrap64 (by omega) (by omega), ?_⟩
        exact ⟨_, _, Wk.keep [0, 1, 4, 12, 13] [], by omega, i + 1, by omega, rfl, rfl, k2 hf⟩
    · simp at h
      have : i = l.length := by omega
      subst this
      rw [List.take_length, hlen, List.take_length] at hI
      exact ⟨rfl, rfl, by rw [decide_eq_true hI]; rfl⟩
def groundsE (l : List Agr) (x d : Int) : List Gr := if checkE l ≠ 0 then [] else (l.filter (closesB · x d)).map groundE
theorem check_len {l : List Agr} (h : checkE l = 0) : l.length ≤ 64 := by
  by_cases hl : 64 < l.length
  · rw [checkE_big hl] at h; cases h
  · omega
def accG (l : List Agr) (x d : Int) (i : Nat) : List Gr := ((l.take i).filter (closesB · x d)).map groundE
theorem accG_len (l : List Agr) (x d : Int) (i : Nat) (h : l.length ≤ 64) : (accG l x d i).length ≤ 64 := by
  have := List.length_filter_le (closesB · x d) (l.take i)
  simp only [accG, List.length_map]
  simp only [List.length_take] at this
  omega
theorem accG_t {l : List Agr} {x d : Int} {i : Nat} {a : Agr} (ht : l.take (i + 1) = l.take i ++ [a]) (h : closesB a x d = true) : accG l x d (i + 1) = accG l x d i ++ [groundE a] := by
  simp [accG, ht, h]
theorem accG_f {l : List Agr} {x d : Int} {i : Nat} {a : Agr} (ht : l.take (i + 1) = l.take i ++ [a]) (h : closesB a x d = false) : accG l x d (i + 1) = accG l x d i := by
  simp [accG, ht, h]
theorem c22 (l : List Agr) (x d : Int) : Fn Try.prog 22 [A l, I x, I d] (fG (groundsE l x d)) := by
  refine mk22 rfl ⟨_, c14 l, fun h => ?_, fun h => ?_⟩
  · simp at h
    refine ⟨rfl, .inr ⟨true, 52, 4, ?_⟩⟩
    rw [groundsE, if_pos h]; rfl
  · simp at h
    have hl := check_len h
    rw [groundsE, if_neg (by simp [h])]
    refine ⟨fun n c => ∃ i : Nat, i ≤ l.length ∧ n = l.length - i ∧ c = ⟨[(1, I x), (2, I d), (6, .nilsl), (7, .func 40 []), (8, .osl 464 4 (accG l x d i).length), (14, A l), (15, I l.length), (16, I i)], [(464, ⟨52, 4, .pure, (accG l x d i).map encG⟩)]⟩, ⟨_, _, Wk.nilKeep 8 464 ⟨52, 4, .pure, []⟩ [1, 2, 6, 7, 8, 14, 15, 16] [464] rfl rfl rfl, 0, by omega, rfl, rfl⟩, ?_⟩
    rintro n c ⟨i, hi, rfl, rfl⟩
    refine ⟨fun h => ?_, fun h => ?_⟩
    · simp at h
      obtain ⟨a, ha, _, ht⟩ := drop_cons h
      have hal := accG_len l x d i hl
      refine ⟨⟨by omega, by omega⟩, encA a, by simp [ha], _, c12 a x d, fun hf => ?_, fun hf => ?_⟩
      · refine ⟨_, c40 a, ⟨by show (_ + 1) * 32 ≤ _; omega, by omega⟩, _, wrap64 (by omega) (by omega), ?_⟩
        refine ⟨_, _, Wk.keep [1, 2, 6, 7, 8, 14, 15, 16] [464], by omega, i + 1, by omega, rfl, ?_⟩
        rw [accG_t ht hf]
        rw [List.map_append, List.length_append]
        exact cfg1 rfl (take_app _ _ (by simp))
      · refine ⟨_, wrap64 (by omega) (by omega), ?_⟩
        refine ⟨_, _, Wk.keep [1, 2, 6, 7, 8, 14, 15, 16] [464], by omega, i + 1, by omega, rfl, ?_⟩
        rw [accG_f ht hf]
        rfl
    · simp at h
      have : i = l.length := by omega
      subst this
      refine ⟨rfl, _, rfl, rfl, by simp, .inl ⟨rfl, ?_⟩⟩
      simp [accG]
theorem c23 (l : List Agr) (x d : Int) : Fn Try.prog 23 [A l, I x, I d] (fG (groundsE l x d)) := by
  refine mk23 rfl ⟨_, c16 l, fun h => ?_, fun h => ?_⟩
  · simp at h
    refine ⟨rfl, .inr ⟨true, 52, 4, ?_⟩⟩
    rw [groundsE, if_pos h]; rfl
  · simp at h
    have hl := check_len h
    rw [groundsE, if_neg (by simp [h])]
    refine ⟨fun n c => ∃ i : Nat, i ≤ l.length ∧ n = l.length - i ∧ c = ⟨[(1, I x), (2, I d), (6, .nilsl), (7, .osl 544 4 (accG l x d i).length), (13, A l), (14, I l.length), (15, I i)], [(544, ⟨52, 4, .pure, (accG l x d i).map encG⟩)]⟩, ⟨_, _, Wk.nilKeep 7 544 ⟨52, 4, .pure, []⟩ [1, 2, 6, 7, 13, 14, 15] [544] rfl rfl rfl, 0, by omega, rfl, rfl⟩, ?_⟩
    rintro n c ⟨i, hi, rfl, rfl⟩
    refine ⟨fun h => ?_, fun h => ?_⟩
    · simp at h
      obtain ⟨a, ha, _, ht⟩ := drop_cons h
      have hal := accG_len l x d i hl
      refine ⟨⟨by omega, by omega⟩, encA a, by simp [ha], _, c13 a x d, fun hf => ?_, fun hf => ?_⟩
      · refine ⟨⟨by show (_ + 1) * 32 ≤ _; omega, by omega⟩, _, wrap64 (by omega) (by omega), ?_⟩
        refine ⟨_, _, Wk.keep [1, 2, 6, 7, 13, 14, 15] [544], by omega, i + 1, by omega, rfl, ?_⟩
        rw [accG_t ht hf]
        rw [List.map_append, List.length_append]
        exact cfg1 rfl (take_app _ _ (by simp))
      · refine ⟨_, wrap64 (by omega) (by omega), ?_⟩
        refine ⟨_, _, Wk.keep [1, 2, 6, 7, 13, 14, 15] [544], by omega, i + 1, by omega, rfl, ?_⟩
        rw [accG_f ht hf]
        rfl
    · simp at h
      have : i = l.length := by omega
      subst this
      refine ⟨rfl, _, rfl, rfl, by simp, .inl ⟨rfl, ?_⟩⟩
      simp [accG]
end Go.Abs.L33
