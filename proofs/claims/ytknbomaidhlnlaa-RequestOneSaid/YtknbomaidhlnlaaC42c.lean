import Derived.Test.YtknbomaidhlnlaaC42b
namespace Go.Abs.L42
open Go Go.Abs Go.Proofs
set_option linter.unusedVariables false
set_option maxRecDepth 20000
theorem eqL_encR (a b : Req) : eqL (encR a) (encR b) = decide (a = b) := by
  rw [Bool.eq_iff_iff]; cases a; cases b; simp [eqL, encR, eqC]
theorem c17 (l m : List Req) (hl : l.length ≤ 9223372036854775807) : Fn Try.prog 17 [A l, A m] (.bool (decide (l = m))) := by
  refine mk17 rfl ⟨fun h => ?_, fun h => ?_⟩
  · simp at h
    exact ⟨rfl, rfl, by rw [decide_eq_false (by rintro rfl; omega)]; rfl⟩
  · simp at h
    have hlen : l.length = m.length := by omega
    refine ⟨fun n c => ∃ i : Nat, i ≤ l.length ∧ n = l.length - i ∧ c = ⟨[(0, A l), (1, A m), (4, .bool false), (12, I l.length), (13, I i)], []⟩ ∧ l.take i = m.take i, ⟨_, _, Wk.keep [0, 1, 4, 12, 13] [], 0, by omega, rfl, rfl, by simp⟩, ?_⟩
    rintro n c ⟨i, hi, rfl, rfl, hI⟩
    refine ⟨fun h => ?_, fun h => ?_⟩
    · simp at h
      obtain ⟨a, ha, _, _⟩ := drop_cons h
      obtain ⟨b, hb, _, _⟩ := drop_cons (l := m) (i := i) (by omega)
      obtain ⟨k1, k2⟩ := drop2 ha hb hI
      refine ⟨⟨by omega, by omega⟩, encR a, by simp [ha], ⟨by omega, by omega⟩, encR b, by simp [hb], fun hf => ?_, fun hf => ?_⟩
      · have hf : (!eqL (encR a) (encR b)) = true := hf
        simp only [Bool.not_eq_true', eqL_encR, decide_eq_false_iff_not] at hf
        exact ⟨rfl, rfl, by rw [decide_eq_false (k1 hf)]; rfl⟩
      · have hf : (!eqL (encR a) (encR b)) = false := hf
        simp only [Bool.not_eq_false', eqL_encR, decide_eq_true_eq] at hf
        refine ⟨_, wrap64 (by omega) (by omega), ?_⟩
        exact ⟨_, _, Wk.keep [0, 1, 4, 12, 13] [], by omega, i + 1, by omega, rfl, rfl, k2 hf⟩
    · simp at h
      have : i = l.length := by omega
      subst this
      rw [List.take_length, hlen, List.take_length] at hI
      exact ⟨rfl, rfl, by rw [decide_eq_true hI]; rfl⟩
theorem check_len {l : List Req} (h : checkE l = 0) : l.length ≤ 256 := by
  by_cases hl : 256 < l.length
  · rw [checkE_big hl] at h; cases h
  · omega
def badP (r : Req) : Bool := !idB r.id || !idB r.rd || !idB r.un || !idB r.bx || !dayB r.dy
def placeN (r : Req) : Req := { r with st := 1, ch := r.dy }
def placeE (l : List Req) (r : Req) : List Req × Int :=
  if checkE l ≠ 0 then ([], 1) else if badP r = true then ([], 2) else if badOrd l r = true then ([], 5) else if dblP l r.rd r.un = true then ([], 6) else if l.length ≥ 256 then ([], 12) else (l ++ [placeN r], 0)
theorem badOrd_last {l : List Req} {p r : Req} (hp : l[l.length - 1]? = some p) : badOrd l r = (decide (r.id ≤ p.id) || decide (r.dy < p.dy)) := by
  simp only [badOrd, List.getLast?_eq_getElem?, hp]
theorem ret_app {l : List Req} {n : Req} : AV.fsl true 24 7 (l ++ [n]).length ((l ++ [n]).map encR) = AV.fsl true 24 7 (l.length + 1) ((l.map encR).take l.length ++ [encR n]) := by
  rw [map_take_all, List.length_append, List.map_append]; rfl
theorem ret_appl {l : List Req} {n : Req} : l.length + 1 = ((l.map encR).take l.length ++ [encR n]).length := by simp
theorem c12 (l : List Req) (r : Req) : Fn Try.prog 12 [A l, .agg (encR r)] (.tup [fA (placeE l r).1, I (placeE l r).2]) := by
  refine mk12 rfl ⟨_, c15 l, fun h => ?_, fun h => ?_⟩
  · simp at h
    rw [placeE, if_pos h]
    exact ⟨_, _, rfl, .inr ⟨_, _, _, rfl⟩, rfl, rfl, trivial⟩
  · simp at h
    have hl := check_len h
    rw [placeE, if_neg (by simp [h])]
    refine ⟨[], _, c34 r.id, _, c34 r.rd, _, c34 r.un, _, c34 r.bx, _, c35 r.dy, fun hb => ?_, fun hb => ?_⟩
    · have hb : badP r = true := hb
      rw [if_pos hb]
      exact ⟨_, _, rfl, .inr ⟨_, _, _, rfl⟩, rfl, rfl, trivial⟩
    · have hb : badP r = false := hb
      rw [if_neg (by simp [hb])]
      by_cases h0 : l.length = 0
      · have hl0 : l = [] := List.eq_nil_of_length_eq_zero h0
        subst hl0
        rw [if_neg (by simp [badOrd_0])]
        refine ⟨[(2, false)], by simp, fun h => (by cases h), fun h => ⟨_, c36 [] (by simp) r.rd r.un, fun h => ?_, fun h => ?_⟩⟩
        · cases h
        · rw [if_neg (by simp [dblP]), if_neg (by simp)]
          refine ⟨fun h => (by cases h), fun h => ⟨_, c13 [] (by simp), false, ⟨by decide, by decide⟩, ?_⟩⟩
          exact ⟨_, _, rfl, ⟨_, rfl, rfl, rfl, .inl ⟨rfl, rfl⟩⟩, rfl, rfl, trivial⟩
      · obtain ⟨p, hp⟩ : ∃ p, l[l.length - 1]? = some p := ⟨l[l.length - 1], by simp⟩
        rw [badOrd_last hp]
        refine ⟨[(2, true)], by simp; omega, _, wrap64 (by omega) (by omega), ⟨by omega, by omega⟩, encR p, get_map' hp (by omega), _, wrap64 (by omega) (by omega), ⟨by omega, by omega⟩, encR p, get_map' hp (by omega), fun h => ?_, fun h => ?_⟩
        · rw [if_pos (by simpa using h)]
          exact ⟨_, _, rfl, .inr ⟨_, _, _, rfl⟩, rfl, rfl, trivial⟩
        · rw [if_neg (by simpa using h)]
          refine ⟨_, c36 l (by omega) r.rd r.un, fun h => ?_, fun h => ?_⟩
          · rw [if_pos h]
            exact ⟨_, _, rfl, .inr ⟨_, _, _, rfl⟩, rfl, rfl, trivial⟩
          · rw [if_neg (by simp [h])]
            refine ⟨fun h => ?_, fun h => ?_⟩
            · simp at h
              rw [if_pos (by omega)]
              exact ⟨_, _, rfl, .inr ⟨_, _, _, rfl⟩, rfl, rfl, trivial⟩
            · simp at h
              rw [if_neg (by omega)]
              refine ⟨_, c13 l (by omega), false, ⟨by show (_ + 1) * 56 ≤ _; omega, by omega⟩, ?_⟩
              exact ⟨_, _, rfl, ⟨_, rfl, rfl, ret_appl (l := l) (n := placeN r), .inl ⟨rfl, ret_app⟩⟩, rfl, rfl, trivial⟩
theorem c14 (l : List Req) (r : Req) : Fn Try.prog 14 [A l, .agg (encR r)] (.tup [fA (placeE l r).1, I (placeE l r).2]) := by
  refine mk14 rfl ⟨_, c16 l, fun h => ?_, fun h => ?_⟩
  · simp at h
    rw [placeE, if_pos h]
    exact ⟨_, _, rfl, .inr ⟨_, _, _, rfl⟩, rfl, rfl, trivial⟩
  · simp at h
    have hl := check_len h
    rw [placeE, if_neg (by simp [h])]
    refine ⟨[], _, c37 r.id, _, c37 r.rd, _, c37 r.un, _, c37 r.bx, _, c38 r.dy, fun hb => ?_, fun hb => ?_⟩
    · have hb : badP r = true := hb
      rw [if_pos hb]
      exact ⟨_, _, rfl, .inr ⟨_, _, _, rfl⟩, rfl, rfl, trivial⟩
    · have hb : badP r = false := hb
      rw [if_neg (by simp [hb])]
      by_cases h0 : l.length = 0
      · have hl0 : l = [] := List.eq_nil_of_length_eq_zero h0
        subst hl0
        rw [if_neg (by simp [badOrd_0]), if_neg (by simp [dblP]), if_neg (by simp)]
        refine ⟨[(2, false)], by simp, fun h => (by cases h), fun h => ?_⟩
        refine ⟨fun n c => n = 0 ∧ c = ⟨[(0, A []), (3, .ovar 48 0), (4, .nilsl), (5, I 0), (66, A []), (67, I 0), (68, I 0)], [(48, ⟨24, 7, .any, [encR r]⟩)]⟩, ⟨_, _, Wk.keep [0, 3, 4, 5, 66, 67, 68] [48], rfl, rfl⟩, ?_⟩
        rintro n c ⟨rfl, rfl⟩
        refine ⟨fun h => (by cases h), fun h => ⟨fun h => (by cases h), fun h => ⟨⟨by decide, by decide⟩, by intro row hr; simp at hr, ⟨by decide, by decide⟩, ?_⟩⟩⟩
        exact ⟨_, _, rfl, ⟨_, rfl, rfl, rfl, .inl ⟨rfl, rfl⟩⟩, rfl, rfl, trivial⟩
      · obtain ⟨p, hp⟩ : ∃ p, l[l.length - 1]? = some p := ⟨l[l.length - 1], by simp⟩
        rw [badOrd_last hp]
        refine ⟨[(2, true)], by simp; omega, _, wrap64 (by omega) (by omega), ⟨by omega, by omega⟩, encR p, get_map' hp (by omega), _, wrap64 (by omega) (by omega), ⟨by omega, by omega⟩, encR p, get_map' hp (by omega), fun h => ?_, fun h => ?_⟩
        · rw [if_pos (by simpa using h)]
          exact ⟨_, _, rfl, .inr ⟨_, _, _, rfl⟩, rfl, rfl, trivial⟩
        · rw [if_neg (by simpa using h)]
          refine ⟨fun n c => ∃ i : Nat, i ≤ l.length ∧ n = l.length - i ∧ c = ⟨[(0, A l), (3, .ovar 48 0), (4, .nilsl), (5, I 0), (66, A l), (67, I l.length), (68, I i)], [(48, ⟨24, 7, .any, [encR r]⟩)]⟩ ∧ dblP (l.take i) r.rd r.un = false, ⟨_, _, Wk.keep [0, 3, 4, 5, 66, 67, 68] [48], 0, by omega, rfl, rfl, by simp [dblP]⟩, ?_⟩
          rintro n c ⟨i, hi, rfl, rfl, hI⟩
          refine ⟨fun h => ?_, fun h => ?_⟩
          · simp at h
            obtain ⟨x, hx, _, htx⟩ := drop_cons (l := l) (i := i) (by omega)
            refine ⟨⟨by omega, by omega⟩, encR x, by simp [hx], [], _, c39 x, fun hq => ?_, fun hq => ?_⟩
            · have : dblP l r.rd r.un = true := List.any_eq_true.2 ⟨x, List.mem_of_getElem? hx, hq⟩
              rw [if_pos this]
              exact ⟨_, _, rfl, .inr ⟨_, _, _, rfl⟩, rfl, rfl, trivial⟩
            · refine ⟨_, wrap64 (by omega) (by omega), ?_⟩
              refine ⟨_, _, Wk.keep [0, 3, 4, 5, 66, 67, 68] [48], by omega, i + 1, by omega, rfl, rfl, ?_⟩
              unfold dblP at hI ⊢
              rw [htx, List.any_append, hI]
              simpa using hq
          · simp at h
            have : i = l.length := by omega
            subst this
            rw [List.take_length] at hI
            rw [if_neg (by simp [hI])]
            refine ⟨fun h => ?_, fun h => ?_⟩
            · simp at h
              rw [if_pos (by omega)]
              exact ⟨_, _, rfl, .inr ⟨_, _, _, rfl⟩, rfl, rfl, trivial⟩
            · simp at h
              rw [if_neg (by omega)]
              refine ⟨⟨by show (_ + l.length) * 56 ≤ _; omega, by omega⟩, scalR l, ⟨by show (_ + l.length + 1) * 56 ≤ _; omega, by omega⟩, ?_⟩
              refine ⟨_, _, rfl, ⟨_, rfl, rfl, ?_, .inl ⟨rfl, ?_⟩⟩, rfl, rfl, trivial⟩
              · rw [Nat.zero_add l.length]; exact ret_appl (l := l) (n := placeN r)
              · rw [Nat.zero_add l.length]; exact ret_app (l := l) (n := placeN r)
end Go.Abs.L42
