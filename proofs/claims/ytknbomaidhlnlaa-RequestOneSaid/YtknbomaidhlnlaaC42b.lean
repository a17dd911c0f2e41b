import Derived.Test.YtknbomaidhlnlaaC42a
namespace Go.Abs.L42
open Go Go.Abs Go.Proofs
set_option linter.unusedVariables false
set_option maxRecDepth 20000
/-- the request breaks the order behind the last one of a list -/
def badOrd (pre : List Req) (r : Req) : Bool := match pre.getLast? with
  | some q => decide (r.id ≤ q.id) || decide (r.dy < q.dy)
  | none => false
def err1 (pre : List Req) (r : Req) : Int :=
  if formedB r = false then 2 else if badOrd pre r = true then 5 else if ((r.st == 2) && lentP pre r.bx) = true then 11 else if (openB r && dblP pre r.rd r.un) = true then 6 else 0
def chk (pre : List Req) : List Req → Int
  | [] => 0
  | r :: rest => if err1 pre r ≠ 0 then err1 pre r else chk (pre ++ [r]) rest
def checkE (l : List Req) : Int := if l.length > 256 then 8 else chk [] l
theorem checkE_big {l : List Req} (h : 256 < l.length) : checkE l = 8 := if_pos h
theorem checkE_le {l : List Req} (h : l.length ≤ 256) : checkE l = chk [] l := if_neg (by omega)
theorem badOrd_0 (r : Req) : badOrd [] r = false := rfl
theorem badOrd_i {l : List Req} {i : Nat} {p r : Req} (h0 : i ≠ 0) (hi : i ≤ l.length) (hp : l[i - 1]? = some p) : badOrd (l.take i) r = (decide (r.id ≤ p.id) || decide (r.dy < p.dy)) := by
  have : (l.take i).getLast? = some p := by
    rw [List.getLast?_eq_getElem?, List.length_take, Nat.min_eq_left hi, List.getElem?_take, if_pos (by omega)]
    exact hp
  simp only [badOrd, this]
theorem tkR (l : List Req) (i : Nat) (h : i ≤ l.length) : (l.map encR).take i = (l.take i).map encR ∧ (l.take i).length = i := by
  simp [List.map_take]; omega
theorem fnT {f : FuncId} {l : List Req} {i : Nat} (hi : i ≤ l.length) {us : List AV} {r : AV} (h : Fn Try.prog f (A (l.take i) :: us) r) : Fn Try.prog f (.rsl 7 i ((l.map encR).take i) :: us) r := by
  obtain ⟨h1, h2⟩ := tkR l i hi
  rw [h1]
  have : A (l.take i) = .rsl 7 i ((l.take i).map encR) := by rw [A, h2]
  rw [← this]; exact h
theorem c15 (l : List Req) : Fn Try.prog 15 [A l] (I (checkE l)) := by
  refine mk15 rfl ⟨fun h => ?_, fun h => ?_⟩
  · simp at h
    exact ⟨rfl, rfl, by rw [checkE_big (by omega)]; rfl⟩
  · simp at h
    rw [checkE_le (by omega)]
    refine ⟨fun n c => ∃ i : Nat, i ≤ l.length ∧ n = l.length - i ∧ c = ⟨[(0, A l), (2, I 0), (8, A l), (9, I l.length), (10, I i)], []⟩ ∧ chk (l.take i) (l.drop i) = chk [] l, ⟨_, _, Wk.keep [0, 2, 8, 9, 10] [], 0, by omega, rfl, rfl, by simp⟩, ?_⟩
    rintro n c ⟨i, hi, rfl, rfl, hI⟩
    refine ⟨fun h => ?_, fun h => ?_⟩
    · simp at h
      obtain ⟨a, ha, hd, ht⟩ := drop_cons h
      rw [hd, chk, ← ht] at hI
      refine ⟨⟨by omega, by omega⟩, encR a, by simp [ha], _, c40 a, fun hf => ?_, fun hf => ?_⟩
      · simp at hf
        rw [show err1 (l.take i) a = 2 by simp [err1, hf]] at hI
        exact ⟨rfl, rfl, by rw [← hI]; rfl⟩
      · simp at hf
        have e1 : err1 (l.take i) a = if badOrd (l.take i) a = true then 5 else if ((a.st == 2) && lentP (l.take i) a.bx) = true then 11 else if (openB a && dblP (l.take i) a.rd a.un) = true then 6 else 0 := by simp [err1, hf]
        by_cases h0 : i = 0
        · subst h0
          have e2 := e1
          rw [if_neg (by simp [badOrd_0])] at e2
          refine ⟨[(2, false)], by simp, fun h => (by cases h), fun h => ?_⟩
          refine ⟨[], ⟨by omega, by omega⟩, _, fnT (i := 0) (by omega) (c41 (l.take 0) (by simp <;> omega) a.bx), fun h2 => ?_, fun h2 => ?_⟩
          · rw [if_pos h2] at e2
            rw [e2] at hI
            exact ⟨rfl, rfl, by rw [← hI]; rfl⟩
          · rw [if_neg (by rw [h2]; simp)] at e2
            refine ⟨[], _, c42 a, ⟨by omega, by omega⟩, _, fnT (i := 0) (by omega) (c36 (l.take 0) (by simp <;> omega) a.rd a.un), fun h3 => ?_, fun h3 => ?_⟩
            · rw [if_pos h3] at e2
              rw [e2] at hI
              exact ⟨rfl, rfl, by rw [← hI]; rfl⟩
            · rw [if_neg (by rw [h3]; simp)] at e2
              rw [e2] at hI
              refine ⟨_, wrap64 (by omega) (by omega), ?_⟩
              exact ⟨_, _, Wk.keep [0, 2, 8, 9, 10] [], by omega, 0 + 1, by omega, rfl, rfl, hI⟩
        · obtain ⟨p, hp⟩ : ∃ p, l[i - 1]? = some p := ⟨l[i-1], by simp⟩
          rw [badOrd_i h0 (by omega) hp] at e1
          have e2 := e1
          refine ⟨[(2, true)], by simp; omega, _, wrap64 (by omega) (by omega), ⟨by omega, by omega⟩, encR p, get_map' hp (by omega), _, wrap64 (by omega) (by omega), ⟨by omega, by omega⟩, encR p, get_map' hp (by omega), fun h => ?_, fun h => ?_⟩
          · rw [if_pos (by simpa using h)] at e2
            rw [e2] at hI
            exact ⟨rfl, rfl, by rw [← hI]; rfl⟩
          · rw [if_neg (by simpa using h)] at e2
            refine ⟨[], ⟨by omega, by omega⟩, _, fnT (i := i) (by omega) (c41 (l.take i) (by simp <;> omega) a.bx), fun h2 => ?_, fun h2 => ?_⟩
            · rw [if_pos h2] at e2
              rw [e2] at hI
              exact ⟨rfl, rfl, by rw [← hI]; rfl⟩
            · rw [if_neg (by rw [h2]; simp)] at e2
              refine ⟨[], _, c42 a, ⟨by omega, by omega⟩, _, fnT (i := i) (by omega) (c36 (l.take i) (by simp <;> omega) a.rd a.un), fun h3 => ?_, fun h3 => ?_⟩
              · rw [if_pos h3] at e2
                rw [e2] at hI
                exact ⟨rfl, rfl, by rw [← hI]; rfl⟩
              · rw [if_neg (by rw [h3]; simp)] at e2
                rw [e2] at hI
                refine ⟨_, wrap64 (by omega) (by omega), ?_⟩
                exact ⟨_, _, Wk.keep [0, 2, 8, 9, 10] [], by omega, i + 1, by omega, rfl, rfl, hI⟩
    · simp at h
      have : i = l.length := by omega
      subst this
      simp [chk] at hI
      exact ⟨rfl, rfl, by rw [← hI]; rfl⟩
def q1 (a x : Req) : Bool := (x.st == 2) && (a.st == 2) && (x.bx == a.bx)
def q2 (a x : Req) : Bool := openB x && openB a && (x.rd == a.rd) && (x.un == a.un)
theorem any_q1 (l : List Req) (a : Req) : l.any (q1 a) = ((a.st == 2) && lentP l a.bx) := by
  rw [Bool.eq_iff_iff]
  simp only [List.any_eq_true, lentP, q1, Bool.and_eq_true]
  constructor
  · rintro ⟨x, hx, ⟨h1, h2⟩, h3⟩; exact ⟨h2, x, hx, h1, h3⟩
  · rintro ⟨h2, x, hx, h1, h3⟩; exact ⟨x, hx, ⟨h1, h2⟩, h3⟩
theorem any_q2 (l : List Req) (a : Req) : l.any (q2 a) = (openB a && dblP l a.rd a.un) := by
  rw [Bool.eq_iff_iff]
  simp only [List.any_eq_true, dblP, q2, Bool.and_eq_true]
  constructor
  · rintro ⟨x, hx, ⟨⟨h1, h2⟩, h3⟩, h4⟩; exact ⟨h2, x, hx, ⟨h1, h3⟩, h4⟩
  · rintro ⟨h2, x, hx, ⟨h1, h3⟩, h4⟩; exact ⟨x, hx, ⟨⟨h1, h2⟩, h3⟩, h4⟩
theorem mem_take {α : Type} {l : List α} {i j : Nat} {x : α} (hx : l[j]? = some x) (h : j < i) : x ∈ l.take i := List.mem_of_getElem? (i := j) (by rw [List.getElem?_take, if_pos h]; exact hx)
theorem c16 (l : List Req) : Fn Try.prog 16 [A l] (I (checkE l)) := by
  refine mk16 rfl ⟨fun h => ?_, fun h => ?_⟩
  · simp at h
    exact ⟨rfl, rfl, by rw [checkE_big (by omega)]; rfl⟩
  · simp at h
    rw [checkE_le (by omega)]
    refine ⟨fun n c => ∃ i : Nat, i ≤ l.length ∧ n = l.length - i ∧ c = ⟨[(0, A l), (2, I 0), (12, A l), (13, I l.length), (14, I i)], []⟩ ∧ chk (l.take i) (l.drop i) = chk [] l, ⟨_, _, Wk.keep [0, 2, 12, 13, 14] [], 0, by omega, rfl, rfl, by simp⟩, ?_⟩
    rintro n c ⟨i, hi, rfl, rfl, hI⟩
    refine ⟨fun h => ?_, fun h => ?_⟩
    · simp at h
      obtain ⟨a, ha, hd, ht⟩ := drop_cons h
      rw [hd, chk, ← ht] at hI
      refine ⟨⟨by omega, by omega⟩, encR a, by simp [ha], _, c43 a, fun hf => ?_, fun hf => ?_⟩
      · simp at hf
        rw [show err1 (l.take i) a = 2 by simp [err1, hf]] at hI
        exact ⟨rfl, rfl, by rw [← hI]; rfl⟩
      · simp at hf
        have e1 : err1 (l.take i) a = if badOrd (l.take i) a = true then 5 else if ((a.st == 2) && lentP (l.take i) a.bx) = true then 11 else if (openB a && dblP (l.take i) a.rd a.un) = true then 6 else 0 := by simp [err1, hf]
        have rest : badOrd (l.take i) a = false → err1 (l.take i) a = if ((a.st == 2) && lentP (l.take i) a.bx) = true then 11 else if (openB a && dblP (l.take i) a.rd a.un) = true then 6 else 0 := fun hb => by rw [e1, if_neg (by simp [hb])]
        by_cases h0 : i = 0
        · have e2 := rest (by subst h0; rfl)
          refine ⟨[(2, false)], by simp; omega, fun h => (by cases h), fun h => ?_⟩
          have hid : ∀ j, j ≤ i → j ≤ l.length := fun j hj => by omega
          refine ⟨⟨by omega, by omega⟩, ?_⟩
          refine ⟨fun n c => ∃ j : Nat, j ≤ i ∧ n = i - j ∧ c = ⟨[(0, A l), (2, I 0), (3, I i), (4, .ovar 64 0), (12, A l), (13, I l.length), (14, I i), (48, .rsl 7 i ((l.map encR).take i)), (49, I i), (50, I j)], [(64, ⟨24, 7, .any, [encR a]⟩)]⟩ ∧ (l.take j).any (q1 a) = false, ⟨_, _, Wk.keep [0, 2, 3, 4, 12, 13, 14, 48, 49, 50] [64], 0, by omega, rfl, rfl, by simp⟩, ?_⟩
          rintro n c ⟨j, hj, rfl, rfl, hJ⟩
          refine ⟨fun h => ?_, fun h => ?_⟩
          · simp at h
            obtain ⟨x, hx, _, htx⟩ := drop_cons (l := l) (i := j) (by omega)
            refine ⟨⟨by omega, by omega⟩, encR x, by simp [hx, h], [], fun hq => ?_, fun hq => ?_⟩
            · have hq : q1 a x = true := hq
              have : (l.take i).any (q1 a) = true := List.any_eq_true.2 ⟨x, mem_take hx h, hq⟩
              rw [any_q1] at this
              rw [if_pos this] at e2
              rw [e2] at hI
              exact ⟨rfl, rfl, by rw [← hI]; rfl⟩
            · have hq : q1 a x = false := hq
              refine ⟨_, wrap64 (by omega) (by omega), ?_⟩
              refine ⟨_, _, Wk.keep [0, 2, 3, 4, 12, 13, 14, 48, 49, 50] [64], by omega, j + 1, by omega, rfl, rfl, ?_⟩
              rw [htx, List.any_append, hJ]; simp [hq]
          · simp at h
            have : j = i := by omega
            subst this
            rw [any_q1] at hJ
            rw [if_neg (by rw [hJ]; simp)] at e2
            refine ⟨⟨by omega, by omega⟩, ?_⟩
            refine ⟨fun n c => ∃ k : Nat, k ≤ j ∧ n = j - k ∧ c = ⟨[(0, A l), (2, I 0), (3, I j), (4, .ovar 64 0), (12, A l), (13, I l.length), (14, I j), (72, .rsl 7 j ((l.map encR).take j)), (73, I j), (74, I k)], [(64, ⟨24, 7, .any, [encR a]⟩)]⟩ ∧ (l.take k).any (q2 a) = false, ⟨_, _, Wk.keep [0, 2, 3, 4, 12, 13, 14, 72, 73, 74] [64], 0, by omega, rfl, rfl, by simp⟩, ?_⟩
            rintro n c ⟨k, hk, rfl, rfl, hK⟩
            refine ⟨fun h => ?_, fun h => ?_⟩
            · simp at h
              obtain ⟨x, hx, _, htx⟩ := drop_cons (l := l) (i := k) (by omega)
              refine ⟨⟨by omega, by omega⟩, encR x, by simp [hx, h], [], _, c39 x, _, c39 a, fun hq => ?_, fun hq => ?_⟩
              · have hq : q2 a x = true := hq
                have : (l.take j).any (q2 a) = true := List.any_eq_true.2 ⟨x, mem_take hx h, hq⟩
                rw [any_q2] at this
                rw [if_pos this] at e2
                rw [e2] at hI
                exact ⟨rfl, rfl, by rw [← hI]; rfl⟩
              · have hq : q2 a x = false := hq
                refine ⟨_, wrap64 (by omega) (by omega), ?_⟩
                refine ⟨_, _, Wk.keep [0, 2, 3, 4, 12, 13, 14, 72, 73, 74] [64], by omega, k + 1, by omega, rfl, rfl, ?_⟩
                rw [htx, List.any_append, hK]; simp [hq]
            · simp at h
              have : k = j := by omega
              subst this
              rw [any_q2] at hK
              rw [if_neg (by rw [hK]; simp)] at e2
              rw [e2] at hI
              refine ⟨_, wrap64 (by omega) (by omega), ?_⟩
              exact ⟨_, _, Wk.keep [0, 2, 12, 13, 14] [], by omega, k + 1, by omega, rfl, rfl, hI⟩
        · obtain ⟨p, hp⟩ : ∃ p, l[i - 1]? = some p := ⟨l[i-1], by simp⟩
          rw [badOrd_i h0 (by omega) hp] at e1
          refine ⟨[(2, true)], by simp; omega, _, wrap64 (by omega) (by omega), ⟨by omega, by omega⟩, encR p, get_map' hp (by omega), _, wrap64 (by omega) (by omega), ⟨by omega, by omega⟩, encR p, get_map' hp (by omega), fun h => ?_, fun h => ?_⟩
          · rw [if_pos (by simpa using h)] at e1
            rw [e1] at hI
            exact ⟨rfl, rfl, by rw [← hI]; rfl⟩
          · rw [if_neg (by simpa using h)] at e1
            have e2 := e1
            have hid : ∀ j, j ≤ i → j ≤ l.length := fun j hj => by omega
            refine ⟨⟨by omega, by omega⟩, ?_⟩
            refine ⟨fun n c => ∃ j : Nat, j ≤ i ∧ n = i - j ∧ c = ⟨[(0, A l), (2, I 0), (3, I i), (4, .ovar 64 0), (12, A l), (13, I l.length), (14, I i), (48, .rsl 7 i ((l.map encR).take i)), (49, I i), (50, I j)], [(64, ⟨24, 7, .any, [encR a]⟩)]⟩ ∧ (l.take j).any (q1 a) = false, ⟨_, _, Wk.keep [0, 2, 3, 4, 12, 13, 14, 48, 49, 50] [64], 0, by omega, rfl, rfl, by simp⟩, ?_⟩
            rintro n c ⟨j, hj, rfl, rfl, hJ⟩
            refine ⟨fun h => ?_, fun h => ?_⟩
            · simp at h
              obtain ⟨x, hx, _, htx⟩ := drop_cons (l := l) (i := j) (by omega)
              refine ⟨⟨by omega, by omega⟩, encR x, by simp [hx, h], [], fun hq => ?_, fun hq => ?_⟩
              · have hq : q1 a x = true := hq
                have : (l.take i).any (q1 a) = true := List.any_eq_true.2 ⟨x, mem_take hx h, hq⟩
                rw [any_q1] at this
                rw [if_pos this] at e2
                rw [e2] at hI
                exact ⟨rfl, rfl, by rw [← hI]; rfl⟩
              · have hq : q1 a x = false := hq
                refine ⟨_, wrap64 (by omega) (by omega), ?_⟩
                refine ⟨_, _, Wk.keep [0, 2, 3, 4, 12, 13, 14, 48, 49, 50] [64], by omega, j + 1, by omega, rfl, rfl, ?_⟩
                rw [htx, List.any_append, hJ]; simp [hq]
            · simp at h
              have : j = i := by omega
              subst this
              rw [any_q1] at hJ
              rw [if_neg (by rw [hJ]; simp)] at e2
              refine ⟨⟨by omega, by omega⟩, ?_⟩
              refine ⟨fun n c => ∃ k : Nat, k ≤ j ∧ n = j - k ∧ c = ⟨[(0, A l), (2, I 0), (3, I j), (4, .ovar 64 0), (12, A l), (13, I l.length), (14, I j), (72, .rsl 7 j ((l.map encR).take j)), (73, I j), (74, I k)], [(64, ⟨24, 7, .any, [encR a]⟩)]⟩ ∧ (l.take k).any (q2 a) = false, ⟨_, _, Wk.keep [0, 2, 3, 4, 12, 13, 14, 72, 73, 74] [64], 0, by omega, rfl, rfl, by simp⟩, ?_⟩
              rintro n c ⟨k, hk, rfl, rfl, hK⟩
              refine ⟨fun h => ?_, fun h => ?_⟩
              · simp at h
                obtain ⟨x, hx, _, htx⟩ := drop_cons (l := l) (i := k) (by omega)
                refine ⟨⟨by omega, by omega⟩, encR x, by simp [hx, h], [], _, c39 x, _, c39 a, fun hq => ?_, fun hq => ?_⟩
                · have hq : q2 a x = true := hq
                  have : (l.take j).any (q2 a) = true := List.any_eq_true.2 ⟨x, mem_take hx h, hq⟩
                  rw [any_q2] at this
                  rw [if_pos this] at e2
                  rw [e2] at hI
                  exact ⟨rfl, rfl, by rw [← hI]; rfl⟩
                · have hq : q2 a x = false := hq
                  refine ⟨_, wrap64 (by omega) (by omega), ?_⟩
                  refine ⟨_, _, Wk.keep [0, 2, 3, 4, 12, 13, 14, 72, 73, 74] [64], by omega, k + 1, by omega, rfl, rfl, ?_⟩
                  rw [htx, List.any_append, hK]; simp [hq]
              · simp at h
                have : k = j := by omega
                subst this
                rw [any_q2] at hK
                rw [if_neg (by rw [hK]; simp)] at e2
                rw [e2] at hI
                refine ⟨_, wrap64 (by omega) (by omega), ?_⟩
                exact ⟨_, _, Wk.keep [0, 2, 12, 13, 14] [], by omega, k + 1, by omega, rfl, rfl, hI⟩
    · simp at h
      have : i = l.length := by omega
      subst this
      simp [chk] at hI
      exact ⟨rfl, rfl, by rw [← hI]; rfl⟩
end Go.Abs.L42
