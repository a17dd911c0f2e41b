import Derived.Test.YtopkphjjodfdlaaC33a
namespace Go.Abs.L33
open Go Go.Abs Go.Proofs
set_option linter.unusedVariables false
set_option maxRecDepth 20000
def chk (p : Option Agr) : List Agr → Int
  | [] => 0
  | a :: r => if formedB a = false then 2 else match p with
    | some q => if a.id ≤ q.id then 5 else chk (some a) r
    | none => chk (some a) r
def checkE (l : List Agr) : Int := if l.length > 64 then 8 else chk none l
def prev (l : List Agr) (i : Nat) : Option Agr := if i = 0 then none else l[i - 1]?
theorem checkE_big {l : List Agr} (h : 64 < l.length) : checkE l = 8 := if_pos h
theorem checkE_le {l : List Agr} (h : l.length ≤ 64) : checkE l = chk none l := if_neg (by omega)
theorem c14 (l : List Agr) : Fn Try.prog 14 [A l] (I (checkE l)) := by
  refine mk14 rfl ⟨fun h => ?_, fun h => ?_⟩
  · simp at h
    exact ⟨rfl, rfl, by rw [checkE_big (by omega)]; rfl⟩
  · simp at h
    rw [checkE_le (by omega)]
    refine ⟨fun n c => ∃ i : Nat, i ≤ l.length ∧ n = l.length - i ∧ c = ⟨[(0, A l), (2, I 0), (8, A l), (9, I l.length), (10, I i)], []⟩ ∧ chk (prev l i) (l.drop i) = chk none l, ⟨_, _, Wk.keep [0, 2, 8, 9, 10] [], 0, by omega, rfl, rfl, by simp [prev]⟩, ?_⟩
    rintro n c ⟨i, hi, rfl, rfl, hI⟩
    refine ⟨fun h => ?_, fun h => ?_⟩
    · simp at h
      obtain ⟨a, ha, hd, _⟩ := drop_cons h
      rw [hd] at hI
      refine ⟨⟨by omega, by omega⟩, encA a, by simp [ha], ?_⟩
      refine ⟨_, c35 a, fun hf => ?_, fun hf => ?_⟩
      · simp at hf
        refine ⟨rfl, rfl, ?_⟩
        simp [chk, hf] at hI
        rw [← hI]; rfl
      · simp at hf
        by_cases h0 : i = 0
        · subst h0
          refine ⟨[(2, false)], by simp, fun h => ?_, fun h => ?_⟩
          · cases h
          · refine ⟨_, wrap64 (by omega) (by omega), ?_⟩
            refine ⟨_, _, Wk.keep [0, 2, 8, 9, 10] [], ?_, 1, by omega, rfl, rfl, ?_⟩
            · omega
            · simp [chk, hf, prev] at hI
              simp [prev, ha, ← hI]
        · obtain ⟨p, hp⟩ : ∃ p, l[i - 1]? = some p := ⟨l[i-1], by simp⟩
          have hI' : (if a.id ≤ p.id then 5 else chk (some a) (l.drop (i + 1))) = chk none l := by simpa [chk, hf, prev, h0, hp] using hI
          refine ⟨[(2, true)], by simp; omega, _, wrap64 (by omega) (by omega), ⟨by omega, by omega⟩, encA p, ?_, fun h => ?_, fun h => ?_⟩
          · exact get_map' hp (by omega)
          · simp at h
            rw [if_pos h] at hI'
            exact ⟨rfl, rfl, by rw [← hI']; rfl⟩
          · simp at h
            rw [if_neg (by omega)] at hI'
            refine ⟨_, wrap64 (by omega) (by omega), ?_⟩
            refine ⟨_, _, Wk.keep [0, 2, 8, 9, 10] [], ?_, i + 1, by omega, rfl, rfl, ?_⟩
            · omega
            · simpa [prev, ha] using hI'
    · simp at h
      have : i = l.length := by omega
      subst this
      simp [chk] at hI
      exact ⟨rfl, rfl, by rw [← hI]; rfl⟩
theorem c16 (l : List Agr) : Fn Try.prog 16 [A l] (I (checkE l)) := by
  refine mk16 rfl ⟨fun h => ?_, fun h => ?_⟩
  · simp at h
    exact ⟨rfl, rfl, by rw [checkE_big (by omega)]; rfl⟩
  · simp at h
    rw [checkE_le (by omega)]
    refine ⟨fun n c => ∃ i : Nat, i ≤ l.length ∧ n = l.length - i ∧ c = ⟨[(0, A l), (2, I 0), (8, A l), (9, I l.length), (10, I i)], []⟩ ∧ chk (prev l i) (l.drop i) = chk none l, ⟨_, _, Wk.keep [0, 2, 8, 9, 10] [], 0, by omega, rfl, rfl, by simp [prev]⟩, ?_⟩
    rintro n c ⟨i, hi, rfl, rfl, hI⟩
    refine ⟨fun h => ?_, fun h => ?_⟩
    · simp at h
      obtain ⟨a, ha, hd, _⟩ := drop_cons h
      rw [hd] at hI
      refine ⟨⟨by omega, by omega⟩, encA a, by simp [ha], ?_⟩
      refine ⟨_, c36 a, fun hf => ?_, fun hf => ?_⟩
      · simp at hf
        refine ⟨rfl, rfl, ?_⟩
        simp [chk, hf] at hI
        rw [← hI]; rfl
      · simp at hf
        by_cases h0 : i = 0
        · subst h0
          refine ⟨[(2, false)], by simp, fun h => ?_, fun h => ?_⟩
          · cases h
          · refine ⟨_, wrap64 (by omega) (by omega), ?_⟩
            refine ⟨_, _, Wk.keep [0, 2, 8, 9, 10] [], ?_, 1, by omega, rfl, rfl, ?_⟩
            · omega
            · simp [chk, hf, prev] at hI
              simp [prev, ha, ← hI]
        · obtain ⟨p, hp⟩ : ∃ p, l[i - 1]? = some p := ⟨l[i-1], by simp⟩
          have hI' : (if a.id ≤ p.id then 5 else chk (some a) (l.drop (i + 1))) = chk none l := by simpa [chk, hf, prev, h0, hp] using hI
          refine ⟨[(2, true)], by simp; omega, _, wrap64 (by omega) (by omega), ⟨by omega, by omega⟩, encA p, ?_, fun h => ?_, fun h => ?_⟩
          · exact get_map' hp (by omega)
          · simp at h
            rw [if_pos h] at hI'
            exact ⟨rfl, rfl, by rw [← hI']; rfl⟩
          · simp at h
            rw [if_neg (by omega)] at hI'
            refine ⟨_, wrap64 (by omega) (by omega), ?_⟩
            refine ⟨_, _, Wk.keep [0, 2, 8, 9, 10] [], ?_, i + 1, by omega, rfl, rfl, ?_⟩
            · omega
            · simpa [prev, ha] using hI'
    · simp at h
      have : i = l.length := by omega
      subst this
      simp [chk] at hI
      exact ⟨rfl, rfl, by rw [← hI]; rfl⟩
/-- the first index at which p holds, or -1 -/
def idxF {α : Type} (p : α → Bool) : Nat → List α → Int
  | _, [] => -1
  | k, a :: r => if p a = true then k else idxF p (k + 1) r
theorem c27 (l : List Agr) (hl : l.length ≤ 9223372036854775807) (p : Agr → Bool) (g : FuncId) (xs : List AV) (hp : ∀ a ∈ l, Fn Try.prog g [.agg (encA a), .rptr xs 0] (.bool (p a))) : Fn Try.prog 27 [A l, .func g [.rptr xs 0]] (I (idxF p 0 l)) := by
  refine mk27 rfl ?_
  refine ⟨fun n c => ∃ i : Nat, i ≤ l.length ∧ n = l.length - i ∧ c = ⟨[(0, A l), (1, .func g [.rptr xs 0]), (4, I 0), (7, I l.length), (8, I i)], []⟩ ∧ idxF p i (l.drop i) = idxF p 0 l, ⟨_, _, Wk.keep [0, 1, 4, 7, 8] [], 0, by omega, rfl, rfl, by simp⟩, ?_⟩
  rintro n c ⟨i, hi, rfl, rfl, hI⟩
  refine ⟨fun h => ?_, fun h => ?_⟩
  · simp at h
    obtain ⟨a, ha, hd, _⟩ := drop_cons h
    rw [hd, idxF] at hI
    refine ⟨⟨by omega, by omega⟩, encA a, by simp [ha], _, hp a (List.mem_of_getElem? ha), fun hf => ?_, fun hf => ?_⟩
    · rw [if_pos hf] at hI
      exact ⟨rfl, rfl, by rw [← hI]; rfl⟩
    · rw [if_neg (by simp [hf])] at hI
      refine ⟨_, wrap64 (by omega) (by omega), ?_⟩
      exact ⟨_, _, Wk.keep [0, 1, 4, 7, 8] [], by omega, i + 1, by omega, rfl, rfl, hI⟩
  · simp at h
    have : i = l.length := by omega
    subst this
    simp [idxF] at hI
    exact ⟨rfl, rfl, by rw [← hI]; rfl⟩
theorem c37 (l : List Agr) (hl : l.length ≤ 9223372036854775807) (p : Agr → Bool) (g : FuncId) (xs : List AV) (hp : ∀ a ∈ l, Fn Try.prog g [.agg (encA a), .rptr xs 0] (.bool (p a))) : Fn Try.prog 37 [A l, .func g [.rptr xs 0]] (.bool (decide (idxF p 0 l ≥ 0))) :=
  mk37 rfl ⟨_, c27 l hl p g xs hp, rfl, rfl, rfl⟩
theorem c43 (l : List Gr) (hl : l.length ≤ 9223372036854775807) (p : Gr → Bool) (g : FuncId) (xs : List AV) (hp : ∀ a ∈ l, Fn Try.prog g [.agg (encG a), .rptr xs 0] (.bool (p a))) : Fn Try.prog 43 [G l, .func g [.rptr xs 0]] (I (idxF p 0 l)) := by
  refine mk43 rfl ?_
  refine ⟨fun n c => ∃ i : Nat, i ≤ l.length ∧ n = l.length - i ∧ c = ⟨[(0, G l), (1, .func g [.rptr xs 0]), (4, I 0), (7, I l.length), (8, I i)], []⟩ ∧ idxF p i (l.drop i) = idxF p 0 l, ⟨_, _, Wk.keep [0, 1, 4, 7, 8] [], 0, by omega, rfl, rfl, by simp⟩, ?_⟩
  rintro n c ⟨i, hi, rfl, rfl, hI⟩
  refine ⟨fun h => ?_, fun h => ?_⟩
  · simp at h
    obtain ⟨a, ha, hd, _⟩ := drop_cons h
    rw [hd, idxF] at hI
    refine ⟨⟨by omega, by omega⟩, encG a, by simp [ha], _, hp a (List.mem_of_getElem? ha), fun hf => ?_, fun hf => ?_⟩
    · rw [if_pos hf] at hI
      exact ⟨rfl, rfl, by rw [← hI]; rfl⟩
    · rw [if_neg (by simp [hf])] at hI
      refine ⟨_, wrap64 (by omega) (by omega), ?_⟩
      exact ⟨_, _, Wk.keep [0, 1, 4, 7, 8] [], by omega, i + 1, by omega, rfl, rfl, hI⟩
  · simp at h
    have : i = l.length := by omega
    subst this
    simp [idxF] at hI
    exact ⟨rfl, rfl, by rw [← hI]; rfl⟩
theorem c29 (l : List Gr) (hl : l.length ≤ 9223372036854775807) (p : Gr → Bool) (g : FuncId) (xs : List AV) (hp : ∀ a ∈ l, Fn Try.prog g [.agg (encG a), .rptr xs 0] (.bool (p a))) : Fn Try.prog 29 [G l, .func g [.rptr xs 0]] (.bool (decide (idxF p 0 l ≥ 0))) :=
  mk29 rfl ⟨_, c43 l hl p g xs hp, rfl, rfl, rfl⟩
theorem c28 (a : Agr) (id : Int) : Fn Try.prog 28 [.agg (encA a), .rptr [I id] 0] (.bool (a.id == id)) := mk28 rfl ⟨rfl, rfl, rfl⟩
theorem c42 (a : Agr) (id : Int) : Fn Try.prog 42 [.agg (encA a), .rptr [I id] 0] (.bool (a.id == id)) := mk42 rfl ⟨rfl, rfl, rfl⟩
theorem c32 (a : Agr) (id : Int) : Fn Try.prog 32 [.agg (encA a), .rptr [I id] 0] (.bool (a.acc == id)) := mk32 rfl ⟨rfl, rfl, rfl⟩
theorem c38 (a : Agr) (id : Int) : Fn Try.prog 38 [.agg (encA a), .rptr [I id] 0] (.bool ((a.id == id) && a.strict)) := mk38 rfl ⟨[], rfl, rfl, rfl⟩
theorem c30 (g : Gr) (a : Agr) : Fn Try.prog 30 [.agg (encG g), .rptr (encA a) 0] (.bool (g.src == a.id)) := mk30 rfl ⟨rfl, rfl, rfl⟩
def strictE (l : List Agr) (id : Int) : Bool := (checkE l == 0) && decide (idxF (fun a => (a.id == id) && a.strict) 0 l ≥ 0)
theorem c17 (l : List Agr) (hl : l.length ≤ 9223372036854775807) (id : Int) : Fn Try.prog 17 [A l, I id] (.bool (strictE l id)) :=
  mk17 rfl ⟨[], _, c14 l, _, c37 l hl _ 38 [I id] (fun a _ => c38 a id), rfl, rfl, rfl⟩
end Go.Abs.L33
