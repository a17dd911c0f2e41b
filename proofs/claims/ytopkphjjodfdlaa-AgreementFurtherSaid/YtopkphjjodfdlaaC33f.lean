import Derived.Test.YtopkphjjodfdlaaC33e
namespace Go.Abs.L33
open Go Go.Abs Go.Proofs
set_option linter.unusedVariables false
set_option maxRecDepth 20000
theorem idxF_spec {α : Type} (p : α → Bool) : ∀ (l : List α) (k : Nat), (idxF p k l = -1 ∧ ∀ a ∈ l, p a = false) ∨ ∃ (i : Nat) (a : α), l[i]? = some a ∧ p a = true ∧ idxF p k l = (k + i : Nat) ∧ ∀ (j : Nat) b, j < i → l[j]? = some b → p b = false
  | [], k => .inl ⟨rfl, by simp⟩
  | a :: r, k => by
    simp only [idxF]
    split
    · rename_i h
      exact .inr ⟨0, a, by simp, h, by simp, by omega⟩
    · rename_i h
      rcases idxF_spec p r (k + 1) with ⟨h1, h2⟩ | ⟨i, b, h1, h2, h3, h4⟩
      · exact .inl ⟨h1, by simpa using ⟨by simpa using h, h2⟩⟩
      · refine .inr ⟨i + 1, b, by simpa using h1, h2, by rw [h3]; congr 1; omega, fun j c hj hc => ?_⟩
        cases j with
        | zero => simp at hc; subst hc; simpa using h
        | succ j => exact h4 j c (by omega) (by simpa using hc)
def amendBad (b a : Agr) (day : Int) : Bool := decide (day ≤ b.lo) || decide (day ≥ b.hi) || decide (a.til < 0) || decide (a.til > 1048576) || decide (a.id < 1) || decide (a.id > 1073741824)
def amendNew (b a : Agr) (day : Int) : Agr := ⟨a.id, b.acc, a.til, a.strict, day, b.hi⟩
def amendAt (l : List Agr) (i : Nat) (b z : Agr) (day : Int) (a : Agr) : List Agr × Int :=
  if amendBad b a day = true then ([], 2) else if a.id ≤ z.id then ([], 5) else if l.length ≥ 64 then ([], 12) else (l.set i { b with hi := day } ++ [amendNew b a day], 0)
def amendE (l : List Agr) (id day : Int) (a : Agr) : List Agr × Int :=
  if checkE l ≠ 0 then ([], 1) else if idxF (fun x => x.id == id) 0 l < 0 then ([], 7) else match l[(idxF (fun x : Agr => x.id == id) 0 l).toNat]?, l[l.length - 1]? with
    | some b, some z => amendAt l (idxF (fun x => x.id == id) 0 l).toNat b z day a
    | _, _ => ([], 7)
theorem map_set' {l : List Agr} {i : Nat} {a : Agr} : (l.map encA).set i (encA a) = (l.set i a).map encA := by rw [List.map_set]
theorem ret_set {l : List Agr} {i : Nat} {b' n : Agr} : AV.fsl true 29 6 (l.set i b' ++ [n]).length ((l.set i b' ++ [n]).map encA) = AV.fsl true 29 6 (l.length + 1) (((l.map encA).set i (encA b')).take l.length ++ [encA n]) := by
  rw [map_set', List.take_of_length_le (by simp), List.length_append, List.length_set, List.map_append]
  rfl
theorem ret_len {l : List Agr} {i : Nat} {b' n : Agr} : l.length + 1 = (((l.map encA).set i (encA b')).take l.length ++ [encA n]).length := by simp
theorem c24 (l : List Agr) (id day : Int) (a : Agr) : Fn Try.prog 24 [A l, I id, I day, .agg (encA a)] (.tup [fA (amendE l id day a).1, I (amendE l id day a).2]) := by
  refine mk24 rfl ⟨_, c14 l, fun h => ?_, fun h => ?_⟩
  · simp at h
    rw [amendE, if_pos h]
    exact ⟨_, _, rfl, .inr ⟨_, _, _, rfl⟩, rfl, rfl, trivial⟩
  · simp at h
    have hl := check_len h
    rw [amendE, if_neg (by simp [h])]
    refine ⟨_, c27 l (by omega) (fun x => x.id == id) 42 [I id] (fun a _ => c42 a id), fun h => ?_, fun h => ?_⟩
    · simp at h
      rw [if_pos h]
      exact ⟨_, _, rfl, .inr ⟨_, _, _, rfl⟩, rfl, rfl, trivial⟩
    · simp at h
      rw [if_neg (by omega)]
      rcases idxF_spec (fun x : Agr => x.id == id) l 0 with ⟨h1, _⟩ | ⟨i, b, hb, _, hi, _⟩
      · rw [h1] at h; omega
      · rw [Nat.zero_add] at hi
        rw [hi]
        have hil : i < l.length := (List.getElem?_eq_some_iff.1 hb).1
        obtain ⟨z, hz⟩ : ∃ z, l[l.length - 1]? = some z := ⟨l[l.length - 1], by simp⟩
        simp only [Int.toNat_natCast, hb, hz]
        refine ⟨⟨by omega, by omega⟩, encA b, by simp [hb], [], fun hf => ?_, fun hf => ?_⟩
        · have hf : amendBad b a day = true := hf
          rw [amendAt, if_pos hf]
          exact ⟨_, _, rfl, .inr ⟨_, _, _, rfl⟩, rfl, rfl, trivial⟩
        · have hf : amendBad b a day = false := hf
          rw [amendAt, if_neg (by rw [hf]; simp)]
          refine ⟨_, wrap64 (by omega) (by omega), ⟨by omega, by omega⟩, encA z, get_map' hz (by omega), fun hf => ?_, fun hf => ?_⟩
          · simp at hf
            rw [if_pos hf]
            exact ⟨_, _, rfl, .inr ⟨_, _, _, rfl⟩, rfl, rfl, trivial⟩
          · simp at hf
            rw [if_neg (by omega)]
            refine ⟨fun hf => ?_, fun hf => ?_⟩
            · simp at hf
              rw [if_pos (by omega)]
              exact ⟨_, _, rfl, .inr ⟨_, _, _, rfl⟩, rfl, rfl, trivial⟩
            · simp at hf
              rw [if_neg (by omega)]
              refine ⟨_, c15 l (by omega), ⟨by omega, by omega⟩, encA b, by simp [hb], ⟨by show (_ + 1) * 48 ≤ _; omega, by omega⟩, ?_⟩
              refine ⟨_, _, rfl, ⟨_, rfl, rfl, ret_len (l := l) (i := i) (b' := { b with hi := day }) (n := amendNew b a day), .inl ⟨rfl, ret_set⟩⟩, rfl, rfl, trivial⟩
theorem c25 (l : List Agr) (id day : Int) (a : Agr) : Fn Try.prog 25 [A l, I id, I day, .agg (encA a)] (.tup [fA (amendE l id day a).1, I (amendE l id day a).2]) := by
  refine mk25 rfl ⟨_, c16 l, fun h => ?_, fun h => ?_⟩
  · simp at h
    rw [amendE, if_pos h]
    exact ⟨_, _, rfl, .inr ⟨_, _, _, rfl⟩, rfl, rfl, trivial⟩
  · simp at h
    have hl := check_len h
    rw [amendE, if_neg (by simp [h])]
    refine ⟨⟨by show (_ + l.length) * 48 ≤ _; omega, by omega⟩, scalA l, ?_⟩
    refine ⟨fun n c => ∃ i : Nat, i ≤ l.length ∧ n = l.length - i ∧ c = ⟨[(0, A l), (1, I id), (2, I day), (7, .ovar 112 0), (8, .nilsl), (9, I 0), (10, .osl 256 6 (0 + l.length)), (19, .osl 256 6 (0 + l.length)), (20, I (0 + l.length : Nat)), (21, I i)], [(112, ⟨29, 6, .any, [encA a]⟩), (256, ⟨29, 6, .pure, l.map encA⟩)]⟩ ∧ idxF (fun x : Agr => x.id == id) i (l.drop i) = idxF (fun x => x.id == id) 0 l, ⟨_, _, Wk.keep [0, 1, 2, 7, 8, 9, 10, 19, 20, 21] [112, 256], 0, by omega, rfl, rfl, by simp⟩, ?_⟩
    rintro n c ⟨i, hi, rfl, rfl, hI⟩
    refine ⟨fun h => ?_, fun h => ?_⟩
    · simp at h
      obtain ⟨b, hb, hd, _⟩ := drop_cons h
      rw [hd, idxF] at hI
      refine ⟨⟨by omega, by omega⟩, encA b, by simp [hb], fun hf => ?_, fun hf => ?_⟩
      · simp at hf
        rw [if_neg (by simpa using hf)] at hI
        refine ⟨_, wrap64 (by omega) (by omega), ?_⟩
        exact ⟨_, _, Wk.keep [0, 1, 2, 7, 8, 9, 10, 19, 20, 21] [112, 256], by omega, i + 1, by omega, rfl, rfl, hI⟩
      · simp at hf
        rw [if_pos (by simpa using hf)] at hI
        rw [← hI, if_neg (by omega)]
        obtain ⟨z, hz⟩ : ∃ z, l[l.length - 1]? = some z := ⟨l[l.length - 1], by simp⟩
        simp only [Int.toNat_natCast, hb, hz]
        refine ⟨[], fun hf => ?_, fun hf => ?_⟩
        · have hf : amendBad b a day = true := hf
          rw [amendAt, if_pos hf]
          exact ⟨_, _, rfl, .inr ⟨_, _, _, rfl⟩, rfl, rfl, trivial⟩
        · have hf : amendBad b a day = false := hf
          rw [amendAt, if_neg (by rw [hf]; simp)]
          refine ⟨_, wrap64 (by omega) (by omega), ⟨by omega, by omega⟩, encA z, get_map' hz (by omega), fun hf => ?_, fun hf => ?_⟩
          · simp at hf
            rw [if_pos hf]
            exact ⟨_, _, rfl, .inr ⟨_, _, _, rfl⟩, rfl, rfl, trivial⟩
          · simp at hf
            rw [if_neg (by omega)]
            refine ⟨fun hf => ?_, fun hf => ?_⟩
            · simp at hf
              rw [if_pos (by omega)]
              exact ⟨_, _, rfl, .inr ⟨_, _, _, rfl⟩, rfl, rfl, trivial⟩
            · simp at hf
              rw [if_neg (by omega)]
              refine ⟨⟨by omega, by omega⟩, encA b, by simp [hb], ⟨by show (_ + 1) * 48 ≤ _; omega, by omega⟩, ?_⟩
              refine ⟨_, _, rfl, ⟨_, rfl, rfl, ?_, .inl ⟨rfl, ?_⟩⟩, rfl, rfl, trivial⟩
              · rw [Nat.zero_add l.length]; exact ret_len (l := l) (i := i) (b' := { b with hi := day }) (n := amendNew b a day)
              · rw [Nat.zero_add l.length]; exact ret_set
    · simp at h
      have : i = l.length := by omega
      subst this
      simp [idxF] at hI
      rw [← hI, if_pos (by omega)]
      exact ⟨_, _, rfl, .inr ⟨_, _, _, rfl⟩, rfl, rfl, trivial⟩
end Go.Abs.L33
