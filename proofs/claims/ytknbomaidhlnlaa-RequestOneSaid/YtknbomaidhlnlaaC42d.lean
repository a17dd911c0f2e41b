import Derived.Test.YtknbomaidhlnlaaC42c
namespace Go.Abs.L42
open Go Go.Abs Go.Proofs
set_option linter.unusedVariables false
set_option maxRecDepth 20000
theorem c53 (l : List Req) (hl : l.length ≤ 9223372036854775807) (n : Int) : Fn Try.prog 53 [A l, I n] (I (indexE l n)) := by
  refine mk53 rfl ?_
  refine ⟨fun m c => ∃ i : Nat, i ≤ l.length ∧ m = l.length - i ∧ c = ⟨[(1, I n), (4, I 0), (7, A l), (8, I l.length), (9, I i)], []⟩ ∧ idxF (fun r : Req => r.id == n) i (l.drop i) = indexE l n, ⟨_, _, Wk.keep [1, 4, 7, 8, 9] [], 0, by omega, rfl, rfl, by simp [indexE]⟩, ?_⟩
  rintro m c ⟨i, hi, rfl, rfl, hI⟩
  refine ⟨fun h => ?_, fun h => ?_⟩
  · simp at h
    obtain ⟨a, ha, hd, _⟩ := drop_cons h
    rw [hd, idxF] at hI
    refine ⟨⟨by omega, by omega⟩, encR a, by simp [ha], fun hf => ?_, fun hf => ?_⟩
    · rw [if_pos hf] at hI
      exact ⟨rfl, rfl, by rw [← hI]; rfl⟩
    · rw [if_neg (by simp [hf])] at hI
      refine ⟨_, wrap64 (by omega) (by omega), ?_⟩
      exact ⟨_, _, Wk.keep [1, 4, 7, 8, 9] [], by omega, i + 1, by omega, rfl, rfl, hI⟩
  · simp at h
    have : i = l.length := by omega
    subst this
    simp [idxF] at hI
    exact ⟨rfl, rfl, by rw [← hI]; rfl⟩
theorem index_get {l : List Req} {n : Int} (h : 0 ≤ indexE l n) : ∃ (i : Nat) (b : Req), l[i]? = some b ∧ b.id = n ∧ indexE l n = i := by
  rcases idxF_spec (fun r : Req => r.id == n) l 0 with ⟨h1, _⟩ | ⟨i, b, h1, h2, h3, _⟩
  · unfold indexE at h; omega
  · exact ⟨i, b, h1, by simpa using h2, by unfold indexE; rw [h3]; simp⟩
/-- what a change of state does -/
def makeE (st : Int) (can : Nat → Bool) (l : List Req) (n d : Int) : List Req × Int :=
  if checkE l ≠ 0 then ([], 1) else if indexE l n < 0 then ([], 7) else match l[(indexE l n).toNat]? with
    | some b => if (decide (d < b.ch) || decide (d > 1048575)) = true then ([], 2) else if can (indexE l n).toNat = false then ([], 11) else (l.set (indexE l n).toNat { b with st := st, ch := d }, 0)
    | none => ([], 7)
theorem map_set' {l : List Req} {i : Nat} {a : Req} : (l.map encR).set i (encR a) = (l.set i a).map encR := by rw [List.map_set]
theorem ret_set {l : List Req} {i : Nat} {b1 b2 : Req} : AV.fsl true 24 7 (l.set i b2).length ((l.set i b2).map encR) = AV.fsl true 24 7 l.length (((l.map encR).set i (encR b1)).set i (encR b2)) := by
  rw [List.set_set, map_set', List.length_set]
theorem len_set {l : List Req} {i : Nat} {b1 b2 : Req} : l.length = (((l.map encR).set i (encR b1)).set i (encR b2)).length := by simp
theorem c47 (st : Int) (can : Nat → Bool) (g : FuncId) (l : List Req) (n d : Int) (hg : ∀ (i : Nat) b, l.length ≤ 256 → l[i]? = some b → Fn Try.prog g [A l, I i] (.bool (can i))) :
    Fn Try.prog 47 [.agg [I st, .func g []], A l, I n, I d] (.tup [fA (makeE st can l n d).1, I (makeE st can l n d).2]) := by
  refine mk47 rfl ⟨_, c15 l, fun h => ?_, fun h => ?_⟩
  · simp at h
    rw [makeE, if_pos h]
    exact ⟨_, _, rfl, .inr ⟨_, _, _, rfl⟩, rfl, rfl, trivial⟩
  · simp at h
    have hl := check_len h
    rw [makeE, if_neg (by simp [h])]
    refine ⟨_, c44 l (by omega) n, fun h => ?_, fun h => ?_⟩
    · simp at h
      rw [if_pos h]
      exact ⟨_, _, rfl, .inr ⟨_, _, _, rfl⟩, rfl, rfl, trivial⟩
    · simp at h
      rw [if_neg (by omega)]
      obtain ⟨i, b, hb, hbn, hi⟩ := index_get h
      have hil : i < l.length := (List.getElem?_eq_some_iff.1 hb).1
      rw [hi]
      simp only [Int.toNat_natCast, hb]
      refine ⟨[], ⟨by omega, by omega⟩, encR b, get_map hb, fun hf => ?_, fun hf => ?_⟩
      · rw [if_pos hf]
        exact ⟨_, _, rfl, .inr ⟨_, _, _, rfl⟩, rfl, rfl, trivial⟩
      · rw [if_neg (by simp [hf])]
        refine ⟨_, hg i b hl hb, fun hf => ?_, fun hf => ?_⟩
        · simp at hf
          rw [if_pos hf]
          exact ⟨_, _, rfl, .inr ⟨_, _, _, rfl⟩, rfl, rfl, trivial⟩
        · simp at hf
          rw [if_neg (by simp [hf])]
          refine ⟨_, c13 l (by omega), ⟨by omega, by omega⟩, encR b, get_map hb, ⟨by omega, by omega⟩, encR { b with st := st }, ?_, ?_⟩
          · show ((l.map encR).set i (encR { b with st := st }))[i]? = _
            simp [hil]
          · exact ⟨_, _, rfl, ⟨_, rfl, rfl, len_set (l := l) (i := i) (b1 := { b with st := st }) (b2 := { b with st := st, ch := d }), .inl ⟨rfl, ret_set (l := l) (i := i) (b1 := { b with st := st }) (b2 := { b with st := st, ch := d })⟩⟩, rfl, rfl, trivial⟩
def canLend (l : List Req) (i : Nat) : Bool := match l[i]? with | some b => (nextE l b.bx == (i : Int)) | none => false
def canSt (l : List Req) (s : Int) (i : Nat) : Bool := match l[i]? with | some b => (b.st == s) | none => false
theorem c46 (l : List Req) (i : Nat) (b : Req) (hl : l.length ≤ 256) (hb : l[i]? = some b) : Fn Try.prog 46 [A l, I i] (.bool (canLend l i)) := by
  have hil : i < l.length := (List.getElem?_eq_some_iff.1 hb).1
  refine mk46 rfl ⟨⟨by omega, by omega⟩, encR b, get_map hb, _, c45 l (by omega) b.bx, rfl, rfl, ?_⟩
  simp only [canLend, hb]; rfl
theorem c51 (l : List Req) (i : Nat) (b : Req) (hl : l.length ≤ 256) (hb : l[i]? = some b) : Fn Try.prog 51 [A l, I i] (.bool (canSt l 2 i)) := by
  have hil : i < l.length := (List.getElem?_eq_some_iff.1 hb).1
  refine mk51 rfl ⟨⟨by omega, by omega⟩, encR b, get_map hb, rfl, rfl, ?_⟩
  simp only [canSt, hb]; rfl
theorem c52 (l : List Req) (i : Nat) (b : Req) (hl : l.length ≤ 256) (hb : l[i]? = some b) : Fn Try.prog 52 [A l, I i] (.bool (canSt l 1 i)) := by
  have hil : i < l.length := (List.getElem?_eq_some_iff.1 hb).1
  refine mk52 rfl ⟨⟨by omega, by omega⟩, encR b, get_map hb, rfl, rfl, ?_⟩
  simp only [canSt, hb]; rfl
def lendE (l : List Req) (n d : Int) := makeE 2 (canLend l) l n d
def returnE (l : List Req) (n d : Int) := makeE 3 (canSt l 2) l n d
def dropSt : Bool → Int | true => 4 | false => 5
def dropE' (l : List Req) (n d : Int) (f : Bool) := makeE (dropSt f) (canSt l 1) l n d
theorem ret_fs {l : List Req} : l.length = (l.map encR).length := by simp
theorem c20 (l : List Req) (n d : Int) : Fn Try.prog 20 [A l, I n, I d] (.tup [fA (lendE l n d).1, I (lendE l n d).2]) :=
  mk20 rfl ⟨_, c47 2 (canLend l) 46 l n d (c46 l), _, _, rfl, ⟨_, rfl, rfl, ret_fs, .inl ⟨rfl, rfl⟩⟩, rfl, rfl, trivial⟩
theorem c24 (l : List Req) (n d : Int) : Fn Try.prog 24 [A l, I n, I d] (.tup [fA (returnE l n d).1, I (returnE l n d).2]) :=
  mk24 rfl ⟨_, c47 3 (canSt l 2) 51 l n d (c51 l), _, _, rfl, ⟨_, rfl, rfl, ret_fs, .inl ⟨rfl, rfl⟩⟩, rfl, rfl, trivial⟩
theorem c26 (l : List Req) (n d : Int) (f : Bool) : Fn Try.prog 26 [A l, I n, I d, .bool f] (.tup [fA (dropE' l n d f).1, I (dropE' l n d f).2]) := by
  refine mk26 rfl ⟨fun h => ?_, fun h => ?_⟩
  · subst h
    exact ⟨_, c47 4 (canSt l 1) 52 l n d (c52 l), _, _, rfl, ⟨_, rfl, rfl, ret_fs, .inl ⟨rfl, rfl⟩⟩, rfl, rfl, trivial⟩
  · subst h
    exact ⟨_, c47 5 (canSt l 1) 52 l n d (c52 l), _, _, rfl, ⟨_, rfl, rfl, ret_fs, .inl ⟨rfl, rfl⟩⟩, rfl, rfl, trivial⟩
theorem c50 (l : List Req) (hl : l.length ≤ 256) (i : Nat) (b : Req) (hb : l[i]? = some b) (s d : Int) : Fn Try.prog 50 [A l, I i, I s, I d] (fA (l.set i { b with st := s, ch := d })) := by
  have hil : i < l.length := (List.getElem?_eq_some_iff.1 hb).1
  refine mk50 rfl ⟨⟨by show (_ + l.length) * 56 ≤ _; omega, by omega⟩, scalR l, ⟨by omega, by omega⟩, encR b, get_map hb, ⟨by omega, by omega⟩, encR { b with st := s }, ?_, rfl, ?_⟩
  · show ((l.map encR).set i (encR { b with st := s }))[i]? = _
    simp [hil]
  · refine ⟨_, rfl, rfl, ?_, .inl ⟨rfl, ?_⟩⟩
    · rw [Nat.zero_add l.length]; exact len_set (l := l) (i := i) (b1 := { b with st := s }) (b2 := { b with st := s, ch := d })
    · rw [Nat.zero_add l.length]; exact ret_set (l := l) (i := i) (b1 := { b with st := s }) (b2 := { b with st := s, ch := d })
def startE (l : List Req) (n d : Int) : Int × Int :=
  if checkE l ≠ 0 then (0, 1) else if indexE l n < 0 then (0, 7) else match l[(indexE l n).toNat]? with
    | some b => if (decide (d < b.ch) || decide (d > 1048575)) = true then (0, 2) else (indexE l n, 0)
    | none => (0, 7)
theorem c49 (l : List Req) (n d : Int) : Fn Try.prog 49 [A l, I n, I d] (.tup [I (startE l n d).1, I (startE l n d).2]) := by
  refine mk49 rfl ⟨_, c16 l, fun h => ?_, fun h => ?_⟩
  · simp at h
    rw [startE, if_pos h]
    exact ⟨_, _, rfl, ⟨rfl, rfl⟩, rfl, rfl, trivial⟩
  · simp at h
    have hl := check_len h
    rw [startE, if_neg (by simp [h])]
    refine ⟨_, c53 l (by omega) n, fun h => ?_, fun h => ?_⟩
    · simp at h
      rw [if_pos h]
      exact ⟨_, _, rfl, ⟨rfl, rfl⟩, rfl, rfl, trivial⟩
    · simp at h
      rw [if_neg (by omega)]
      obtain ⟨i, b, hb, hbn, hi⟩ := index_get h
      have hil : i < l.length := (List.getElem?_eq_some_iff.1 hb).1
      rw [hi]
      simp only [Int.toNat_natCast, hb]
      refine ⟨[], ⟨by omega, by omega⟩, encR b, get_map hb, fun hf => ?_, fun hf => ?_⟩
      · rw [if_pos hf]
        exact ⟨_, _, rfl, ⟨rfl, rfl⟩, rfl, rfl, trivial⟩
      · rw [if_neg (by simp [hf])]
        exact ⟨_, _, rfl, ⟨rfl, rfl⟩, rfl, rfl, trivial⟩
/-- the ways through 'start' -/
theorem start_cases (l : List Req) (n d : Int) : (∃ e, e ≠ 0 ∧ startE l n d = (0, e) ∧ ∀ st can, makeE st can l n d = ([], e)) ∨
    ∃ (i : Nat) (b : Req), checkE l = 0 ∧ l[i]? = some b ∧ b.id = n ∧ startE l n d = ((i : Int), 0) ∧ ∀ st can, makeE st can l n d = if can i = false then ([], 11) else (l.set i { b with st := st, ch := d }, 0) := by
  by_cases hc : checkE l ≠ 0
  · exact .inl ⟨1, by decide, by rw [startE, if_pos hc], fun st can => by rw [makeE, if_pos hc]⟩
  · by_cases hi : indexE l n < 0
    · exact .inl ⟨7, by decide, by rw [startE, if_neg hc, if_pos hi], fun st can => by rw [makeE, if_neg hc, if_pos hi]⟩
    · obtain ⟨i, b, hb, hbn, hie⟩ := index_get (l := l) (n := n) (by omega)
      have e1 : (indexE l n).toNat = i := by rw [hie]; simp
      by_cases hd : (decide (d < b.ch) || decide (d > 1048575)) = true
      · refine .inl ⟨2, by decide, ?_, fun st can => ?_⟩
        · rw [startE, if_neg hc, if_neg hi, e1]; simp only [hb]; rw [if_pos hd]
        · rw [makeE, if_neg hc, if_neg hi, e1]; simp only [hb]; rw [if_pos hd]
      · refine .inr ⟨i, b, by simpa using hc, hb, hbn, ?_, fun st can => ?_⟩
        · rw [startE, if_neg hc, if_neg hi, e1]; simp only [hb]; rw [if_neg hd, hie]
        · rw [makeE, if_neg hc, if_neg hi, e1]; simp only [hb]; rw [if_neg hd]
theorem c25 (l : List Req) (n d : Int) : Fn Try.prog 25 [A l, I n, I d] (.tup [fA (returnE l n d).1, I (returnE l n d).2]) := by
  have h49 := c49 l n d
  rcases start_cases l n d with ⟨e, he, hs, hm⟩ | ⟨i, b, hc, hb, hbn, hs, hm⟩
  · simp only [hs] at h49
    simp only [returnE, hm]
    refine mk25 rfl ⟨_, h49, fun h => ?_, fun h => ?_⟩
    · exact ⟨_, _, rfl, .inr ⟨_, _, _, rfl⟩, rfl, rfl, trivial⟩
    · simp at h; exact absurd h he
  · have hl := check_len hc
    have hil : i < l.length := (List.getElem?_eq_some_iff.1 hb).1
    simp only [hs] at h49
    simp only [returnE, hm, canSt, hb]
    refine mk25 rfl ⟨_, h49, fun h => (by cases h), fun h => ⟨⟨by omega, by omega⟩, encR b, get_map hb, fun hf => ?_, fun hf => ?_⟩⟩
    · have hf : (b.st != 2) = true := hf
      rw [if_pos (by simpa using hf)]
      exact ⟨_, _, rfl, .inr ⟨_, _, _, rfl⟩, rfl, rfl, trivial⟩
    · have hf : (b.st != 2) = false := hf
      rw [if_neg (by simpa using hf)]
      exact ⟨_, c50 l hl i b hb 3 d, _, _, rfl, ⟨_, rfl, rfl, ret_fs, .inl ⟨rfl, rfl⟩⟩, rfl, rfl, trivial⟩
theorem c27 (l : List Req) (n d : Int) (f : Bool) : Fn Try.prog 27 [A l, I n, I d, .bool f] (.tup [fA (dropE' l n d f).1, I (dropE' l n d f).2]) := by
  have h49 := c49 l n d
  rcases start_cases l n d with ⟨e, he, hs, hm⟩ | ⟨i, b, hc, hb, hbn, hs, hm⟩
  · simp only [hs] at h49
    simp only [dropE', hm]
    refine mk27 rfl ⟨_, h49, fun h => ?_, fun h => ?_⟩
    · exact ⟨_, _, rfl, .inr ⟨_, _, _, rfl⟩, rfl, rfl, trivial⟩
    · simp at h; exact absurd h he
  · have hl := check_len hc
    have hil : i < l.length := (List.getElem?_eq_some_iff.1 hb).1
    simp only [hs] at h49
    simp only [dropE', hm, canSt, hb]
    refine mk27 rfl ⟨_, h49, fun h => (by cases h), fun h => ⟨⟨by omega, by omega⟩, encR b, get_map hb, fun hf => ?_, fun hf => ?_⟩⟩
    · have hf : (b.st != 1) = true := hf
      rw [if_pos (by simpa using hf)]
      exact ⟨_, _, rfl, .inr ⟨_, _, _, rfl⟩, rfl, rfl, trivial⟩
    · have hf : (b.st != 1) = false := hf
      rw [if_neg (by simpa using hf)]
      refine ⟨fun h => ?_, fun h => ?_⟩
      · subst h
        exact ⟨_, c50 l hl i b hb 4 d, _, _, rfl, ⟨_, rfl, rfl, ret_fs, .inl ⟨rfl, rfl⟩⟩, rfl, rfl, trivial⟩
      · subst h
        exact ⟨_, c50 l hl i b hb 5 d, _, _, rfl, ⟨_, rfl, rfl, ret_fs, .inl ⟨rfl, rfl⟩⟩, rfl, rfl, trivial⟩
end Go.Abs.L42
