import Derived.Test.YtknbomaidhlnlaaL42b
namespace Go.Abs.L42
open Go Go.Abs Go.Proofs
set_option linter.unusedVariables false
set_option maxRecDepth 20000
def mkq (b x : Int) (k : Nat) : Req := ⟨k + 1, x, k + 1, b, 0, 1, 0⟩
def lst (b x : Int) (n : Nat) : List Req := (List.range n).map (mkq b x)
theorem lst_len (b x : Int) (n : Nat) : (lst b x n).length = n := by simp [lst]
theorem lst_succ (b x : Int) (n : Nat) : lst b x (n + 1) = lst b x n ++ [mkq b x n] := by simp [lst, List.range_succ]
theorem lst_get {b x : Int} {n i : Nat} {a : Req} (h : (lst b x n)[i]? = some a) : i < n ∧ a = mkq b x i := by
  have hi : i < n := by have := (List.getElem?_eq_some_iff.1 h).1; rw [lst_len] at this; exact this
  simp [lst, List.getElem?_map, List.getElem?_range hi] at h
  exact ⟨hi, h.symm⟩
theorem lst_take {b x : Int} {n i : Nat} (h : i ≤ n) : (lst b x n).take i = lst b x i := by
  simp [lst, ← List.map_take, List.take_range, Nat.min_eq_left h]
def rightB (b x : Int) : Bool := decide (b ≥ 1) && decide (b ≤ 1073741824) && decide (x ≥ 1) && decide (x ≤ 1073741824)
theorem right_iff {b x : Int} : rightB b x = true ↔ idB b = true ∧ idB x = true := by
  simp [rightB, idB, and_assoc]
theorem lst_check {b x : Int} (h : rightB b x = true) : checkE (lst b x 256) = 0 := by
  obtain ⟨h1, h2⟩ := right_iff.1 h
  rw [check_iff]
  refine ⟨by rw [lst_len]; omega, fun i a ha => ?_⟩
  obtain ⟨hi, rfl⟩ := lst_get ha
  rw [lst_take (by omega), err1_iff]
  refine ⟨?_, ?_, ?_, ?_⟩
  · rw [formed_iff]
    simp only [mkq]
    refine ⟨by omega, by omega, h2, by simp [idB]; omega, h1, by omega, by omega, by omega, by omega, by omega, by omega, by simp⟩
  · unfold badOrd
    cases i with
    | zero => simp [lst]
    | succ i =>
      rw [lst_succ, List.getLast?_append]
      simp [mkq]
      omega
  · simp [mkq]
  · rw [Bool.and_eq_false_iff]
    right
    rw [dblP, List.any_eq_false]
    intro r hr
    obtain ⟨j, hj⟩ := List.getElem?_of_mem hr
    obtain ⟨hji, rfl⟩ := lst_get hj
    simp [mkq]
    intros
    omega
theorem lst_wrong {b x : Int} (h : rightB b x = false) : checkE (lst b x 256) = 2 := by
  rw [checkE_le (by rw [lst_len]; omega)]
  have : lst b x 256 = mkq b x 0 :: ((List.range' 1 255).map (mkq b x)) := by
    rw [lst, List.range_eq_range']; rfl
  rw [this, chk]
  have he : err1 [] (mkq b x 0) = 2 := by
    have : formedB (mkq b x 0) = false := by
      cases hf : formedB (mkq b x 0) with
      | false => rfl
      | true =>
        rw [formed_iff] at hf
        simp only [mkq] at hf
        rw [right_iff.2 ⟨hf.2.2.2.2.1, hf.2.2.1⟩] at h; cases h
    simp [err1, this]
  rw [he]; rfl
theorem lst_place {b x : Int} (h : rightB b x = true) (d : Req) (hd : d = ⟨257, x, 257, b, 0, 1, 0⟩) : placeE (lst b x 256) d = ([], 12) := by
  subst hd
  obtain ⟨h1, h2⟩ := right_iff.1 h
  rw [placeE, if_neg (by simp [lst_check h]), if_neg, if_neg, if_neg, if_pos (by rw [lst_len]; omega)]
  · have : dblP (lst b x 256) x 257 = false := by
      rw [dblP, List.any_eq_false]
      intro r hr
      obtain ⟨j, hj⟩ := List.getElem?_of_mem hr
      obtain ⟨hji, rfl⟩ := lst_get hj
      simp [mkq]
      intros
      omega
    simp [this]
  · have : badOrd (lst b x 256) ⟨257, x, 257, b, 0, 1, 0⟩ = false := by
      unfold badOrd
      rw [show (256 : Nat) = 255 + 1 from rfl, lst_succ, List.getLast?_append]
      simp [mkq]
    simp [this]
  · simp [badP, h1, h2]
    decide
theorem fnP {f : FuncId} {l : List Req} {n : Req} {us : List AV} {r : AV} (h : Fn Try.prog f (A (l ++ [n]) :: us) r) : Fn Try.prog f (.rsl 7 (l.length + 1) (((l.map encR).take l.length ++ [encR n]).take (l.length + 1)) :: us) r := by
  have : A (l ++ [n]) = .rsl 7 (l.length + 1) (((l.map encR).take l.length ++ [encR n]).take (l.length + 1)) := by
    rw [map_take_all, List.take_of_length_le (by simp)]
    simp [A]
  rw [← this]; exact h
theorem l4 (b x : Int) (hb : i64 b) (hx : i64 x) : Fn Try.prog 4 [I b, I x] (.bool true) := by
  refine mk4 rfl ⟨_, c10, fun h => (by cases h), fun _ => ?_⟩
  refine ⟨fun m c => ∃ k : Nat, k ≤ 256 ∧ m = 256 - k ∧ c = ⟨[(0, I b), (1, I x), (4, .bool false), (5, .osl 400 7 (lst b x k).length), (13, I k)], [(400, ⟨24, 7, .pure, (lst b x k).map encR⟩)]⟩, ⟨_, _, Wk.nilKeep 5 400 ⟨24, 7, .pure, []⟩ [0, 1, 4, 5, 13] [400] rfl rfl rfl, 0, by omega, rfl, rfl⟩, ?_⟩
  rintro m c ⟨k, hk, rfl, rfl⟩
  have hkl := lst_len b x k
  refine ⟨fun h => ?_, fun h => ?_⟩
  · simp at h
    refine ⟨_, wrap64 (by omega) (by omega), _, wrap64 (by omega) (by omega), ⟨by show (_ + 1) * 56 ≤ _; omega, by omega⟩, _, wrap64 (by omega) (by omega), ?_⟩
    refine ⟨_, _, Wk.keep [0, 1, 4, 5, 13] [400], by omega, k + 1, by omega, rfl, ?_⟩
    rw [lst_succ, List.map_append, List.length_append]
    exact cfg1 rfl (take_app _ _ (by simp))
  · simp at h
    have : k = 256 := by omega
    subst this
    have h15 := c15 (lst b x 256 ++ [⟨257, x, 257, b, 0, 1, 0⟩])
    rw [checkE_big (by simp [lst_len])] at h15
    have h12 := c12 (lst b x 256) ⟨257, x, 257, b, 0, 1, 0⟩
    have h15' := c15 (lst b x 256)
    have hpl : (placeE (lst b x 256) ⟨257, x, 257, b, 0, 1, 0⟩) = ([], if rightB b x = true then 12 else 1) := by
      by_cases hr : rightB b x = true
      · rw [if_pos hr]; exact lst_place hr _ rfl
      · rw [if_neg hr, placeE, if_pos (by rw [lst_wrong (by simpa using hr)]; decide)]
    simp only [hpl] at h12
    refine ⟨_, fnA (c13 (lst b x 256) (by omega)), true, _, h12, true, [], [], _, fnA (c13 (lst b x 256) (by omega)), false, ⟨by show (_ + 1) * 56 ≤ _; omega, by omega⟩, _, fnP (l := lst b x 256) (n := ⟨257, x, 257, b, 0, 1, 0⟩) h15, fun h => ?_, fun h => ?_⟩
    · exact absurd h (by decide)
    · clear h
      by_cases hr : rightB b x = true
      · rw [lst_check hr] at h15'
        simp only [if_pos hr] at h12 ⊢
        refine ⟨[(1, true), (11, true)], hr, _, fnA (c13 (lst b x 256) (by omega)), _, fnA h15', rfl, rfl, rfl, rfl⟩
      · have hr' : rightB b x = false := by simpa using hr
        rw [lst_wrong hr'] at h15'
        simp only [if_neg hr] at h12 ⊢
        have hn : (!rightB b x) = true := by simp [hr']
        exact ⟨[(1, false), (11, false), (14, true)], hr', rfl, hn, _, fnA (c13 (lst b x 256) (by omega)), _, fnA h15', rfl, rfl, rfl⟩
end Go.Abs.L42
