import Derived.Test.YtncihdldkhkajaaC32j
namespace Go.Abs.L32
open Go Go.Abs Go.Abs.Day Go.Proofs Go.RowKit
set_option linter.unusedVariables false
set_option maxRecDepth 20000
/-! ### grounds -/
noncomputable def gl (l : List Per) (made : Dat) (k day : Int) (acc : List Gr) : List Int → Option (List Gr)
  | [] => some acc
  | id :: r => match findP l id with
    | none => none
    | some p => gl l made k day (if day < untilE p made k then acc ++ [⟨2, id, 0, untilE p made k⟩] else acc) r
def incB (p : Option Int) : List Int → Bool
  | [] => true
  | a :: r => match p with
    | some q => if a ≤ q then false else incB (some a) r
    | none => incB (some a) r
theorem incB_cons (p : Option Int) (a : Int) (r : List Int) : incB p (a :: r) = match p with
    | some q => if a ≤ q then false else incB (some a) r
    | none => incB (some a) r := by cases p <;> rfl
noncomputable def groundsR (l : List Per) (ids : List Int) (made : Dat) (k day : Int) : List Gr × Int :=
  if checkE l ≠ 0 ∨ okD made = false then ([], 1)
  else if k < 0 ∨ k > 200 ∨ day < 0 ∨ day > 1048575 then ([], 2)
  else if incB none ids = false then ([], 5)
  else match gl l made k day [] ids with
    | none => ([], 7)
    | some g => (g, 0)
def prevI (l : List Int) (i : Nat) : Option Int := if i = 0 then none else l[i - 1]?
theorem c13 (l : List Per) (hl : l.length ≤ 9223372036854775807) (hz : ∀ p ∈ l, p.sz) (ids : List Int) (hids : ids.length ≤ 1000) (made : Dat) (k day : Int) :
    Fn Try.prog 13 [A l, Is ids, .agg (encD made), I k, I day] (.tup [fG (groundsR l ids made k day).1, I (groundsR l ids made k day).2]) := by
  refine mk13 rfl ⟨[], _, c24 l hz, _, c_dCheck made, fun h => ?_, fun h => ?_⟩
  · have h : ((checkE l != 0) || (chkD made != 0)) = true := h
    rw [chk_bne] at h
    rw [groundsR, if_pos (by simpa using h)]
    exact ⟨_, _, rfl, .inr ⟨_, _, _, rfl⟩, rfl, rfl, trivial⟩
  · have h : ((checkE l != 0) || (chkD made != 0)) = false := h
    rw [chk_bne] at h
    have hc : checkE l = 0 ∧ okD made = true := by simpa using h
    rw [groundsR, if_neg (by simp [hc.1, hc.2])]
    refine ⟨[], fun h => ?_, fun h => ?_⟩
    · rw [if_pos (by simpa [or_assoc] using h)]
      exact ⟨_, _, rfl, .inr ⟨_, _, _, rfl⟩, rfl, rfl, trivial⟩
    · have hk : ¬ (k < 0 ∨ k > 200 ∨ day < 0 ∨ day > 1048575) := by
        simp at h; omega
      rw [if_neg hk]
      refine ⟨fun n c => ∃ i : Nat, i ≤ ids.length ∧ n = ids.length - i ∧ c = ⟨[(0, A l), (1, Is ids), (3, I k), (4, I day), (7, .ovar 112 0), (10, .nilsl), (11, I 0), (43, I ids.length), (44, I i)], [(112, ⟨28, 2, .any, [encD made]⟩)]⟩ ∧ incB (prevI ids i) (ids.drop i) = incB none ids, ⟨_, _, Wk.keep [0, 1, 3, 4, 7, 10, 11, 43, 44] [112], 0, by omega, rfl, rfl, by simp [prevI]⟩, ?_⟩
      rintro n c ⟨i, hi, rfl, rfl, hI⟩
      refine ⟨fun h => ?_, fun h => ?_⟩
      · simp at h
        obtain ⟨a, ha, hd, _⟩ := drop_cons h
        rw [hd, incB_cons] at hI
        by_cases h0 : i = 0
        · subst h0
          refine ⟨[(2, false)], by simp, fun h => (by cases h), fun _ => ?_⟩
          refine ⟨_, wrap64 (by omega) (by omega), _, _, Wk.keep [0, 1, 3, 4, 7, 10, 11, 43, 44] [112], by omega, 1, by omega, rfl, rfl, ?_⟩
          simp only [prevI] at hI
          simpa [prevI, ha] using hI
        · obtain ⟨p, hp⟩ : ∃ p, ids[i - 1]? = some p := ⟨ids[i-1], by simp⟩
          have hI' : (if a ≤ p then false else incB (some a) (ids.drop (i + 1))) = incB none ids := by simpa [prevI, h0, hp] using hI
          refine ⟨[(2, true)], by simp; omega, ⟨by omega, by omega⟩, [I a], get_map' ha rfl, _, wrap64 (by omega) (by omega), ⟨by omega, by omega⟩, [I p], get_map' hp (by omega), fun h => ?_, fun h => ?_⟩
          · rw [if_pos (by simpa using h)] at hI'
            rw [if_pos hI'.symm]
            exact ⟨_, _, rfl, .inr ⟨_, _, _, rfl⟩, rfl, rfl, trivial⟩
          · rw [if_neg (by simpa using h)] at hI'
            refine ⟨_, wrap64 (by omega) (by omega), _, _, Wk.keep [0, 1, 3, 4, 7, 10, 11, 43, 44] [112], by omega, i + 1, by omega, rfl, rfl, ?_⟩
            simpa [prevI, ha] using hI'
      · simp at h
        have : i = ids.length := by omega
        subst this
        simp [incB] at hI
        rw [if_neg (by simp [← hI])]
        refine ⟨fun n c => ∃ (i : Nat) (acc : List Gr), i ≤ ids.length ∧ acc.length ≤ i ∧ n = ids.length - i ∧ c = ⟨[(0, A l), (3, I k), (4, I day), (7, .ovar 112 0), (10, .nilsl), (11, I 0), (13, .osl 1408 4 acc.length), (62, Is ids), (63, I ids.length), (64, I i)], [(112, ⟨28, 2, .any, [encD made]⟩), (1408, ⟨64, 4, .pure, acc.map encG⟩)]⟩ ∧ gl l made k day acc (ids.drop i) = gl l made k day [] ids, ⟨_, _, Wk.nilKeep 13 1408 ⟨64, 4, .pure, []⟩ [0, 3, 4, 7, 10, 11, 13, 62, 63, 64] [112, 1408] rfl rfl rfl, 0, [], by omega, by simp, rfl, rfl, by simp⟩, ?_⟩
        rintro n c ⟨i, acc, hi, hal, rfl, rfl, hI⟩
        refine ⟨fun h => ?_, fun h => ?_⟩
        · simp at h
          obtain ⟨id, ha, hd, _⟩ := drop_cons h
          rw [hd, gl] at hI
          refine ⟨⟨by omega, by omega⟩, [I id], get_map' ha rfl, _, c33 l hl id, fun h => ?_, fun h => ?_⟩
          · have h : at? l id < 0 := by simpa using h
            rcases find_at l id with ⟨h1, h2⟩ | ⟨j, a, h1, _, h3, h4⟩
            · rw [h2] at hI
              rw [← hI]
              exact ⟨_, _, rfl, .inr ⟨_, _, _, rfl⟩, rfl, rfl, trivial⟩
            · omega
          · have h : ¬ at? l id < 0 := by simpa using h
            rcases find_at l id with ⟨h1, h2⟩ | ⟨j, a, h1, _, h3, h4⟩
            · omega
            · rw [h4] at hI
              dsimp only at hI
              have hj := (List.getElem?_eq_some_iff.1 h1).1
              have hR := ready_of (check_ok hc.1 a (List.mem_of_getElem? h1)) hc.2 (k := k) ⟨by omega, by omega⟩
              rw [h3]
              refine ⟨⟨by omega, by omega⟩, encP a, get_map' h1 rfl, _, c34 a made k hR, fun h => ?_, fun h => ?_⟩
              · have h : day < untilE a made k := by simpa using h
                rw [if_pos h] at hI
                refine ⟨⟨by show (_ + 1) * 32 ≤ _; omega, by omega⟩, _, wrap64 (by omega) (by omega), ?_⟩
                refine ⟨_, _, Wk.keep [0, 3, 4, 7, 10, 11, 13, 62, 63, 64] [112, 1408], by omega, i + 1, acc ++ [⟨2, id, 0, untilE a made k⟩], by omega, by simp; omega, rfl, ?_, hI⟩
                rw [List.map_append, List.length_append, ← take_app (n := acc.length) (acc.map encG) _ (by simp)]
                rfl
              · have h : ¬ day < untilE a made k := by simpa using h
                rw [if_neg h] at hI
                refine ⟨_, wrap64 (by omega) (by omega), ?_⟩
                exact ⟨_, _, Wk.keep [0, 3, 4, 7, 10, 11, 13, 62, 63, 64] [112, 1408], by omega, i + 1, acc, by omega, by omega, rfl, rfl, hI⟩
        · simp at h
          have : i = ids.length := by omega
          subst this
          simp [gl] at hI
          rw [← hI]
          exact ⟨_, _, rfl, ⟨_, rfl, rfl, by simp, .inl ⟨rfl, rfl⟩⟩, rfl, rfl, trivial⟩
theorem c16 (l : List Per) (hl : l.length ≤ 9223372036854775807) (hz : ∀ p ∈ l, p.sz) (ids : List Int) (hids : ids.length ≤ 1000) (made : Dat) (k day : Int) :
    Fn Try.prog 16 [A l, Is ids, .agg (encD made), I k, I day] (.tup [fG (groundsR l ids made k day).1, I (groundsR l ids made k day).2]) := by
  refine mk16 rfl ⟨[], _, c25 l hz, _, c_rdCheck made, fun h => ?_, fun h => ?_⟩
  · have h : ((checkE l != 0) || (chkD made != 0)) = true := h
    rw [chk_bne] at h
    rw [groundsR, if_pos (by simpa using h)]
    exact ⟨_, _, rfl, .inr ⟨_, _, _, rfl⟩, rfl, rfl, trivial⟩
  · have h : ((checkE l != 0) || (chkD made != 0)) = false := h
    rw [chk_bne] at h
    have hc : checkE l = 0 ∧ okD made = true := by simpa using h
    rw [groundsR, if_neg (by simp [hc.1, hc.2])]
    refine ⟨[], fun h => ?_, fun h => ?_⟩
    · rw [if_pos (by simpa [or_assoc] using h)]
      exact ⟨_, _, rfl, .inr ⟨_, _, _, rfl⟩, rfl, rfl, trivial⟩
    · have hk : ¬ (k < 0 ∨ k > 200 ∨ day < 0 ∨ day > 1048575) := by
        simp at h; omega
      rw [if_neg hk]
      refine ⟨fun n c => ∃ i : Nat, i ≤ ids.length ∧ n = ids.length - i ∧ c = ⟨[(0, A l), (1, Is ids), (3, I k), (4, I day), (7, .ovar 112 0), (10, .nilsl), (11, I 0), (43, I ids.length), (44, I i)], [(112, ⟨28, 2, .any, [encD made]⟩)]⟩ ∧ incB (prevI ids i) (ids.drop i) = incB none ids, ⟨_, _, Wk.keep [0, 1, 3, 4, 7, 10, 11, 43, 44] [112], 0, by omega, rfl, rfl, by simp [prevI]⟩, ?_⟩
      rintro n c ⟨i, hi, rfl, rfl, hI⟩
      refine ⟨fun h => ?_, fun h => ?_⟩
      · simp at h
        obtain ⟨a, ha, hd, _⟩ := drop_cons h
        rw [hd, incB_cons] at hI
        by_cases h0 : i = 0
        · subst h0
          refine ⟨[(2, false)], by simp, fun h => (by cases h), fun _ => ?_⟩
          refine ⟨_, wrap64 (by omega) (by omega), _, _, Wk.keep [0, 1, 3, 4, 7, 10, 11, 43, 44] [112], by omega, 1, by omega, rfl, rfl, ?_⟩
          simp only [prevI] at hI
          simpa [prevI, ha] using hI
        · obtain ⟨p, hp⟩ : ∃ p, ids[i - 1]? = some p := ⟨ids[i-1], by simp⟩
          have hI' : (if a ≤ p then false else incB (some a) (ids.drop (i + 1))) = incB none ids := by simpa [prevI, h0, hp] using hI
          refine ⟨[(2, true)], by simp; omega, _, wrap64 (by omega) (by omega), ⟨by omega, by omega⟩, [I p], get_map' hp (by omega), ⟨by omega, by omega⟩, [I a], get_map' ha rfl, fun h => ?_, fun h => ?_⟩
          · rw [if_pos (by simpa using h)] at hI'
            rw [if_pos hI'.symm]
            exact ⟨_, _, rfl, .inr ⟨_, _, _, rfl⟩, rfl, rfl, trivial⟩
          · rw [if_neg (by simpa using h)] at hI'
            refine ⟨_, wrap64 (by omega) (by omega), _, _, Wk.keep [0, 1, 3, 4, 7, 10, 11, 43, 44] [112], by omega, i + 1, by omega, rfl, rfl, ?_⟩
            simpa [prevI, ha] using hI'
      · simp at h
        have : i = ids.length := by omega
        subst this
        simp [incB] at hI
        rw [if_neg (by simp [← hI])]
        refine ⟨fun n c => ∃ (i : Nat) (acc : List Gr), i ≤ ids.length ∧ acc.length ≤ i ∧ n = ids.length - i ∧ c = ⟨[(0, A l), (3, I k), (4, I day), (7, .ovar 112 0), (10, .nilsl), (11, I 0), (13, .osl 1456 4 acc.length), (62, Is ids), (63, I ids.length), (64, I i)], [(112, ⟨28, 2, .any, [encD made]⟩), (1456, ⟨64, 4, .pure, acc.map encG⟩)]⟩ ∧ gl l made k day acc (ids.drop i) = gl l made k day [] ids, ⟨_, _, Wk.nilKeep 13 1456 ⟨64, 4, .pure, []⟩ [0, 3, 4, 7, 10, 11, 13, 62, 63, 64] [112, 1456] rfl rfl rfl, 0, [], by omega, by simp, rfl, rfl, by simp⟩, ?_⟩
        rintro n c ⟨i, acc, hi, hal, rfl, rfl, hI⟩
        refine ⟨fun h => ?_, fun h => ?_⟩
        · simp at h
          obtain ⟨id, ha, hd, _⟩ := drop_cons h
          rw [hd, gl] at hI
          have h23 := c23 l hl hz id
          rw [findE, if_neg (by simp [hc.1])] at h23
          cases hfp : findP l id with
          | none =>
            rw [hfp] at h23 hI
            refine ⟨⟨by omega, by omega⟩, [I id], get_map' ha rfl, _, h23, fun h => ?_, fun h => (by cases h)⟩
            rw [← hI]
            exact ⟨_, _, rfl, .inr ⟨_, _, _, rfl⟩, rfl, rfl, trivial⟩
          | some a =>
            rw [hfp] at h23 hI
            have hm : a ∈ l := List.mem_of_find?_eq_some hfp
            have hf := check_ok hc.1 a hm
            have h26 := c26 a (hz a hm) made k
            rw [untilR, if_neg (by simp [hf, hc.2]), if_neg (by omega)] at h26
            refine ⟨⟨by omega, by omega⟩, [I id], get_map' ha rfl, _, h23, fun h => (by cases h), fun h => ?_⟩
            refine ⟨_, h26, fun h => ?_, fun h => ?_⟩
            · have h : day < untilE a made k := by simpa using h
              dsimp only at hI
              rw [if_pos h] at hI
              refine ⟨⟨by show (_ + 1) * 32 ≤ _; omega, by omega⟩, _, wrap64 (by omega) (by omega), ?_⟩
              refine ⟨_, _, Wk.keep [0, 3, 4, 7, 10, 11, 13, 62, 63, 64] [112, 1456], by omega, i + 1, acc ++ [⟨2, id, 0, untilE a made k⟩], by omega, by simp; omega, rfl, ?_, hI⟩
              rw [List.map_append, List.length_append, ← take_app (n := acc.length) (acc.map encG) _ (by simp)]
              rfl
            · have h : ¬ day < untilE a made k := by simpa using h
              dsimp only at hI
              rw [if_neg h] at hI
              refine ⟨_, wrap64 (by omega) (by omega), ?_⟩
              exact ⟨_, _, Wk.keep [0, 3, 4, 7, 10, 11, 13, 62, 63, 64] [112, 1456], by omega, i + 1, acc, by omega, by omega, rfl, rfl, hI⟩
        · simp at h
          have : i = ids.length := by omega
          subst this
          simp [gl] at hI
          rw [← hI]
          exact ⟨_, _, rfl, ⟨_, rfl, rfl, by simp, .inl ⟨rfl, rfl⟩⟩, rfl, rfl, trivial⟩
end Go.Abs.L32
