import Derived.Test.YtncihdldkhkajaaC32g
import Derived.Test.YtncihdldkhkajaaC32y
namespace Go.Abs.L32
open Go Go.Abs Go.Abs.Day Go.Proofs Go.RowKit
set_option linter.unusedVariables false
set_option maxRecDepth 20000
def zeroP : Per := ⟨0, [], ⟨0, 0⟩, ⟨0, 0⟩⟩
def findP (l : List Per) (id : Int) : Option Per := l.find? (fun a => a.id == id)
theorem find_at (l : List Per) (id : Int) : (at? l id = -1 ∧ findP l id = none) ∨ ∃ (i : Nat) (a : Per), l[i]? = some a ∧ a.id = id ∧ at? l id = i ∧ findP l id = some a := by
  rcases at_spec l id with ⟨h1, h2⟩ | ⟨i, a, h1, h2, h3, h4⟩
  · refine .inl ⟨h1, ?_⟩
    rw [findP, List.find?_eq_none]
    intro a ha; simpa using h2 a ha
  · refine .inr ⟨i, a, h1, h2, h3, ?_⟩
    obtain ⟨hi, he⟩ := List.getElem?_eq_some_iff.1 h1
    rw [findP, List.find?_eq_some_iff_getElem]
    refine ⟨by simpa using h2, i, hi, he, fun j hj => ?_⟩
    have := h4 j (l[j]'(by omega)) hj (by simp)
    simpa using this
def findE (l : List Per) (id : Int) : Per × Bool := if checkE l ≠ 0 then (zeroP, false) else match findP l id with
  | some a => (a, true)
  | none => (zeroP, false)
theorem c22 (l : List Per) (hl : l.length ≤ 9223372036854775807) (hz : ∀ p ∈ l, p.sz) (id : Int) : Fn Try.prog 22 [A l, I id] (.tup [.agg (encP (findE l id).1), .bool (findE l id).2]) := by
  refine mk22 rfl ⟨_, c33 l hl id, [], _, c24 l hz, fun h => ?_, fun h => ?_⟩
  · have h : (decide (at? l id < 0) || (checkE l != 0)) = true := h
    have : findE l id = (zeroP, false) := by
      unfold findE
      by_cases hc : checkE l ≠ 0
      · rw [if_pos hc]
      · rw [if_neg hc]
        simp at hc
        rw [hc] at h
        simp at h
        rcases find_at l id with ⟨h1, h2⟩ | ⟨i, a, _, _, h3, _⟩
        · rw [h2]
        · omega
    rw [this]
    exact ⟨_, _, rfl, ⟨rfl, rfl⟩, rfl, rfl, trivial⟩
  · have h : (decide (at? l id < 0) || (checkE l != 0)) = false := h
    simp at h
    rcases find_at l id with ⟨h1, h2⟩ | ⟨i, a, h1, _, h3, h4⟩
    · omega
    · have hi := (List.getElem?_eq_some_iff.1 h1).1
      have : findE l id = (a, true) := by
        unfold findE
        rw [if_neg (by simp [h.2]), h4]
      rw [this, h3]
      refine ⟨⟨by omega, by omega⟩, encP a, get_map' h1 rfl, ?_⟩
      exact ⟨_, _, rfl, ⟨rfl, rfl⟩, rfl, rfl, trivial⟩
theorem c23 (l : List Per) (hl : l.length ≤ 9223372036854775807) (hz : ∀ p ∈ l, p.sz) (id : Int) : Fn Try.prog 23 [A l, I id] (.tup [.agg (encP (findE l id).1), .bool (findE l id).2]) := by
  refine mk23 rfl ⟨_, c25 l hz, fun h => ?_, fun h => ?_⟩
  · have h : checkE l ≠ 0 := by simpa using h
    rw [findE, if_pos h]
    exact ⟨_, _, rfl, ⟨rfl, rfl⟩, rfl, rfl, trivial⟩
  · have h : checkE l = 0 := by simpa using h
    rw [findE, if_neg (by simp [h])]
    refine ⟨fun n c => ∃ i : Nat, i ≤ l.length ∧ n = l.length - i ∧ c = ⟨[(1, I id), (4, .ovar 64 0), (5, .bool false), (12, A l), (13, I l.length), (14, I i)], [(64, ⟨35, 6, .any, [encP zeroP]⟩)]⟩ ∧ findP (l.drop i) id = findP l id, ⟨_, _, Wk.keep [1, 4, 5, 12, 13, 14] [64], 0, by omega, rfl, rfl, by simp⟩, ?_⟩
    rintro n c ⟨i, hi, rfl, rfl, hI⟩
    refine ⟨fun h => ?_, fun h => ?_⟩
    · simp at h
      obtain ⟨a, ha, hd, _⟩ := drop_cons h
      rw [hd, findP, List.find?_cons] at hI
      refine ⟨⟨by omega, by omega⟩, encP a, by simp [ha], fun hf => ?_, fun hf => ?_⟩
      · have hf : (a.id == id) = true := hf
        rw [hf] at hI
        rw [← hI]
        exact ⟨_, _, rfl, ⟨rfl, rfl⟩, rfl, rfl, trivial⟩
      · have hf : (a.id == id) = false := hf
        rw [hf] at hI
        exact ⟨_, wrap64 (by omega) (by omega), _, _, Wk.keep [1, 4, 5, 12, 13, 14] [64], by omega, i + 1, by omega, rfl, rfl, hI⟩
    · simp at h
      have : i = l.length := by omega
      subst this
      simp [findP] at hI
      have hn : findP l id = none := by rw [findP]; exact hI.symm
      rw [hn]
      exact ⟨_, _, rfl, ⟨rfl, rfl⟩, rfl, rfl, trivial⟩
/-! ### years later -/
abbrev Is (l : List Int) : AV := .rsl 1 l.length (l.map fun k => [I k])
def goodK (k : Int) : Prop := 0 ≤ k ∧ k ≤ 200
theorem foldl_good : ∀ (ks : List Int) (d : Int), good d → (∀ k ∈ ks, goodK k) → good (ks.foldl yrs d)
  | [], d, h, _ => h
  | k :: ks, d, h, hk => foldl_good ks _ (yrs_good h (hk k (by simp)).1).1 fun j hj => hk j (by simp [hj])
theorem c47 (d : Int) (ks : List Int) (hd : good d) (hk : ∀ k ∈ ks, goodK k) (hl : ks.length ≤ 100) : Fn Try.prog 47 [I d, Is ks] (I (ks.foldl yrs d)) := by
  refine mk47 rfl ?_
  refine ⟨fun n c => ∃ (i : Nat) (e : Int), i ≤ ks.length ∧ n = ks.length - i ∧ c = ⟨[(0, I e), (4, I 0), (7, Is ks), (8, I ks.length), (9, I i)], []⟩ ∧ good e ∧ (ks.drop i).foldl yrs e = ks.foldl yrs d, ⟨_, _, Wk.keep [0, 4, 7, 8, 9] [], 0, d, by omega, rfl, rfl, hd, by simp⟩, ?_⟩
  rintro n c ⟨i, e, hi, rfl, rfl, he, hI⟩
  refine ⟨fun h => ?_, fun h => ?_⟩
  · simp at h
    obtain ⟨k, ha, hdr, _⟩ := drop_cons h
    have hk' := hk k (List.mem_of_getElem? ha)
    rw [hdr, List.foldl_cons] at hI
    refine ⟨⟨by omega, by omega⟩, [I k], by simp [ha], _, c_yrs e k he hk'.1 hk'.2, _, wrap64 (by omega) (by omega), ?_⟩
    exact ⟨_, _, Wk.keep [0, 4, 7, 8, 9] [], by omega, i + 1, _, by omega, rfl, rfl, (yrs_good he hk'.1).1, hI⟩
  · simp at h
    have : i = ks.length := by omega
    subst this
    simp at hI
    rw [← hI]
    exact ⟨rfl, rfl, rfl⟩
noncomputable def untilE (p : Per) (made : Dat) (k : Int) : Int := minI (minI (yrs p.d.hi k) (yrs (yrs p.b.hi 110) k)) (yrs (yrs made.hi 110) k) + 1
structure Ready (p : Per) (made : Dat) (k : Int) : Prop where
  d : good p.d.hi
  b : good p.b.hi
  m : good made.hi
  k : goodK k
theorem Ready.val {p : Per} {made : Dat} {k : Int} (h : Ready p made k) : good (yrs p.d.hi k) ∧ good (yrs (yrs p.b.hi 110) k) ∧ good (yrs (yrs made.hi 110) k) :=
  ⟨(yrs_good h.d h.k.1).1, (yrs_good (yrs_good h.b (by omega)).1 h.k.1).1, (yrs_good (yrs_good h.m (by omega)).1 h.k.1).1⟩
theorem Ready.range {p : Per} {made : Dat} {k : Int} (h : Ready p made k) : 1 ≤ untilE p made k ∧ untilE p made k ≤ 1048576 := by
  obtain ⟨h1, h2, h3⟩ := h.val
  have a := minI_le (yrs p.d.hi k) (yrs (yrs p.b.hi 110) k)
  have b := minI_le (minI (yrs p.d.hi k) (yrs (yrs p.b.hi 110) k)) (yrs (yrs made.hi 110) k)
  unfold good at h1 h2 h3
  unfold untilE
  omega
theorem two_good {k : Int} (h : goodK k) : ∀ j ∈ [110, k], goodK j := by
  intro j hj
  simp at hj
  rcases hj with rfl | rfl
  · exact ⟨by omega, by omega⟩
  · exact h
theorem c34 (p : Per) (made : Dat) (k : Int) (h : Ready p made k) : Fn Try.prog 34 [.agg (encP p), .agg (encD made), I k] (I (untilE p made k)) := by
  have hr := h.range
  unfold untilE at hr
  refine mk34 rfl ⟨_, c47 p.d.hi [k] h.d (by simpa using h.k) (by simp), _, c47 p.b.hi [110, k] h.b (two_good h.k) (by simp), _, c47 made.hi [110, k] h.m (two_good h.k) (by simp), _, wrap64 (x := minI (minI (yrs p.d.hi k) (yrs (yrs p.b.hi 110) k)) (yrs (yrs made.hi 110) k) + 1) (by omega) (by omega), rfl, rfl, rfl⟩
noncomputable def untilR (p : Per) (made : Dat) (k : Int) : Int × Int := if faultE p ≠ 0 ∨ okD made = false then (0, 1) else if k < 0 ∨ k > 200 then (0, 2) else (untilE p made k, 0)
theorem ready_of {p : Per} {made : Dat} {k : Int} (h1 : faultE p = 0) (h2 : okD made = true) (h3 : goodK k) : Ready p made k := by
  obtain ⟨hb, hd, _⟩ := fault_ok h1
  rw [okD_iff] at hb hd h2
  exact ⟨⟨by omega, by omega⟩, ⟨by omega, by omega⟩, ⟨by omega, by omega⟩, h3⟩
theorem c20 (p : Per) (hp : p.sz) (made : Dat) (k : Int) : Fn Try.prog 20 [.agg (encP p), .agg (encD made), I k] (.tup [I (untilR p made k).1, I (untilR p made k).2]) := by
  refine mk20 rfl ⟨[], _, c37 p hp, _, c_dCheck made, fun h => ?_, fun h => ?_⟩
  · have h : ((faultE p != 0) || (chkD made != 0)) = true := h
    rw [chk_bne] at h
    rw [untilR, if_pos (by simpa using h)]
    exact ⟨_, _, rfl, ⟨rfl, rfl⟩, rfl, rfl, trivial⟩
  · have h : ((faultE p != 0) || (chkD made != 0)) = false := h
    rw [chk_bne] at h
    rw [untilR, if_neg (by simpa using h)]
    refine ⟨[], fun hk => ?_, fun hk => ?_⟩
    · rw [if_pos (by simpa using hk)]
      exact ⟨_, _, rfl, ⟨rfl, rfl⟩, rfl, rfl, trivial⟩
    · rw [if_neg (by simpa using hk)]
      simp at h hk
      refine ⟨_, c34 p made k (ready_of h.1 h.2 ⟨by omega, by omega⟩), ?_⟩
      exact ⟨_, _, rfl, ⟨rfl, rfl⟩, rfl, rfl, trivial⟩
theorem c43 (d k : Int) (hd : good d) (hk : goodK k) : Fn Try.prog 43 [I d, I k] (I (yrs (yrs d 110) k)) :=
  mk43 rfl ⟨_, c_ryrs d 110 hd (by omega) (by omega), _, c_ryrs _ k (yrs_good hd (by omega)).1 hk.1 hk.2, rfl, rfl, rfl⟩
theorem c26 (p : Per) (hp : p.sz) (made : Dat) (k : Int) : Fn Try.prog 26 [.agg (encP p), .agg (encD made), I k] (.tup [I (untilR p made k).1, I (untilR p made k).2]) := by
  refine mk26 rfl ⟨[], _, c41 p hp, _, c_rdCheck made, fun h => ?_, fun h => ?_⟩
  · have h : ((faultE p != 0) || (chkD made != 0)) = true := h
    rw [chk_bne] at h
    rw [untilR, if_pos (by simpa using h)]
    exact ⟨_, _, rfl, ⟨rfl, rfl⟩, rfl, rfl, trivial⟩
  · have h : ((faultE p != 0) || (chkD made != 0)) = false := h
    rw [chk_bne] at h
    rw [untilR, if_neg (by simpa using h)]
    refine ⟨[], fun hk => ?_, fun hk => ?_⟩
    · rw [if_pos (by simpa using hk)]
      exact ⟨_, _, rfl, ⟨rfl, rfl⟩, rfl, rfl, trivial⟩
    · rw [if_neg (by simpa using hk)]
      simp at h hk
      have hR := ready_of h.1 h.2 (k := k) ⟨by omega, by omega⟩
      have hr := hR.range
      unfold untilE at hr
      refine ⟨_, c_ryrs p.d.hi k hR.d hR.k.1 hR.k.2, _, c43 p.b.hi k hR.b hR.k, _, c43 made.hi k hR.m hR.k, _, wrap64 (x := minI (minI (yrs p.d.hi k) (yrs (yrs p.b.hi 110) k)) (yrs (yrs made.hi 110) k) + 1) (by omega) (by omega), ?_⟩
      exact ⟨_, _, rfl, ⟨rfl, rfl⟩, rfl, rfl, trivial⟩
def livesR (p : Per) (d : Int) : Int × Int := if faultE p ≠ 0 then (0, 1) else if d < 0 ∨ d > 1048575 then (0, 2) else if p.b.hi ≤ d ∧ d ≤ p.d.lo then (2, 0) else if d < p.b.lo ∨ d > p.d.hi then (0, 0) else (1, 0)
theorem c27 (p : Per) (hp : p.sz) (d : Int) : Fn Try.prog 27 [.agg (encP p), I d] (.tup [I (livesR p d).1, I (livesR p d).2]) := by
  refine mk27 rfl ⟨_, c37 p hp, fun h => ?_, fun h => ?_⟩
  · rw [livesR, if_pos (by simpa using h)]
    exact ⟨_, _, rfl, ⟨rfl, rfl⟩, rfl, rfl, trivial⟩
  · rw [livesR, if_neg (by simpa using h)]
    refine ⟨[], fun h => ?_, fun h => ?_⟩
    · rw [if_pos (by simpa using h)]
      exact ⟨_, _, rfl, ⟨rfl, rfl⟩, rfl, rfl, trivial⟩
    · rw [if_neg (by simpa using h)]
      refine ⟨[], fun h => ?_, fun h => ?_⟩
      · rw [if_pos (by simpa using h)]
        exact ⟨_, _, rfl, ⟨rfl, rfl⟩, rfl, rfl, trivial⟩
      · rw [if_neg (by simpa using h)]
        refine ⟨[], fun h => ?_, fun h => ?_⟩
        · rw [if_pos (by simpa using h)]
          exact ⟨_, _, rfl, ⟨rfl, rfl⟩, rfl, rfl, trivial⟩
        · rw [if_neg (by simpa using h)]
          exact ⟨_, _, rfl, ⟨rfl, rfl⟩, rfl, rfl, trivial⟩
theorem c28 (p : Per) (hp : p.sz) (d : Int) : Fn Try.prog 28 [.agg (encP p), I d] (.tup [I (livesR p d).1, I (livesR p d).2]) := by
  refine mk28 rfl ⟨_, c41 p hp, fun h => ?_, fun h => ?_⟩
  · rw [livesR, if_pos (by simpa using h)]
    exact ⟨_, _, rfl, ⟨rfl, rfl⟩, rfl, rfl, trivial⟩
  · rw [livesR, if_neg (by simpa using h)]
    refine ⟨[], fun h => ?_, fun h => ?_⟩
    · rw [if_pos (by simpa using h)]
      exact ⟨_, _, rfl, ⟨rfl, rfl⟩, rfl, rfl, trivial⟩
    · rw [if_neg (by simpa using h)]
      refine ⟨[], fun h => ?_, fun h => ?_⟩
      · rw [if_pos (by simpa using h)]
        exact ⟨_, _, rfl, ⟨rfl, rfl⟩, rfl, rfl, trivial⟩
      · rw [if_neg (by simpa using h)]
        refine ⟨[], fun h => ?_, fun h => ?_⟩
        · rw [if_pos (by simpa using h)]
          exact ⟨_, _, rfl, ⟨rfl, rfl⟩, rfl, rfl, trivial⟩
        · rw [if_neg (by simpa using h)]
          exact ⟨_, _, rfl, ⟨rfl, rfl⟩, rfl, rfl, trivial⟩
end Go.Abs.L32
