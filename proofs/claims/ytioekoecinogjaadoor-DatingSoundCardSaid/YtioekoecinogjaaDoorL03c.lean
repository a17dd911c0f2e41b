import Derived.Test.YtioekoecinogjaaDoorL03a
namespace Go.Abs.L03
open Go Go.Abs Go.Abs.Day Go.Proofs Go.RowKit
set_option linter.unusedVariables false
set_option maxRecDepth 20000
def sndE (n e m f c d : Int) : Bool := (e != 0) || (f != 0) || ((n == 2) && decide (c ≥ d)) || ((n == 0) && decide (c < d)) || ((m == 2) && (c != d)) || ((m == 0) && (c == d))
theorem snd_ok {a b : Dat} {c d : Int} (ha : okD a = true) (hb : okD b = true) (hc : a.lo ≤ c ∧ c ≤ a.hi) (hd : b.lo ≤ d ∧ d ≤ b.hi) : sndE (befR a b).1 (befR a b).2 (sameR a b).1 (sameR a b).2 c d = false := by
  rw [bef_ok ha hb, same_ok ha hb, befR_eq ha hb, sameR_eq ha hb]
  rw [okD_iff] at ha hb
  unfold sndE
  by_cases h1 : a.hi < b.lo
  · rw [if_pos h1, if_pos (.inl h1)]; simp; omega
  · rw [if_neg h1]
    by_cases h2 : a.lo ≥ b.hi
    · rw [if_pos h2]
      by_cases h3 : a.hi < b.lo ∨ b.hi < a.lo
      · rw [if_pos h3]; simp; omega
      · rw [if_neg h3]
        by_cases h4 : a = b ∧ a.lo = a.hi
        · rw [if_pos h4]
          obtain ⟨rfl, h4⟩ := h4
          simp; omega
        · rw [if_neg h4]; simp; omega
    · rw [if_neg h2]
      by_cases h3 : a.hi < b.lo ∨ b.hi < a.lo
      · omega
      · rw [if_neg h3]
        by_cases h4 : a = b ∧ a.lo = a.hi
        · obtain ⟨rfl, h4⟩ := h4; omega
        · rw [if_neg h4]; simp
theorem rem_in {lo hi x : Int} (h : lo ≤ hi) (hx : 0 ≤ x) : lo ≤ lo + x.tmod (hi - lo + 1) ∧ lo + x.tmod (hi - lo + 1) ≤ hi := by
  rw [Int.tmod_eq_emod_of_nonneg hx]
  have hr0 := Int.emod_nonneg x (b := hi - lo + 1) (by omega)
  have hr1 := Int.emod_lt_of_pos x (b := hi - lo + 1) (by omega)
  omega
theorem l6 (a b : Dat) (x y : Int) (hx0 : 0 ≤ x) (hx1 : x ≤ 4294967295) (hy0 : 0 ≤ y) (hy1 : y ≤ 4294967295) : Fn Tryd.prog 6 [.agg (encD a), .agg (encD b), .int .u32 x, .int .u32 y] (.bool true) := by
  refine mk6 rfl ⟨_, c11, fun h => (by cases h), fun _ => ⟨[], _, c_dCheck a, _, c_dCheck b, fun h => ⟨rfl, rfl, rfl⟩, fun h => ?_⟩⟩
  have h : ((chkD a != 0) || (chkD b != 0)) = false := h
  rw [chk_bne, chk_bne] at h
  have h' : okD a = true ∧ okD b = true := by simpa using h
  obtain ⟨ha, hb⟩ := h'
  have oa := okD_iff.1 ha
  have ob := okD_iff.1 hb
  have hc := rem_in (x := x) oa.2.1 hx0
  have hd := rem_in (x := y) ob.2.1 hy0
  have hs := snd_ok ha hb hc hd
  refine ⟨_, wrap64 (by omega) (by omega), _, wrap64 (by omega) (by omega), _, wrap64 (by omega) (by omega), by omega, _, wrap64 (by omega) (by omega), _, wrap64 (by omega) (by omega), _, wrap64 (by omega) (by omega), _, wrap64 (by omega) (by omega), by omega, _, wrap64 (by omega) (by omega), _, c17 a b, _, c19 a b, [], fun h => ?_, fun _ => ⟨[], fun h => ?_, fun _ => ⟨[], [], rfl, rfl, ?_⟩⟩⟩
  · have h : sndE (befR a b).1 (befR a b).2 (sameR a b).1 (sameR a b).2 (a.lo + x.tmod (a.hi - a.lo + 1)) (b.lo + y.tmod (b.hi - b.lo + 1)) = true := h
    rw [hs] at h; cases h
  · have h : (((befR a b).1 == 1) && (decide (a.lo ≥ b.hi) || decide (a.hi < b.lo))) = true := h
    rw [befR_eq ha hb] at h
    by_cases h1 : a.hi < b.lo
    · rw [if_pos h1] at h; simp at h
    · rw [if_neg h1] at h
      by_cases h2 : a.lo ≥ b.hi
      · rw [if_pos h2] at h; simp at h
      · simp [h1, h2] at h
  · show AV.bool true = AV.bool (((sameR a b).1 != 1) || ((decide (a.lo ≤ b.hi) && decide (b.lo ≤ a.hi)) && ((a.lo != a.hi) || (b.lo != b.hi))))
    rw [sameR_eq ha hb]
    by_cases h3 : a.hi < b.lo ∨ b.hi < a.lo
    · rw [if_pos h3]; simp
    · rw [if_neg h3]
      by_cases h4 : a = b ∧ a.lo = a.hi
      · rw [if_pos h4]; simp
      · rw [if_neg h4]
        have : (decide (a.lo ≤ b.hi) && decide (b.lo ≤ a.hi)) = true := by simp; omega
        rw [this]
        by_cases h5 : a.lo = a.hi
        · by_cases h6 : b.lo = b.hi
          · exfalso; apply h4
            obtain ⟨a1, a2⟩ := a; obtain ⟨b1, b2⟩ := b
            simp at *; omega
          · simp [h6]
        · simp [h5]
theorem hl_spec : ∀ (l : List Dat) (acc d : Dat), hl acc l = some d → (∀ y ∈ l, okD y = true ∧ d.lo ≤ y.lo ∧ y.hi ≤ d.hi) ∧ d.lo ≤ acc.lo ∧ acc.hi ≤ d.hi ∧ (d.lo = acc.lo ∨ ∃ y ∈ l, y.lo = d.lo) ∧ (d.hi = acc.hi ∨ ∃ y ∈ l, y.hi = d.hi)
  | [], acc, d, h => by
    simp [hl] at h; subst h; simp
  | x :: r, acc, d, h => by
    rw [hl] at h
    by_cases hx : okD x = false
    · rw [if_pos hx] at h; cases h
    · rw [if_neg hx] at h
      obtain ⟨h1, h2, h3, h4, h5⟩ := hl_spec r _ d h
      have hx : okD x = true := by simpa using hx
      have m1 := minI_le acc.lo x.lo
      have m2 := maxI_ge acc.hi x.hi
      dsimp only at h2 h3 h4 h5
      refine ⟨fun y hy => ?_, by omega, by omega, ?_, ?_⟩
      · rcases List.mem_cons.1 hy with rfl | hy
        · exact ⟨hx, by omega, by omega⟩
        · exact h1 y hy
      · rcases h4 with h4 | ⟨y, hy, e⟩
        · rcases m1.2.2 with e | e
          · exact .inl (by omega)
          · exact .inr ⟨x, by simp, by omega⟩
        · exact .inr ⟨y, by simp [hy], e⟩
      · rcases h5 with h5 | ⟨y, hy, e⟩
        · rcases m2.2.2 with e | e
          · exact .inl (by omega)
          · exact .inr ⟨x, by simp, by omega⟩
        · exact .inr ⟨y, by simp [hy], e⟩
theorem hull_ok {l : List Dat} (h : (hullR l).2 = 0) : ∃ h0, l[0]? = some h0 ∧ (∀ y ∈ l, okD y = true ∧ (hullR l).1.lo ≤ y.lo ∧ y.hi ≤ (hullR l).1.hi) ∧ (∃ y ∈ l, y.lo = (hullR l).1.lo) ∧ ∃ y ∈ l, y.hi = (hullR l).1.hi := by
  cases l with
  | nil => simp [hullR] at h
  | cons h0 r =>
    refine ⟨h0, rfl, ?_⟩
    by_cases hlen : (h0 :: r).length > 1024
    · have : hullR (h0 :: r) = (zD, 8) := by rw [hullR, if_neg (by simp), if_pos hlen]
      rw [this] at h; cases h
    · have e : hullR (h0 :: r) = match hl h0 (h0 :: r) with | none => (zD, 1) | some d => (d, 0) := by
        rw [hullR, if_neg (by simp), if_neg hlen]; rfl
      cases hh : hl h0 (h0 :: r) with
      | none => rw [e, hh] at h; cases h
      | some d =>
        rw [e, hh]
        obtain ⟨h1, h2, h3, h4, h5⟩ := hl_spec _ _ _ hh
        refine ⟨h1, ?_, ?_⟩
        · rcases h4 with h4 | h4
          · exact ⟨h0, by simp, h4.symm⟩
          · exact h4
        · rcases h5 with h5 | h5
          · exact ⟨h0, by simp, h5.symm⟩
          · exact h5
theorem hull_err {l : List Dat} (h : (hullR l).2 ≠ 0) : (hullR l).1 = zD := by
  unfold hullR at h ⊢
  split
  · rfl
  · split
    · rfl
    · split
      · rfl
      · rename_i h1 h2 _ d hd
        rw [if_neg h1, if_neg h2, hd] at h
        exact absurd rfl h
theorem any_take {l : List Dat} {i : Nat} {y : Dat} (p : Dat → Bool) (ht : l.take (i + 1) = l.take i ++ [y]) : (l.take (i + 1)).any p = ((l.take i).any p || p y) := by
  rw [ht]; simp
def bothB (y h z : Dat) (ok : Bool) (d : Int) : Bool := (decide (y.lo ≤ d) && decide (d ≤ y.hi) && decide (h.lo ≤ d) && decide (d ≤ h.hi)) != (ok && decide (z.lo ≤ d) && decide (d ≤ z.hi))
theorem both_ok {y h : Dat} (hy : okD y = true) (hh : okD h = true) (d : Int) : bothB y h (meetE y h).1 (meetE y h).2 d = false := by
  unfold bothB meetE
  by_cases hm : maxI y.lo h.lo ≤ minI y.hi h.hi
  · rw [if_pos ⟨hy, hh, hm⟩]
    dsimp only
    rw [bne_eq_false_iff_eq, Bool.eq_iff_iff]
    have m1 := maxI_ge y.lo h.lo
    have m2 := minI_le y.hi h.hi
    simp
    omega
  · rw [if_neg (by simp [hm])]
    dsimp only
    have m1 := maxI_ge y.lo h.lo
    have m2 := minI_le y.hi h.hi
    rw [bne_eq_false_iff_eq, Bool.false_and, Bool.false_and]
    simp
    omega
theorem meet_self {y : Dat} (hy : okD y = true) : meetE y y = (y, true) := by
  have := okD_iff.1 hy
  unfold meetE
  have e1 : maxI y.lo y.lo = y.lo := by unfold maxI; split <;> rfl
  have e2 : minI y.hi y.hi = y.hi := by unfold minI; split <;> rfl
  rw [e1, e2, if_pos ⟨hy, hy, this.2.1⟩]
theorem l8 (l : List Dat) (d : Int) : Fn Tryd.prog 8 [D l, I d] (.bool true) := by
  refine mk8 rfl ⟨_, c11, fun h => (by cases h), fun _ => ⟨_, c23 l, [], fun h => ?_, fun h => ?_⟩⟩
  · have h : (decide (((l.length : Nat) : Int) > 40) || ((hullR l).2 != 0)) = true := h
    refine ⟨[], rfl, rfl, ?_⟩
    show AV.bool true = AV.bool (decide (((l.length : Nat) : Int) > 40) || eqL (encD (hullR l).1) (encD zD))
    rw [eqL_D]
    by_cases h40 : ((l.length : Nat) : Int) > 40
    · rw [decide_eq_true h40]; rfl
    · rw [decide_eq_false h40, Bool.false_or] at h
      rw [hull_err (by simpa using h)]; simp
  · have h : (decide (((l.length : Nat) : Int) > 40) || ((hullR l).2 != 0)) = false := h
    have h' : l.length ≤ 40 ∧ (hullR l).2 = 0 := by simp at h; exact ⟨by omega, h.2⟩
    obtain ⟨hlen, he⟩ := h'
    obtain ⟨h0, hh0, hall, hex1, hex2⟩ := hull_ok he
    generalize (hullR l).1 = x at *
    have hok0 := (hall h0 (List.mem_of_getElem? hh0)).1
    have hne : 0 < l.length := (List.getElem?_eq_some_iff.1 hh0).1
    refine ⟨fun N c => ∃ i : Nat, i ≤ l.length ∧ N = l.length - i ∧ c = ⟨[(0, D l), (1, I d), (4, .bool false), (5, .ovar 80 0), (7, .bool ((l.take i).any fun y => y.lo == x.lo)), (8, .bool ((l.take i).any fun y => y.hi == x.hi)), (36, D l), (37, I l.length), (38, I i)], [(80, ⟨23, 2, .any, [encD x]⟩)]⟩, ⟨_, _, Wk.keep [0, 1, 4, 5, 7, 8, 36, 37, 38] [80], 0, by omega, rfl, by simp; rfl⟩, ?_⟩
    rintro N c ⟨i, hi, rfl, rfl⟩
    refine ⟨fun h => ?_, fun h => ?_⟩
    · simp at h
      obtain ⟨y, hy, _, ht⟩ := drop_cons (l := l) (i := i) h
      obtain ⟨hoky, hy1, hy2⟩ := hall y (List.mem_of_getElem? hy)
      have hb := both_ok hoky hok0 d
      refine ⟨⟨by omega, by omega⟩, encD y, by simp [hy], [], fun hf => ?_, fun _ => ?_⟩
      · have hf : (decide (y.lo < x.lo) || decide (y.hi > x.hi)) = true := hf
        simp at hf; omega
      · refine ⟨[], ⟨by omega, by omega⟩, encD h0, get_map (i := 0) hh0, _, c_Meet y h0, [], ⟨by omega, by omega⟩, encD h0, get_map (i := 0) hh0, ⟨by omega, by omega⟩, encD h0, get_map (i := 0) hh0, [], fun hf => ?_, fun _ => ?_⟩
        · have hf : (bothB y h0 (meetE y h0).1 (meetE y h0).2 d || ((((i : Nat) : Int) == 0) && (!(meetE y h0).2 || !eqL (encD (meetE y h0).1) (encD y)))) = true := hf
          rw [hb, Bool.false_or] at hf
          by_cases hi0 : i = 0
          · subst hi0
            rw [hh0] at hy; injection hy with hy; subst hy
            rw [meet_self hok0, eqL_D] at hf
            simp at hf
          · simp at hf; omega
        · refine ⟨_, wrap64 (by omega) (by omega), _, _, Wk.keep [0, 1, 4, 5, 7, 8, 36, 37, 38] [80], by omega, i + 1, by omega, rfl, ?_⟩
          rw [any_take _ ht, any_take _ ht]
          rfl
    · simp at h
      have : i = l.length := by omega
      subst this
      refine ⟨[], rfl, rfl, ?_⟩
      show AV.bool true = AV.bool (((l.take l.length).any fun y => y.lo == x.lo) && ((l.take l.length).any fun y => y.hi == x.hi))
      rw [List.take_length]
      have e1 : (l.any fun y => y.lo == x.lo) = true := List.any_eq_true.2 (by obtain ⟨y, hy, e⟩ := hex1; exact ⟨y, hy, by simpa using e⟩)
      have e2 : (l.any fun y => y.hi == x.hi) = true := List.any_eq_true.2 (by obtain ⟨y, hy, e⟩ := hex2; exact ⟨y, hy, by simpa using e⟩)
      rw [e1, e2]; rfl
end Go.Abs.L03
