import Derived.Test.YtncihdldkhkajaaL32b
namespace Go.Abs.L32
open Go Go.Abs Go.Abs.Day Go.Proofs Go.RowKit
set_option linter.unusedVariables false
set_option maxRecDepth 20000
theorem l4 (l : List Per) (hl : l.length ≤ 9223372036854775807) (hz : ∀ p ∈ l, p.sz) (x0 y0 x1 y1 x2 y2 x3 y3 id : Int) : Fn Try.prog 4 [A l, .agg [I x0, I y0, I x1, I y1, I x2, I y2, I x3, I y3], I id] (.bool true) := by
  refine mk4 rfl ⟨_, c11, fun h => (by cases h), fun _ => ⟨_, c12 l hl, fun h => ⟨rfl, rfl, rfl⟩, fun h => ?_⟩⟩
  have hlen := few_len (by simpa using h : fewB l = true)
  generalize ha : learnR l id ⟨x0, y0⟩ ⟨x1, y1⟩ = A1
  generalize hb : learnR l id ⟨x2, y2⟩ ⟨x3, y3⟩ = B1
  have h18a := c18 l hl hz id ⟨x0, y0⟩ ⟨x1, y1⟩
  have h18b := c18 l hl hz id ⟨x2, y2⟩ ⟨x3, y3⟩
  have la := learn_len l id ⟨x0, y0⟩ ⟨x1, y1⟩
  have lb := learn_len l id ⟨x2, y2⟩ ⟨x3, y3⟩
  have za := learn_sz hz id ⟨x0, y0⟩ ⟨x1, y1⟩
  have zb := learn_sz hz id ⟨x2, y2⟩ ⟨x3, y3⟩
  rw [ha] at h18a la za
  rw [hb] at h18b lb zb
  refine ⟨_, c14 l (by omega), true, _, h18a, true, _, c14 l (by omega), true, _, h18b, true, [], fun h => ⟨rfl, rfl, rfl⟩, fun h => ?_⟩
  have h : ((A1.2 != 0) || (B1.2 != 0)) = false := h
  simp at h
  have h1 : (learnR l id ⟨x0, y0⟩ ⟨x1, y1⟩).2 = 0 := by rw [ha]; exact h.1
  have h2 : (learnR l id ⟨x2, y2⟩ ⟨x3, y3⟩).2 = 0 := by rw [hb]; exact h.2
  obtain ⟨i, a, k1, k2, k3, k4, k5, k6, k7, k8, k9⟩ := learn_ok h1
  obtain ⟨i', a', m1, m2, m3, m4, m5, m6, m7, m8, m9⟩ := learn_ok h2
  have : i' = i := by omega
  subst this
  rw [k1] at m1; injection m1 with m1; subst m1
  rw [ha] at k9
  rw [hb] at m9
  obtain ⟨q1, q2, q3, q4⟩ := learn_more k1 k2 k3 k5 k8
  obtain ⟨r1, r2, r3, r4⟩ := learn_more k1 k2 k3 k5 m8
  have e1 := learn_eq q2 q3 q1 m6 m7
  have e2 := learn_eq r2 r3 r1 k6 k7
  have hfin : learnR A1.1 id ⟨x2, y2⟩ ⟨x3, y3⟩ = learnR B1.1 id ⟨x0, y0⟩ ⟨x1, y1⟩ := by
    rw [k9, m9, e1, e2]
    by_cases hm : mayL (lrn a ⟨x0, y0⟩ ⟨x1, y1⟩) ⟨x2, y2⟩ ⟨x3, y3⟩
    · rw [if_pos hm, if_pos ((may_comm a _ _ _ _).1 hm), lrn_comm, List.set_set, List.set_set]
    · rw [if_neg hm, if_neg (fun h => hm ((may_comm a _ _ _ _).2 h))]
  have h18c := c18 A1.1 (by omega) za id ⟨x2, y2⟩ ⟨x3, y3⟩
  have h18d := c18 B1.1 (by omega) zb id ⟨x0, y0⟩ ⟨x1, y1⟩
  have lc := learn_len A1.1 id ⟨x2, y2⟩ ⟨x3, y3⟩
  rw [← hfin] at h18d
  refine ⟨_, h18c, _, h18d, [], _, tk (tk2 (c19 _ _ (by omega))), rfl, rfl, ?_⟩
  show AV.bool true = AV.bool ((_ == _) && decide _)
  simp
theorem l7 (l : List Per) (hl : l.length ≤ 9223372036854775807) (hz : ∀ p ∈ l, p.sz) (x0 y0 x1 y1 x2 y2 id k : Int) : Fn Try.prog 7 [A l, .agg [I x0, I y0, I x1, I y1, I x2, I y2], .agg [I id, I k]] (.bool true) := by
  refine mk7 rfl ⟨_, c11, fun h => (by cases h), fun _ => ⟨_, c12 l hl, fun h => ⟨rfl, rfl, rfl⟩, fun h => ?_⟩⟩
  have hlen := few_len (by simpa using h : fewB l = true)
  generalize ha : learnR l id ⟨x0, y0⟩ ⟨x1, y1⟩ = A1
  have h18a := c18 l hl hz id ⟨x0, y0⟩ ⟨x1, y1⟩
  have la := learn_len l id ⟨x0, y0⟩ ⟨x1, y1⟩
  have za := learn_sz hz id ⟨x0, y0⟩ ⟨x1, y1⟩
  rw [ha] at h18a la za
  refine ⟨_, c14 l (by omega), true, _, h18a, true, fun h => ?_, fun h => ?_⟩
  · have h : A1.2 ≠ 0 := by simpa using h
    have := learn_err (l := l) (id := id) (b := ⟨x0, y0⟩) (d := ⟨x1, y1⟩) (by rw [ha]; exact h)
    rw [ha] at this
    refine ⟨rfl, rfl, ?_⟩
    show AV.bool true = AV.bool (((A1.1.length : Nat) : Int) == 0)
    rw [this]; rfl
  · have h : A1.2 = 0 := by simpa using h
    obtain ⟨i, a, k1, k2, k3, k4, k5, k6, k7, k8, k9⟩ := learn_ok (l := l) (id := id) (b := ⟨x0, y0⟩) (d := ⟨x1, y1⟩) (by rw [ha]; exact h)
    rw [ha] at k9
    obtain ⟨q1, q2, q3, q4⟩ := learn_more k1 k2 k3 k5 k8
    have e1 := learn_eq q2 q3 q1 k6 k7
    rw [if_pos (may_idem k8), lrn_idem, List.set_set] at e1
    have f1 : findE l id = (a, true) := by unfold findE; rw [if_neg (by simp [k5]), k4]
    have f2 : findE A1.1 id = (lrn a ⟨x0, y0⟩ ⟨x1, y1⟩, true) := by rw [k9]; unfold findE; rw [if_neg (by simp [q1]), q4]
    have h22a := c22 l hl hz id
    have h22b := c22 A1.1 (by omega) za id
    rw [f1] at h22a
    rw [f2] at h22b
    have sa := hz a (List.mem_of_getElem? k1)
    have fa := check_ok k5 a (List.mem_of_getElem? k1)
    have fb := k8.2.2
    have hu : (untilR a ⟨x2, y2⟩ k).2 = (untilR (lrn a ⟨x0, y0⟩ ⟨x1, y1⟩) ⟨x2, y2⟩ k).2 ∧ (untilR (lrn a ⟨x0, y0⟩ ⟨x1, y1⟩) ⟨x2, y2⟩ k).1 ≤ (untilR a ⟨x2, y2⟩ k).1 := by
      by_cases hm : okD ⟨x2, y2⟩ = false
      · unfold untilR
        rw [if_pos (.inr hm), if_pos (.inr hm)]; exact ⟨rfl, Int.le_refl _⟩
      · have v1 : untilR a ⟨x2, y2⟩ k = if k < 0 ∨ k > 200 then (0, 2) else (untilE a ⟨x2, y2⟩ k, 0) := by
          rw [untilR, if_neg (by simp only [fa, hm]; simp)]
        have v2 : untilR (lrn a ⟨x0, y0⟩ ⟨x1, y1⟩) ⟨x2, y2⟩ k = if k < 0 ∨ k > 200 then (0, 2) else (untilE (lrn a ⟨x0, y0⟩ ⟨x1, y1⟩) ⟨x2, y2⟩ k, 0) := by
          rw [untilR, if_neg (by simp only [fb, hm]; simp)]
        rw [v1, v2]
        by_cases hk : k < 0 ∨ k > 200
        · rw [if_pos hk, if_pos hk]; exact ⟨rfl, Int.le_refl _⟩
        · rw [if_neg hk, if_neg hk]
          refine ⟨rfl, ?_⟩
          have hm' : okD ⟨x2, y2⟩ = true := by simpa using hm
          have R1 := ready_of fa hm' (k := k) ⟨by omega, by omega⟩
          have R2 := ready_of fb hm' (k := k) ⟨by omega, by omega⟩
          have k0 := R1.k.1
          have g1 := yrs_mono R2.d R1.d (both_hi a.d ⟨x1, y1⟩) k0
          have g2 := yrs_mono R2.b R1.b (both_hi a.b ⟨x0, y0⟩) (k := 110) (by omega)
          have g3 := yrs_mono (yrs_good R2.b (by omega)).1 (yrs_good R1.b (by omega)).1 g2 k0
          show untilE _ _ _ ≤ untilE _ _ _
          unfold untilE
          simp only [minI_eq]
          omega
    have h18c := c18 A1.1 (by omega) za id ⟨x0, y0⟩ ⟨x1, y1⟩
    have e2 : learnR A1.1 id ⟨x0, y0⟩ ⟨x1, y1⟩ = (A1.1, 0) := by rw [k9, e1]
    rw [e2] at h18c
    refine ⟨_, c14 l (by omega), _, tk h22a, _, c14 A1.1 (by omega), _, tk h22b, _, c20 a sa ⟨x2, y2⟩ k, _, c20 (lrn a ⟨x0, y0⟩ ⟨x1, y1⟩) sa ⟨x2, y2⟩ k, _, c14 A1.1 (by omega), true, _, h18c, true, [], _, c19 A1.1 A1.1 (by omega), rfl, rfl, ?_⟩
    show AV.bool true = AV.bool (true && true && ((untilR a ⟨x2, y2⟩ k).2 == (untilR (lrn a ⟨x0, y0⟩ ⟨x1, y1⟩) ⟨x2, y2⟩ k).2) && decide ((untilR (lrn a ⟨x0, y0⟩ ⟨x1, y1⟩) ⟨x2, y2⟩ k).1 ≤ (untilR a ⟨x2, y2⟩ k).1) && ((0 : Int) == 0) && decide (A1.1 = A1.1))
    rw [hu.1]
    simp [hu.2]
theorem l5 (p : Per) (hp : p.sz) (made : Dat) (born died k : Int) : Fn Try.prog 5 [.agg (encP p), .agg (encD made), .agg [I born, I died, I k]] (.bool true) := by
  refine mk5 rfl ⟨_, c11, fun h => (by cases h), fun _ => ⟨_, c20 p hp made k, [], fun h => ⟨rfl, rfl, rfl⟩, fun h => ?_⟩⟩
  have h : (decide (((bs p.name).size : Int) > 200) || ((untilR p made k).2 != 0)) = false := h
  have hu : (untilR p made k).2 = 0 := by simp at h; exact h.2
  have hR : faultE p = 0 ∧ okD made = true ∧ goodK k ∧ (untilR p made k).1 = untilE p made k := by
    unfold untilR at hu ⊢
    split at hu
    · cases hu
    · rename_i h1
      split at hu
      · cases hu
      · rename_i h2
        simp only [not_or, Bool.not_eq_false] at h1
        rw [if_neg (by simp [h1.1, h1.2]), if_neg h2]
        exact ⟨by simpa using h1.1, h1.2, ⟨by omega, by omega⟩, rfl⟩
  obtain ⟨hf, hm, hk, he⟩ := hR
  have R := ready_of hf hm hk
  obtain ⟨ob, od, _⟩ := fault_ok hf
  refine ⟨[], fun h => ⟨rfl, rfl, rfl⟩, fun h => ?_⟩
  simp at h
  obtain ⟨⟨⟨⟨⟨b1, b2⟩, d1⟩, d2⟩, bd⟩, bm⟩ := h
  rw [okD_iff] at ob od hm
  have gb : good born := ⟨by omega, by omega⟩
  have gd : good died := ⟨by omega, by omega⟩
  refine ⟨_, c_yrs born 110 gb (by omega) (by omega), [], fun h => ⟨rfl, rfl, rfl⟩, fun h => ?_⟩
  have h : (((0 : Int) != 0) || decide (died > yrs born 110)) = false := h
  simp at h
  refine ⟨_, c_yrs died k gd hk.1 hk.2, [], rfl, rfl, ?_⟩
  show AV.bool true = AV.bool (((0 : Int) == 0) && decide ((untilR p made k).1 > yrs died k))
  have k0 := hk.1
  have e1 := yrs_mono gd R.d (by omega) k0
  have e2 := yrs_mono gb R.b (by omega) (k := 110) (by omega)
  have e3 := yrs_mono gd (yrs_good R.b (k := 110) (by omega)).1 (by omega) k0
  have e4 := yrs_mono gb R.m (by omega) (k := 110) (by omega)
  have e5 := yrs_mono gd (yrs_good R.m (k := 110) (by omega)).1 (by omega) k0
  rw [he]
  have : untilE p made k > yrs died k := by
    unfold untilE
    simp only [minI_eq]
    omega
  simp [this]
theorem lives_range (p : Per) (d : Int) : 0 ≤ (livesR p d).1 ∧ (livesR p d).1 ≤ 2 := by
  unfold livesR; (repeat' split) <;> simp
theorem lives_ok {p : Per} {d : Int} (h : (livesR p d).2 = 0) : faultE p = 0 ∧ 0 ≤ d ∧ d ≤ 1048575 ∧ ((livesR p d).1 = 2 → p.b.hi ≤ d ∧ d ≤ p.d.lo) := by
  unfold livesR at h ⊢
  split at h
  · cases h
  · rename_i h1
    split at h
    · cases h
    · rename_i h2
      rw [if_neg h1, if_neg h2]
      refine ⟨by simpa using h1, by omega, by omega, ?_⟩
      split
      · rename_i h3; intro _; exact h3
      · split
        · intro h; cases h
        · intro h; cases h
theorem lives_two {p : Per} {d : Int} (h1 : faultE p = 0) (h2 : 0 ≤ d) (h3 : d ≤ 1048575) (h4 : p.b.hi ≤ d ∧ d ≤ p.d.lo) : livesR p d = (2, 0) := by
  unfold livesR
  rw [if_neg (by simp [h1]), if_neg (by omega), if_pos h4]
theorem l10 (p : Per) (hp : p.sz) (x y : Int) : Fn Try.prog 10 [.agg (encP p), .agg [I x, I y]] (.bool true) := by
  refine mk10 rfl ⟨_, c11, fun h => (by cases h), fun _ => ⟨fun h => ⟨rfl, rfl, rfl⟩, fun h => ?_⟩⟩
  refine ⟨_, c27 p hp x, _, c27 p hp y, [], fun h => ⟨rfl, rfl, rfl⟩, fun h => ?_⟩
  have h : (((livesR p x).2 != 0) || ((livesR p y).2 != 0)) = false := h
  simp at h
  obtain ⟨f1, x1, x2, xc⟩ := lives_ok h.1
  obtain ⟨_, y1, y2, yc⟩ := lives_ok h.2
  have rx := lives_range p x
  have ry := lives_range p y
  refine ⟨fun hg => ?_, fun hg => ?_⟩
  · have hg : x > y := by simpa using hg
    refine ⟨[], fun hc => ?_, fun hc => ?_⟩
    · have hc : (livesR p y).1 = 2 ∧ (livesR p x).1 = 2 := by simpa using hc
      have := xc hc.2
      have := yc hc.1
      have hq : (x - y).tdiv 2 = (x - y) / 2 := Int.tdiv_eq_ediv_of_nonneg (by omega)
      have h27 := c27 p hp (y + (x - y).tdiv 2)
      rw [lives_two f1 (by omega) (by omega) (by omega)] at h27
      refine ⟨_, wrap64 (by omega) (by omega), by decide, _, wrap64 (by omega) (by omega), _, wrap64 (by omega) (by omega), _, h27, [], rfl, rfl, rfl⟩
    · refine ⟨[], rfl, rfl, ?_⟩
      show AV.bool true = AV.bool (decide ((livesR p y).1 ≥ 0) && decide ((livesR p y).1 ≤ 2) && decide ((livesR p x).1 ≥ 0) && decide ((livesR p x).1 ≤ 2))
      simp [rx, ry]
  · have hg : ¬ x > y := by simpa using hg
    refine ⟨[], fun hc => ?_, fun hc => ?_⟩
    · have hc : (livesR p x).1 = 2 ∧ (livesR p y).1 = 2 := by simpa using hc
      have := xc hc.1
      have := yc hc.2
      have hq : (y - x).tdiv 2 = (y - x) / 2 := Int.tdiv_eq_ediv_of_nonneg (by omega)
      have h27 := c27 p hp (x + (y - x).tdiv 2)
      rw [lives_two f1 (by omega) (by omega) (by omega)] at h27
      refine ⟨_, wrap64 (by omega) (by omega), by decide, _, wrap64 (by omega) (by omega), _, wrap64 (by omega) (by omega), _, h27, [], rfl, rfl, rfl⟩
    · refine ⟨[], rfl, rfl, ?_⟩
      show AV.bool true = AV.bool (decide ((livesR p x).1 ≥ 0) && decide ((livesR p x).1 ≤ 2) && decide ((livesR p y).1 ≥ 0) && decide ((livesR p y).1 ≤ 2))
      simp [rx, ry]
end Go.Abs.L32
