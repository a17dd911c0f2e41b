import Derived.Test.YtioekoecinogjaaDoorL03a
namespace Go.Abs.L03
open Go Go.Abs Go.Abs.Day Go.Proofs Go.RowKit
set_option linter.unusedVariables false
set_option maxRecDepth 20000
/-! ### a text that was printed is read back -/
theorem date_rng {d y m n : Int} (h : IsDate d y m n) : (0 ≤ y ∧ y < 10000) ∧ (0 ≤ m ∧ m < 100) ∧ 0 ≤ n ∧ n < 100 := by
  have := h.y1; have := h.y2; have := h.m1; have := h.m2; have := h.n1; have := h.n2; have := lenM_range y m
  omega
theorem sh4 {a b c e : UInt8} (h : allDig [a, b, c, e] = true) : shapedB [a, b, c, e] = true := by
  unfold shapedB lenB
  simp [shB, allDig] at h ⊢
  exact h
theorem sh7 {a b c e f g : UInt8} (h : allDig [a, b, c, e] = true) (h' : allDig [f, g] = true) : shapedB [a, b, c, e, 45, f, g] = true := by
  unfold shapedB lenB
  simp [shB, allDig] at h h' ⊢
  exact ⟨h.1, h.2.1, h.2.2.1, h.2.2.2, h'⟩
theorem sh10 {a b c e f g i j : UInt8} (h : allDig [a, b, c, e] = true) (h' : allDig [f, g] = true) (h'' : allDig [i, j] = true) : shapedB [a, b, c, e, 45, f, g, 45, i, j] = true := by
  unfold shapedB lenB
  simp [shB, allDig] at h h' h'' ⊢
  exact ⟨h.1, h.2.1, h.2.2.1, h.2.2.2, h'.1, h'.2, h''⟩
theorem low21 : low 2 1 = [48, 49] := by decide
/-- the text of a period of a day is read as that period -/
theorem per_read {d : Int} (hd : good d) : (shapedB ((tx d).take 4) = true ∧ readR ((tx d).take 4) = (perE d 4, true)) ∧ (shapedB ((tx d).take 7) = true ∧ readR ((tx d).take 7) = (perE d 7, true)) ∧ (shapedB (tx d) = true ∧ readR (tx d) = (perE d 10, true)) := by
  obtain ⟨y, m, n, hD⟩ := date_ex hd.1 hd.2
  obtain ⟨⟨ry0, ry1⟩, ⟨rm0, rm1⟩, rn0, rn1⟩ := date_rng hD
  obtain ⟨a1, a2⟩ := num4 ry0 ry1
  obtain ⟨b1, b2⟩ := num2 rm0 rm1
  obtain ⟨c1, c2⟩ := num2 rn0 rn1
  rw [tx_eq hD]
  have e := hD.eq
  have n1 := hD.n1
  have hd2 := hd.2
  refine ⟨⟨?_, ?_⟩, ⟨?_, ?_⟩, ?_, ?_⟩
  · exact sh4 a1
  · have hf : fullL ((txt y m n).take 4) = txt y 1 1 := by unfold txt; rw [low21]; rfl
    have hm := beg_max hD.y2
    have hF := first_year hD.y1 hD.y2
    have hp : parseE (txt y 1 1) = (beg y, 0) := by
      rw [parse_txt ry0 ry1 (by omega) (by omega) (by omega) (by omega), ofE_date hF (by omega)]
    rw [readR, hf, hp, if_neg (by simp), per4 hD]
    exact Prod.ext (per4 hF) rfl
  · exact sh7 a1 b1
  · have hf : fullL ((txt y m n).take 7) = txt y m 1 := by unfold txt; rw [low21]; rfl
    have hF := first_month hD
    have hp : parseE (txt y m 1) = (beg y + cum y m, 0) := by
      rw [parse_txt ry0 ry1 rm0 rm1 (by omega) (by omega), ofE_date hF (by omega)]
    rw [readR, hf, hp, if_neg (by simp), per7 hD]
    exact Prod.ext (per7 hF) rfl
  · exact sh10 a1 b1 c1
  · have hf : fullL (txt y m n) = txt y m n := by unfold fullL; rw [txt_len]; simp [sufL]
    have hp : parseE (txt y m n) = (d, 0) := by
      rw [parse_txt ry0 ry1 rm0 rm1 rn0 rn1, ofE_date hD hd2]
    rw [readR, hf, hp, if_neg (by simp), txt_len]
    rfl
theorem dig_not {b : UInt8} (h : isDig b = true) : b ≠ 47 ∧ b ≠ 97 ∧ b ≠ 98 ∧ b ≠ 117 := by
  refine ⟨?_, ?_, ?_, ?_⟩ <;> (rintro rfl; revert h; decide)
/-- begins with a digit, has no slash -/
structure Plain (l : List UInt8) : Prop where
  head : ∃ a r, l = a :: r ∧ isDig a = true
  no : ∀ b ∈ l, b ≠ 47
theorem tx_plain {d : Int} (hd : good d) : Plain (tx d) := by
  obtain ⟨y, m, n, hD⟩ := date_ex hd.1 hd.2
  obtain ⟨⟨ry0, ry1⟩, ⟨rm0, rm1⟩, rn0, rn1⟩ := date_rng hD
  rw [tx_eq hD]
  have k : ∀ z : Int, isDig (dig (z % 10)) = true := fun z => dig_is (by omega) (by omega)
  refine ⟨⟨dig (y / 1000 % 10), _, by unfold txt; rw [low4]; rfl, k _⟩, fun b hb => ?_⟩
  unfold txt at hb
  rw [low4, low2, low2] at hb
  simp at hb
  rcases hb with rfl | rfl | rfl | rfl | rfl | rfl | rfl | rfl | rfl | rfl <;> first | exact (dig_not (k _)).1 | decide
theorem take_plain {l : List UInt8} (h : Plain l) {k : Nat} (hk : 1 ≤ k) : Plain (l.take k) := by
  obtain ⟨⟨a, r, rfl, ha⟩, hn⟩ := h
  refine ⟨⟨a, r.take (k - 1), ?_, ha⟩, fun b hb => hn b (List.mem_of_mem_take hb)⟩
  obtain ⟨j, rfl⟩ : ∃ j, k = j + 1 := ⟨k - 1, by omega⟩
  simp
theorem text_read {d : Int} (hd : good d) (p : Dat → Bool) (hp : p (perE d 10) = true) : shapedB (textE d p) = true ∧ (readR (textE d p)).2 = true ∧ p (readR (textE d p)).1 = true ∧ Plain (textE d p) := by
  obtain ⟨⟨s4, r4⟩, ⟨s7, r7⟩, s10, r10⟩ := per_read hd
  have hP := tx_plain hd
  unfold textE
  by_cases h4 : p (perE d 4) = true
  · rw [if_pos h4, r4]; exact ⟨s4, rfl, h4, take_plain hP (by omega)⟩
  · rw [if_neg h4]
    by_cases h7 : p (perE d 7) = true
    · rw [if_pos h7, r7]; exact ⟨s7, rfl, h7, take_plain hP (by omega)⟩
    · rw [if_neg h7, if_pos hp, r10]; exact ⟨s10, rfl, hp, hP⟩
theorem beg_read {d : Int} (hd : good d) : shapedB (begT d) = true ∧ (readR (begT d)).2 = true ∧ (readR (begT d)).1.lo = d ∧ Plain (begT d) := by
  obtain ⟨h1, h2, h3, h4⟩ := text_read hd (fun p => p.lo == d) (by rw [perX (by decide) (by decide)]; simp)
  exact ⟨h1, h2, beq_iff_eq.1 h3, h4⟩
theorem end_read {d : Int} (hd : good d) : shapedB (endT d) = true ∧ (readR (endT d)).2 = true ∧ (readR (endT d)).1.hi = d ∧ Plain (endT d) := by
  obtain ⟨h1, h2, h3, h4⟩ := text_read hd (fun p => p.hi == d) (by rw [perX (by decide) (by decide)]; simp)
  exact ⟨h1, h2, beq_iff_eq.1 h3, h4⟩
theorem idx_none : ∀ (l : List UInt8), (∀ b ∈ l, b ≠ 47) → Lib.index l [47] = -1
  | [], _ => rfl
  | b :: r, h => by
    have hb := h b (by simp)
    have ih := idx_none r fun c hc => h c (by simp [hc])
    rw [Lib.index, if_neg (by simp [List.isPrefixOf]; exact fun e => hb e.symm), ih]; rfl
theorem idx_mid : ∀ (l u : List UInt8), (∀ b ∈ l, b ≠ 47) → Lib.index (l ++ 47 :: u) [47] = l.length
  | [], u, _ => by simp [Lib.index, List.isPrefixOf]
  | b :: r, u, h => by
    have hb := h b (by simp)
    have ih := idx_mid r u fun c hc => h c (by simp [hc])
    rw [List.cons_append, Lib.index, if_neg (by simp [List.isPrefixOf]; exact fun e => hb e.symm), ih, if_neg (by simp)]
    simp
theorem cut_none {l : List UInt8} (h : ∀ b ∈ l, b ≠ 47) : Lib.cut l [47] = (l, [], false) := by
  rw [Lib.cut, idx_none l h, if_neg (by decide)]
theorem cut_mid {l u : List UInt8} (h : ∀ b ∈ l, b ≠ 47) : Lib.cut (l ++ 47 :: u) [47] = (l, u, true) := by
  rw [Lib.cut, idx_mid l u h, if_pos (by omega)]
  simp
theorem no_pre {p0 : UInt8} {p r : List UInt8} {a : UInt8} (h : a ≠ p0) : hasP (p0 :: p) (a :: r) = false := by
  unfold hasP; simp [h]
theorem has_pre (p x : List UInt8) : hasP p (p ++ x) = true := by
  unfold hasP; simp
theorem join1 {l : List UInt8} {J : List Dat → Dat} (h1 : shapedB l = true) (h2 : (readR l).2 = true) (h3 : okD (J [(readR l).1]) = true) : joinR [l] J = (J [(readR l).1], 0) := by
  rw [joinR, if_neg (by simp [h1]), if_neg (by simp [h2])]
  rw [if_neg (by simp only [List.map_cons, List.map_nil]; rw [h3]; simp)]
  rfl
theorem parse_plain {l : List UInt8} (hP : Plain l) (h1 : shapedB l = true) (h2 : (readR l).2 = true) : parseD l = ((readR l).1, 0) := by
  obtain ⟨⟨a, r, rfl, ha⟩, hn⟩ := hP
  obtain ⟨d1, d2, d3, d4⟩ := dig_not ha
  rw [parseD, if_neg (by unfold unknownL; simp [d4]), beforeL, no_pre d3, if_neg (by simp), afterL, no_pre d2, if_neg (by simp), cut_none hn, if_neg (by simp)]
  exact join1 h1 h2 (read_ok h2)
theorem parse_fmt {x : Dat} (hx : okD x = true) : parseD (fmtE x).1 = (x, 0) ∧ (fmtE x).2 = 0 := by
  have ho := okD_iff.1 hx
  have glo : good x.lo := ⟨by omega, by omega⟩
  have ghi : good x.hi := ⟨by omega, by omega⟩
  obtain ⟨⟨s4, r4⟩, ⟨s7, r7⟩, s10, r10⟩ := per_read glo
  have hP := tx_plain glo
  rw [fmtE, if_neg (by simp [hx])]
  by_cases hu : x = ⟨0, 1048575⟩
  · rw [if_pos hu]
    refine ⟨?_, rfl⟩
    rw [parseD, if_pos rfl, hu]
  · rw [if_neg hu]
    by_cases h4 : perE x.lo 4 = x
    · rw [if_pos h4]
      refine ⟨?_, rfl⟩
      rw [parse_plain (take_plain hP (by omega)) s4 (by rw [r4]), r4, h4]
    · rw [if_neg h4]
      by_cases h7 : perE x.lo 7 = x
      · rw [if_pos h7]
        refine ⟨?_, rfl⟩
        rw [parse_plain (take_plain hP (by omega)) s7 (by rw [r7]), r7, h7]
      · rw [if_neg h7]
        by_cases h10 : x.lo = x.hi
        · rw [if_pos h10]
          refine ⟨?_, rfl⟩
          rw [parse_plain hP s10 (by rw [r10]), r10, (per10 x).2 h10]
        · rw [if_neg h10]
          by_cases h0 : x.lo = 0
          · rw [if_pos h0]
            refine ⟨?_, rfl⟩
            have hm : x.hi ≠ 1048575 := by rintro hm; apply hu; cases x; simp at h0 hm ⊢; exact ⟨h0, hm⟩
            obtain ⟨b1, b2, b3, b4⟩ := beg_read (d := x.hi + 1) ⟨by omega, by omega⟩
            have hJ : J2 [(readR (begT (x.hi + 1))).1] = x := by
              show (⟨0, (readR (begT (x.hi + 1))).1.lo - 1⟩ : Dat) = x
              rw [b3]; cases x; simp at h0 ⊢; omega
            show parseD (beforeL ++ begT (x.hi + 1)) = (x, 0)
            rw [parseD, if_neg (by unfold unknownL beforeL; simp), has_pre, if_pos rfl]
            rw [show (beforeL ++ begT (x.hi + 1)).drop 7 = begT (x.hi + 1) from rfl, join1 b1 b2 (by rw [hJ]; exact hx), hJ]
          · rw [if_neg h0]
            by_cases hm : x.hi = 1048575
            · rw [if_pos hm]
              refine ⟨?_, rfl⟩
              obtain ⟨b1, b2, b3, b4⟩ := end_read (d := x.lo - 1) ⟨by omega, by omega⟩
              have hJ : J3 [(readR (endT (x.lo - 1))).1] = x := by
                show (⟨(readR (endT (x.lo - 1))).1.hi + 1, 1048575⟩ : Dat) = x
                rw [b3]; cases x; simp at hm ⊢; omega
              show parseD (afterL ++ endT (x.lo - 1)) = (x, 0)
              rw [parseD, if_neg (by unfold unknownL afterL; simp)]
              rw [show hasP beforeL (afterL ++ endT (x.lo - 1)) = false from no_pre (by decide), if_neg (by simp), has_pre, if_pos rfl]
              rw [show (afterL ++ endT (x.lo - 1)).drop 6 = endT (x.lo - 1) from rfl, join1 b1 b2 (by rw [hJ]; exact hx), hJ]
            · rw [if_neg hm]
              refine ⟨?_, rfl⟩
              obtain ⟨b1, b2, b3, b4⟩ := beg_read glo
              obtain ⟨c1, c2, c3, c4⟩ := end_read ghi
              have hJ : J4 [(readR (begT x.lo)).1, (readR (endT x.hi)).1] = x := by
                show (⟨(readR (begT x.lo)).1.lo, (readR (endT x.hi)).1.hi⟩ : Dat) = x
                rw [b3, c3]
              show parseD (begT x.lo ++ [47] ++ endT x.hi) = (x, 0)
              rw [List.append_assoc, List.singleton_append]
              obtain ⟨⟨a, r, hr, ha⟩, hn⟩ := b4
              obtain ⟨d1, d2, d3, d4⟩ := dig_not ha
              have hc := cut_mid (u := endT x.hi) hn
              rw [parseD, hc, if_pos rfl]
              rw [if_neg (by rw [hr]; unfold unknownL; simp [d4])]
              rw [show hasP beforeL (begT x.lo ++ 47 :: endT x.hi) = false by rw [hr]; exact no_pre d3, if_neg (by simp)]
              rw [show hasP afterL (begT x.lo ++ 47 :: endT x.hi) = false by rw [hr]; exact no_pre d2, if_neg (by simp)]
              rw [joinR, if_neg (by simp [b1, c1]), if_neg (by simp [b2, c2])]
              rw [if_neg (by simp only [List.map_cons, List.map_nil]; rw [hJ, hx]; simp)]
              simp only [List.map_cons, List.map_nil, hJ]
theorem fmt_len (x : Dat) : (fmtE x).1.length ≤ 1000 := by
  have h1 := tx_len x.lo
  have h2 := begT_len (x.hi + 1)
  have h3 := endT_len (x.lo - 1)
  have h4 := begT_len x.lo
  have h5 := endT_len x.hi
  unfold fmtE
  (repeat' split) <;> simp [unknownL, beforeL, afterL] <;> omega
theorem join_cases (ps : List (List UInt8)) (J : List Dat → Dat) : (joinR ps J = (zD, 3) ∨ joinR ps J = (zD, 2)) ∨ (okD (joinR ps J).1 = true ∧ (joinR ps J).2 = 0) := by
  unfold joinR
  by_cases h1 : ps.all shapedB = false
  · rw [if_pos h1]; exact .inl (.inl rfl)
  · rw [if_neg h1]
    by_cases h2 : ps.all (fun p => (readR p).2) = false
    · rw [if_pos h2]; exact .inl (.inr rfl)
    · rw [if_neg h2]
      by_cases h3 : okD (J (ps.map fun p => (readR p).1)) = false
      · rw [if_pos h3]; exact .inl (.inr rfl)
      · rw [if_neg h3]; exact .inr ⟨by simpa using h3, rfl⟩
theorem parse_out (l : List UInt8) : (parseD l = (zD, 3) ∨ parseD l = (zD, 2)) ∨ (okD (parseD l).1 = true ∧ (parseD l).2 = 0) := by
  unfold parseD
  by_cases h0 : l = unknownL
  · rw [if_pos h0]; exact .inr ⟨by decide, rfl⟩
  · rw [if_neg h0]
    by_cases h1 : hasP beforeL l = true
    · rw [if_pos h1]; exact join_cases _ _
    · rw [if_neg h1]
      by_cases h2 : hasP afterL l = true
      · rw [if_pos h2]; exact join_cases _ _
      · rw [if_neg h2]
        by_cases h3 : (Lib.cut l [47]).2.2 = true
        · rw [if_pos h3]; exact join_cases _ _
        · rw [if_neg h3]; exact join_cases _ _
theorem l4 (a : Dat) (l : List UInt8) (hl : l.length ≤ 9223372036854775807) : Fn Tryd.prog 4 [.agg (encD a), .str (bs l)] (.bool true) := by
  refine mk4 rfl ⟨_, c11, fun h => (by cases h), fun _ => ⟨fun h => ⟨rfl, rfl, rfl⟩, fun h => ?_⟩⟩
  have h60 : l.length ≤ 60 := by
    have : decide (((l.length : Nat) : Int) > 60) = false := h
    simp at this; omega
  clear h
  have hP := c14 l (by omega)
  have fin : ∀ (x : Dat), okD x = true → ∃ s, fmtE x = (s, 0) ∧ parseD s = (x, 0) ∧ s.length ≤ 1000 := by
    intro x hx
    obtain ⟨h1, h2⟩ := parse_fmt hx
    exact ⟨(fmtE x).1, Prod.ext rfl h2, h1, fmt_len x⟩
  have hF := c12 a
  cases hoa : okD a with
  | true =>
    obtain ⟨s, hs1, hs2, hs3⟩ := fin a hoa
    have hS := c14 s hs3
    rw [hs1] at hF
    rw [hs2] at hS
    rcases parse_out l with (ho | ho) | ⟨ho1, ho2⟩
    · rw [ho] at hP
      refine ⟨_, hF, fun _ => ⟨_, hS, [], fun h => ?_, fun _ => ⟨_, hP, fun _ => ⟨[(3, true), (6, true)], rfl, rfl, rfl, rfl, rfl⟩, fun h => (by cases h)⟩⟩, fun h => (by cases h)⟩
      have h : (((0 : Int) != 0) || !eqL (encD a) (encD a)) = true := h
      rw [eqL_D] at h; simp at h
    · rw [ho] at hP
      refine ⟨_, hF, fun _ => ⟨_, hS, [], fun h => ?_, fun _ => ⟨_, hP, fun _ => ⟨[(3, true), (6, false)], rfl, rfl, rfl, rfl, rfl⟩, fun h => (by cases h)⟩⟩, fun h => (by cases h)⟩
      have h : (((0 : Int) != 0) || !eqL (encD a) (encD a)) = true := h
      rw [eqL_D] at h; simp at h
    · rw [ho2] at hP
      generalize (parseD l).1 = x at *
      obtain ⟨t, ht1, ht2, ht3⟩ := fin x ho1
      have hX := c12 x
      have hT := c14 t ht3
      have hC := c_dCheck x
      rw [ht1] at hX
      rw [ht2] at hT
      rw [show chkD x = 0 from chk_iff.2 ho1] at hC
      refine ⟨_, hF, fun _ => ⟨_, hS, [], fun h => ?_, fun _ => ⟨_, hP, fun h => (by cases h), fun _ => ⟨_, hX, _, hT, [], _, hC, rfl, rfl, ?_⟩⟩⟩, fun h => (by cases h)⟩
      · have h : (((0 : Int) != 0) || !eqL (encD a) (encD a)) = true := h
        rw [eqL_D] at h; simp at h
      · show AV.bool true = AV.bool (((0 : Int) == 0) && ((0 : Int) == 0) && ((0 : Int) == 0) && eqL (encD x) (encD x))
        rw [eqL_D]; simp
  | false =>
    have hs1 : fmtE a = ([], 1) := by rw [fmtE, if_pos hoa]
    have hC0 := c_dCheck a
    rw [hs1] at hF
    rw [show chkD a = 1 by unfold chkD; rw [hoa]; rfl] at hC0
    have e0 : (!((bs []).toList == (⟨#[]⟩ : ByteArray).toList)) = false := by
      show (!((bs []).toList == (bs []).toList)) = false
      rw [bs_eq]; rfl
    rcases parse_out l with (ho | ho) | ⟨ho1, ho2⟩
    · rw [ho] at hP
      refine ⟨_, hF, fun h => (by cases h), fun _ => ⟨[], _, hC0, fun h => ?_, fun _ => ⟨_, hP, fun _ => ⟨[(3, true), (6, true)], rfl, rfl, rfl, rfl, rfl⟩, fun h => (by cases h)⟩⟩⟩
      have h : (((1 : Int) != 1) || !((bs []).toList == (⟨#[]⟩ : ByteArray).toList)) = true := h
      rw [e0] at h; simp at h
    · rw [ho] at hP
      refine ⟨_, hF, fun h => (by cases h), fun _ => ⟨[], _, hC0, fun h => ?_, fun _ => ⟨_, hP, fun _ => ⟨[(3, true), (6, false)], rfl, rfl, rfl, rfl, rfl⟩, fun h => (by cases h)⟩⟩⟩
      have h : (((1 : Int) != 1) || !((bs []).toList == (⟨#[]⟩ : ByteArray).toList)) = true := h
      rw [e0] at h; simp at h
    · rw [ho2] at hP
      generalize (parseD l).1 = x at *
      obtain ⟨t, ht1, ht2, ht3⟩ := fin x ho1
      have hX := c12 x
      have hT := c14 t ht3
      have hC := c_dCheck x
      rw [ht1] at hX
      rw [ht2] at hT
      rw [show chkD x = 0 from chk_iff.2 ho1] at hC
      refine ⟨_, hF, fun h => (by cases h), fun _ => ⟨[], _, hC0, fun h => ?_, fun _ => ⟨_, hP, fun h => (by cases h), fun _ => ⟨_, hX, _, hT, [], _, hC, rfl, rfl, ?_⟩⟩⟩⟩
      · have h : (((1 : Int) != 1) || !((bs []).toList == (⟨#[]⟩ : ByteArray).toList)) = true := h
        rw [e0] at h; simp at h
      · show AV.bool true = AV.bool (((0 : Int) == 0) && ((0 : Int) == 0) && ((0 : Int) == 0) && eqL (encD x) (encD x))
        rw [eqL_D]; simp
end Go.Abs.L03
