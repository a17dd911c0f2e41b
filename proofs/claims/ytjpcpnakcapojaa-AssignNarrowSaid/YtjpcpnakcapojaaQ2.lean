import Derived.Test.YtjpcpnakcapojaaC38ac
import Derived.Test.YtjpcpnakcapojaaP38k
import Derived.Test.YtjpcpnakcapojaaQ1
namespace Go.Abs.L38
open Go Go.Abs Go.Proofs Go.Abs.Hung
set_option linter.unusedVariables false
set_option maxRecDepth 20000
/-! ### the next set (the reference) -/
set_option maxHeartbeats 4000000 in
theorem c40 (s : List Nat) (hs : s.length ≤ 1000) (n : Nat) (hn : n ≤ 1000) (hr : ∀ j, s.getD j 0 ≤ 10000) (r : AV) (hR : match nextR s n s.length with | some L => r = fA (upN L) | none => r = .nilsl) : Fn Try.prog 40 [A (upN s), I n] r := by
  have hl : (upN s).length = s.length := upN_len s
  refine mk40 rfl ⟨⟨by show (0 + (upN s).length) * 8 ≤ _; omega, by omega⟩, scal (upN s), ((s.length : Int) - 1), wrapTo (x := ((0 + (upN s).length : Nat) : Int) - 1) (by omega) (by omega) (by omega), ?_⟩
  refine ⟨fun q c => ∃ i : Nat, i ≤ s.length ∧ q = i ∧ nextR s n i = nextR s n s.length ∧ c = ⟨[(0, A (upN s)), (1, I n), (4, .nilsl), (5, .osl 128 1 s.length), (6, I ((i : Int) - 1))], [(128, ⟨3, 1, .pure, (upN s).map enc⟩)]⟩, ⟨_, _, Wk.keep [0, 1, 4, 5, 6] [128], s.length, Nat.le_refl _, rfl, rfl, ?_⟩, ?_⟩
  · refine congr (congrArg Cfg.mk ?_) ?_
    · show [(0, A (upN s)), (1, I n), (4, .nilsl), (5, .osl 128 1 (0 + (upN s).length)), (6, I ((s.length : Int) - 1))] = _
      rw [Nat.zero_add, hl]
    · refine congrArg (fun x => [x]) (Prod.ext rfl ?_)
      rfl
  rintro i c ⟨_, hi, rfl, hN, rfl⟩
  refine ⟨fun h => ?_, fun h => ?_⟩
  · have h := of_decide_eq_true h
    obtain ⟨i, rfl⟩ : ∃ j, i = j + 1 := ⟨i - 1, by omega⟩
    have e1 : ((i + 1 : Nat) : Int) - 1 = ((i : Nat) : Int) := by omega
    rw [e1]
    clear h
    rw [nextR] at hN
    have rS := row_at (l := upN s) (i := i) (by omega)
    rw [upN_at] at rS
    have hsi := hr i
    refine ⟨⟨by omega, by omega⟩, _, rS, ((n : Int) - (s.length : Int)), wrapTo rfl (by omega) (by omega), ((n : Int) - (s.length : Int) + (i : Int)), wrapTo rfl (by omega) (by omega), fun h2 => ?_, fun h2 => ?_⟩
    · have h2 := of_decide_eq_true h2
      rw [if_pos (by omega)] at hN
      rw [← hN] at hR
      simp only at hR
      subst hR
      have eS : ((upN s).map enc).set ((i : Nat) : Int).toNat [I ((s.getD i 0 + 1 : Nat) : Int)] = (upN (rzE s i 0)).map enc := by rw [row_set, upN_set]; rfl
      refine ⟨⟨by omega, by omega⟩, _, rS, ((s.getD i 0 + 1 : Nat) : Int), wrapTo (by omega) (by omega) (by omega), ⟨by omega, by omega⟩, _, rS, ((i + 1 : Nat) : Int), wrapTo (by omega) (by omega) (by omega), ?_⟩
      refine ⟨fun q c => ∃ l : Nat, i + 1 + l ≤ s.length ∧ q = s.length - (i + 1 + l) ∧ c = ⟨[(5, .osl 128 1 s.length), (7, I ((i + 1 + l : Nat) : Int))], [(128, ⟨3, 1, .pure, (upN (rzE s i l)).map enc⟩)]⟩, ⟨_, _, Wk.keep [5, 7] [128], 0, by omega, rfl, ?_⟩, ?_⟩
      · rw [← eS]; rfl
      rintro q c ⟨l, hl2, rfl, rfl⟩
      have lz : (upN (rzE s i l)).length = s.length := by rw [upN_len, rzE_len]
      refine ⟨fun h3 => ?_, fun h3 => ?_⟩
      · have h3 := of_decide_eq_true h3
        have h3 : i + 1 + l < s.length := by omega
        have rZ := row_at (l := upN (rzE s i l)) (i := i + l) (by omega)
        rw [upN_at, rzE_at l (by omega)] at rZ
        have rZ2 := row_at (l := upN (rzE s i l)) (i := i + 1 + l) (by omega)
        have eZ : ((upN (rzE s i l)).map enc).set ((i + 1 + l : Nat) : Int).toNat [I ((s.getD i 0 + 1 + l + 1 : Nat) : Int)] = (upN (rzE s i (l + 1))).map enc := by rw [row_set, upN_set, rzE, rzE_at l (by omega), show i + l + 1 = i + 1 + l by omega]
        refine ⟨((i + l : Nat) : Int), wrapTo (by omega) (by omega) (by omega), ⟨by omega, by omega⟩, _, rZ, ((s.getD i 0 + 1 + l + 1 : Nat) : Int), wrapTo (by omega) (by omega) (by omega), ⟨by omega, by omega⟩, _, rZ2, ((i + 1 + (l + 1) : Nat) : Int), wrapTo (by omega) (by omega) (by omega), ?_⟩
        refine ⟨_, _, Wk.keep [5, 7] [128], by omega, l + 1, by omega, rfl, ?_⟩
        rw [← eZ]; rfl
      · have h3 := of_decide_eq_false h3
        have h3 : l = s.length - i - 1 := by omega
        subst h3
        exact ⟨rfl, _, rfl, rfl, by rw [List.length_map]; exact lz.symm, .inl ⟨rfl, by show AV.fsl true 3 1 (upN (rzE s i (s.length - i - 1))).length _ = AV.fsl true 3 1 s.length _; rw [lz]⟩⟩
    · have h2 := of_decide_eq_false h2
      rw [if_neg (by omega)] at hN
      exact ⟨((i : Int) - 1), wrapTo rfl (by omega) (by omega), _, _, Wk.keep [0, 1, 4, 5, 6] [128], by omega, i, by omega, rfl, hN, rfl⟩
  · have h := of_decide_eq_false h
    have h : i = 0 := by omega
    subst h
    rw [nextR] at hN
    rw [← hN] at hR
    simp only at hR
    subst hR
    exact ⟨rfl, .inl rfl⟩
end Go.Abs.L38
namespace Go.Abs.L38
open Go Go.Abs Go.Proofs Go.Abs.Hung
set_option linter.unusedVariables false
set_option maxRecDepth 20000
theorem upN_range (k : Nat) : (upN (List.range k)).map enc ++ [[I k]] = (upN (List.range (k + 1))).map enc := by
  rw [List.range_succ, upN, upN, List.map_append, List.map_append]; rfl
theorem Inc_getD {n i : Nat} {s : List Nat} (h : Inc n i s) (j : Nat) : s.getD j 0 ≤ n := by
  rw [List.getD_eq_getElem?_getD]
  cases e : s[j]? with
  | none => simp
  | some x =>
    have hj := (List.getElem?_eq_some_iff.1 e).1
    have := (Inc_get h j hj).2.1
    rw [List.getD_eq_getElem?_getD, e] at this
    exact Nat.le_of_lt this
theorem refS {T : List (List Int)} {k : Nat} {L : List Nat} (hn : T.length ≤ 16) (hl : L.length = k) (hi : Inc T.length 0 L) (hr : refB T (upN L) = false) (hv : ∀ t, Inc T.length 0 t → t.length = k → val t < val L → refB T (upN t) = false) {t : List Nat} (ht : Inc T.length 0 t) (htl : t.length = k) (h : val t ≤ val L) : refB T (upN t) = false := by
  rcases Nat.lt_or_ge (val t) (val L) with h1 | h1
  · exact hv t ht htl h1
  · rw [val_inj (n := T.length) (by omega) ht hi (by omega) (by omega)]; exact hr
set_option maxHeartbeats 4000000 in
theorem c21w (T : List (List Int)) (hT : T.length ≤ 9223372036854775807) (hTb : ∀ b ∈ T, b.length ≤ 9223372036854775807) {t0 : List Int} (R : TabR T t0) (hc : chkE T = 0) (ho : okP T (freeL T) T.length t0.length = false) (r : AV)
    (H1 : ∀ L, Inc T.length 0 L → 1 ≤ L.length → L.length ≤ T.length → refB T (upN L) = true → (∀ t, Inc T.length 0 t → 1 ≤ t.length → t.length < L.length → refB T (upN t) = false) → (∀ t, Inc T.length 0 t → t.length = L.length → val t < val L → refB T (upN t) = false) → r = .tup [A (upN L), I 0])
    (H2 : (∀ t, Inc T.length 0 t → 1 ≤ t.length → t.length ≤ T.length → refB T (upN t) = false) → r = .tup [.nilsl, I 11]) : Fn Try.prog 21 [AA T] r := by
  have hn := R.n
  have kc := c27 T hT hTb
  rw [hc] at kc
  have tb := tb_of R (F := freeL T) (by simp)
  have k34 := c34 tb
  rw [ho] at k34
  refine mk21 rfl ⟨_, kc, fun h => (by cases h), fun _ => ⟨_, k34, fun h => (by cases h), fun _ => ?_⟩⟩
  refine ⟨fun q c => ∃ k : Nat, 1 ≤ k ∧ k ≤ T.length + 1 ∧ q = T.length + 1 - k ∧ (∀ t, Inc T.length 0 t → 1 ≤ t.length → t.length < k → refB T (upN t) = false) ∧ c = ⟨[(0, AA T), (7, I k)], []⟩, ⟨_, _, Wk.keep [0, 7] [], 1, by omega, by omega, rfl, fun t _ h1 h2 => by omega, rfl⟩, ?_⟩
  rintro q c ⟨k, hk1, hk2, rfl, hS, rfl⟩
  refine ⟨fun h => ?_, fun h => ?_⟩
  · have h := of_decide_eq_true h
    have hkn : k ≤ T.length := by omega
    clear h
    refine ⟨fun q c => ∃ j : Nat, j ≤ k ∧ q = k - j ∧ c = ⟨[(0, AA T), (7, I k), (8, .osl 528 1 j), (26, I k), (27, I j)], [(528, ⟨3, 1, .pure, (upN (List.range j)).map enc⟩)]⟩, ⟨_, _, Wk.nilKeep 8 528 ⟨3, 1, .pure, []⟩ [0, 7, 8, 26, 27] [528] rfl rfl rfl, 0, by omega, rfl, rfl⟩, ?_⟩
    rintro q c ⟨j, hj, rfl, rfl⟩
    refine ⟨fun h => ?_, fun h => ?_⟩
    · have h := of_decide_eq_true h
      have hjk : j < k := by omega
      clear h
      have e : ((upN (List.range j)).map enc).take j ++ [[I j]] = (upN (List.range (j + 1))).map enc := by rw [List.take_of_length_le (by simp), upN_range j]
      refine ⟨⟨by show (j + 1) * 8 ≤ _; omega, by omega⟩, ?_⟩
      refine ⟨((j + 1 : Nat) : Int), wrapTo (by omega) (by omega) (by omega), _, _, Wk.keep [0, 7, 8, 26, 27] [528], by omega, j + 1, by omega, rfl, ?_⟩
      rw [← e]; rfl
    · have h := of_decide_eq_false h
      have hjk : j = k := by omega
      subst hjk
      refine ⟨fun q c => ∃ o : Option (List Nat), (match o with | some L => L.length = j ∧ Inc T.length 0 L ∧ q = 17 ^ j - val L ∧ (∀ t, Inc T.length 0 t → t.length = j → val t < val L → refB T (upN t) = false) | none => ∀ t, Inc T.length 0 t → t.length = j → refB T (upN t) = false) ∧ c = ⟨[(0, AA T), (7, I j), (8, match o with | some L => A (upN L) | none => .nilsl)], []⟩, ⟨17 ^ j - val (List.range j), _, Wk.freezeKeep 8 528 j ⟨3, 1, .pure, (upN (List.range j)).map enc⟩ [0, 7, 8] [] rfl rfl rfl, some (List.range j), ⟨by simp, by rw [List.range_eq_range']; exact Inc_range _ _ (by omega), rfl, fun t ht hl hv => ?_⟩, ?_⟩, ?_⟩
      · have := val_min (n := T.length) (by omega) ht
        rw [hl, ← List.range_eq_range'] at this
        omega
      · have e : AV.rsl 1 j (((upN (List.range j)).map enc).take j) = A (upN (List.range j)) := by rw [List.take_of_length_le (by simp), A, upN_len, List.length_range]
        show _ = Cfg.mk [(0, AA T), (7, I j), (8, A (upN (List.range j)))] []
        rw [← e]; rfl
      rintro q c ⟨o, hO, rfl⟩
      cases o with
      | none =>
        have hO : ∀ t, Inc T.length 0 t → t.length = j → refB T (upN t) = false := hO
        refine ⟨fun h => (by cases h), fun _ => ?_⟩
        refine ⟨((j + 1 : Nat) : Int), wrapTo (by omega) (by omega) (by omega), _, _, Wk.keep [0, 7] [], by omega, j + 1, by omega, by omega, rfl, fun t ht h1 h2 => ?_, rfl⟩
        by_cases e : t.length = j
        · exact hO t ht e
        · exact hS t ht h1 (by omega)
      | some L =>
        obtain ⟨hl, hi, rfl, hv⟩ : L.length = j ∧ Inc T.length 0 L ∧ q = 17 ^ j - val L ∧ (∀ t, Inc T.length 0 t → t.length = j → val t < val L → refB T (upN t) = false) := hO
        have k23 := c23 T hT hTb (upN L) (by rw [upN_len]; omega)
        have hlt := val_lt (n := T.length) (by omega) hi
        rw [hl] at hlt
        refine ⟨by rw [upN_len]; omega, fun _ => ?_, fun h => (by cases h)⟩
        by_cases hr : refB T (upN L) = true
        · rw [hr] at k23
          rw [H1 L hi (by omega) (by omega) hr (fun t ht h1 h2 => hS t ht h1 (by omega)) (fun t ht h1 h2 => hv t ht (by omega) h2)]
          exact ⟨_, k23, fun _ => ⟨_, _, rfl, ⟨rfl, rfl⟩, rfl, rfl, trivial⟩, fun h => (by cases h)⟩
        · have hr : refB T (upN L) = false := by simpa using hr
          rw [hr] at k23
          refine ⟨_, k23, fun h => (by cases h), fun _ => ?_⟩
          cases hN : nextR L T.length L.length with
          | none =>
            have k40 := c40 L (by omega) T.length (by omega) (fun x => by have := Inc_getD hi x; omega) .nilsl (by rw [hN])
            refine ⟨_, k40, _, _, Wk.keep [0, 7, 8] [], (show 0 < 17 ^ j - val L by omega), none, fun t ht h1 => ?_, rfl⟩
            exact refS (by omega) hl hi hr hv ht h1 (next_none (by omega) hi hN t ht (by omega))
          | some L' =>
            have k40 := c40 L (by omega) T.length (by omega) (fun x => by have := Inc_getD hi x; omega) (fA (upN L')) (by rw [hN])
            obtain ⟨n1, n2, n3, n4⟩ := next_some (by omega) hi L' hN
            have hlt' := val_lt (n := T.length) (by omega) n2
            rw [n1, hl] at hlt'
            refine ⟨_, k40, true, _, _, Wk.keep [0, 7, 8] [], (show 17 ^ j - val L' < 17 ^ j - val L by omega), some L', ⟨by omega, n2, rfl, fun t ht h1 h2 => ?_⟩, rfl⟩
            refine refS (by omega) hl hi hr hv ht h1 ?_
            refine Classical.byContradiction fun hgt => ?_
            have := n4 t ht (by omega) (by omega)
            omega
  · have h := of_decide_eq_false h
    have hk : k = T.length + 1 := by omega
    subst hk
    rw [H2 fun t ht h1 h2 => hS t ht h1 (by omega)]
    exact ⟨_, _, rfl, .inl rfl, rfl, rfl, trivial⟩
theorem c21 (T : List (List Int)) (hT : T.length ≤ 9223372036854775807) (hTb : ∀ b ∈ T, b.length ≤ 9223372036854775807) : Fn Try.prog 21 [AA T] (.tup [A (narE T).1, I (narE T).2]) := by
  by_cases hc : chkE T ≠ 0
  · rw [narE, if_pos hc]
    refine fn_nil_rsl (mk21 rfl ⟨_, c27 T hT hTb, fun h => ⟨_, _, rfl, .inl rfl, rfl, rfl, trivial⟩, fun h => ?_⟩)
    simp at h; exact absurd h hc
  have hc : chkE T = 0 := by simpa using hc
  obtain ⟨t0, R⟩ := chk_ok hc
  have kc := c27 T hT hTb
  rw [hc] at kc
  have tb := tb_of R (F := freeL T) (by simp)
  have k34 := c34 tb
  have hH := headD_of R
  by_cases ho : okP T (freeL T) T.length t0.length = true
  · rw [ho] at k34
    have hp : prvE T = 0 := by rw [prvE, if_neg (by rw [hc]; simp), colsN, hH, if_pos ho]
    rw [nar_none hp]
    exact fn_nil_rsl (mk21 rfl ⟨_, kc, fun h => (by cases h), fun _ => ⟨_, k34, fun _ => ⟨_, _, rfl, .inl rfl, rfl, rfl, trivial⟩, fun h => (by cases h)⟩⟩)
  have ho : okP T (freeL T) T.length t0.length = false := by simpa using ho
  by_cases hno : ∀ t, Inc T.length 0 t → 1 ≤ t.length → t.length ≤ T.length → refB T (upN t) = false
  · rw [nar_no hc hno]
    refine fn_nil_rsl (c21w T hT hTb R hc ho _ (fun L hi h1 h2 h3 _ _ => ?_) fun _ => rfl)
    rw [hno L hi h1 h2] at h3; cases h3
  · refine c21w T hT hTb R hc ho _ (fun L hi h1 h2 h3 h4 h5 => ?_) fun h => absurd h hno
    rw [nar_is hc hi h1 h2 h3 h4 h5]
end Go.Abs.L38
