import Derived.Test.YtnmpnlhlbjemeaaL39k
namespace Go.Abs.L39
open Go Go.Abs Go.Proofs
set_option linter.unusedVariables false
set_option maxRecDepth 20000
/-- what is known ahead of a round -/
structure Cut9 (l : List Int) (cuts : List Int) (T : List (List Int)) (i : Nat) : Prop where
  hi : i ≤ l.length
  len : T.length ≤ i
  inner : ∀ t ∈ T, t.length ≤ i
  nil : T = [] → i = 0
  eq : cutE cuts (l.length - i) i T = cutE cuts l.length 0 []
theorem Cut9.step {l cuts : List Int} {T : List (List Int)} {i : Nat} (h : Cut9 l cuts T i) (hil : i < l.length) :
    ∃ kk t, (if cutB cuts i = true then T ++ [[]] else T).length = kk + 1 ∧ (if cutB cuts i = true then T ++ [[]] else T)[kk]? = some t ∧ t.length ≤ i ∧ (if cutB cuts i = true then T ++ [[]] else T).length ≤ i + 1 ∧
      Cut9 l cuts ((if cutB cuts i = true then T ++ [[]] else T).set kk (t ++ [(i : Int)])) (i + 1) := by
  have hne : (if cutB cuts i = true then T ++ [[]] else T) ≠ [] := by
    split
    · simp
    · rename_i hx
      intro e
      have := h.nil e
      subst this
      simp [cutB] at hx
  have he := h.eq
  rw [show l.length - i = (l.length - (i + 1)) + 1 by omega, cutE] at he
  generalize hT : (if cutB cuts i = true then T ++ [[]] else T) = T' at *
  have hle : T'.length ≤ i + 1 := by
    rw [← hT]; have := h.len
    split
    · simp; omega
    · omega
  have hin : ∀ t ∈ T', t.length ≤ i := by
    intro t ht
    rw [← hT] at ht
    split at ht
    · rcases List.mem_append.1 ht with h' | h'
      · exact h.inner t h'
      · simp at h'; subst h'; simp
    · exact h.inner t ht
  have hpos : 0 < T'.length := List.length_pos_iff.2 hne
  obtain ⟨t, ht⟩ : ∃ t, T'[T'.length - 1]? = some t := ⟨T'[T'.length - 1], by simp⟩
  refine ⟨T'.length - 1, t, by omega, ht, hin t (List.mem_of_getElem? ht), hle, by omega, by simp; omega, fun s hs => ?_, fun e => ?_, ?_⟩
  · rcases List.mem_or_eq_of_mem_set hs with hs | rfl
    · have := hin s hs; omega
    · have := hin t (List.mem_of_getElem? ht); simp; omega
  · have := congrArg List.length e
    rw [List.length_set, List.length_nil] at this
    omega
  · rw [← he]
    simp only [List.getD_eq_getElem?_getD, ht, Option.getD_some]
theorem cutE_len (cuts : List Int) : ∀ (k i : Nat) (T : List (List Int)), T.length ≤ i → (∀ t ∈ T, t.length ≤ i) → (cutE cuts k i T).length ≤ i + k ∧ ∀ t ∈ cutE cuts k i T, t.length ≤ i + k
  | 0, i, T, h1, h2 => ⟨h1, h2⟩
  | k + 1, i, T, h1, h2 => by
    have hT : (if cutB cuts i = true then T ++ [[]] else T).length ≤ i + 1 ∧ ∀ t ∈ (if cutB cuts i = true then T ++ [[]] else T), t.length ≤ i := by
      split
      · refine ⟨by simp; omega, fun t ht => ?_⟩
        rcases List.mem_append.1 ht with h | h
        · exact h2 t h
        · simp at h; subst h; simp
      · exact ⟨by omega, h2⟩
    rw [cutE]
    generalize (if cutB cuts i = true then T ++ [[]] else T) = T' at *
    have := cutE_len cuts k (i + 1) (T'.set (T'.length - 1) (T'.getD (T'.length - 1) [] ++ [(i : Int)])) (by simpa using hT.1) (fun t ht => by
      rcases List.mem_or_eq_of_mem_set ht with h | h
      · exact Nat.le_succ_of_le (hT.2 t h)
      · subst h
        rw [List.length_append, List.getD_eq_getElem?_getD]
        cases hq : T'[T'.length - 1]? with
        | none => simp
        | some x => have := hT.2 x (List.mem_of_getElem? hq); simpa using this)
    exact ⟨by omega, fun t ht => by have := this.2 t ht; omega⟩
theorem flat_at {α : Type} : ∀ {X : List (List α)} {k j : Nat} {t : List α} {a : α}, X[k]? = some t → t[j]? = some a → X.flatten[(X.take k).flatten.length + j]? = some a
  | [], k, j, t, a, h, _ => by simp at h
  | x :: X, 0, j, t, a, h, h' => by
    simp at h; subst h
    rw [List.take_zero, List.flatten_nil, List.length_nil, Nat.zero_add, List.flatten_cons, List.getElem?_append_left (List.getElem?_eq_some_iff.1 h').1]
    exact h'
  | x :: X, k + 1, j, t, a, h, h' => by
    rw [List.take_succ_cons, List.flatten_cons, List.flatten_cons, List.length_append, Nat.add_assoc, List.getElem?_append_right (by omega), Nat.add_sub_cancel_left]
    exact flat_at (X := X) (by simpa using h) h'
theorem flat_len {α : Type} {X : List (List α)} {k : Nat} {t : List α} (h : X[k]? = some t) : (X.take (k + 1)).flatten.length = (X.take k).flatten.length + t.length := by
  have hk := (List.getElem?_eq_some_iff.1 h).1
  rw [List.take_add_one, h, List.flatten_append, List.length_append]; simp
set_option maxHeartbeats 2000000 in
theorem l9 (l : List Int) (hl : l.length ≤ 9223372036854775807) (room : Int) (cuts : List Int) (hcu : cuts.length ≤ 9223372036854775807) : Fn Try.prog 9 [A l, I room, A cuts] (.bool true) := by
  by_cases h60 : l.length ≤ 60
  case neg =>
    exact mk9 rfl ⟨_, c10, fun h => (by cases h), fun _ => ⟨[(3, true)], _, c11 l, by simp; omega, fun _ => ⟨rfl, rfl, rfl⟩, fun h => (by cases h)⟩⟩
  by_cases hc60 : cuts.length ≤ 60
  case neg =>
    refine mk9 rfl ⟨_, c10, fun h => (by cases h), fun _ => ⟨[(3, false)], _, c11 l, by simp; omega, fun _ => ⟨rfl, rfl, rfl⟩, fun h => ?_⟩⟩
    simp at h; omega
  by_cases hch : chkE l room ≠ 0
  · refine mk9 rfl ⟨_, c10, fun h => (by cases h), fun _ => ⟨[(3, false)], _, c11 l, by simp; omega, fun h => ?_, fun _ => ?_⟩⟩
    · simp at h; omega
    refine ⟨_, c13 l (by omega), true, _, c12 l hl room, fun h => ?_, fun h => ?_⟩
    · refine ⟨rfl, rfl, ?_⟩
      rw [ordR, if_pos hch]; rfl
    · rw [ordR, if_pos hch] at h; cases h
  have hch : chkE l room = 0 := by omega
  have hX0 : (ordR l room).2 = 0 := by rw [ordR, if_neg (by omega)]
  obtain ⟨hXv, hXf⟩ := ord_ok hch
  obtain ⟨hXl, hXt⟩ := ordR_len l room
  have k12 : Fn Try.prog 12 [A l, I room] (.tup [AA (ordR l room).1, I 0]) := by have := c12 l hl room; rwa [hX0] at this
  have kX : Fn Try.prog 28 [A l, I room, AA (ordR l room).1] (I 0) := by
    have := c28 l hl room (ordR l room).1 (by omega) (fun b hb => by have := hXt b hb; omega)
    rwa [hXv] at this
  have cX := c29 (ordR l room).1 (by omega) (fun b hb => by have := hXt b hb; omega)
  have hgr := order_least hch cuts
  generalize (ordR l room).1 = X at *
  refine fn_ofW (N := 114) [.tmp 6] tabOK Try.func9 rfl (by kernel_rfl) rfl rfl rfl ?_
  intro E K a w hN hp hs
  change (Code.seq _ _).wp _ _ _ _
  refine wp_seq (W9 (V := []) (Tl := []) hN hs TailOK.nil (Apart.nil _) (Q := fun e c' => e = .normal ∧ c' = _) rfl ⟨rfl, rfl⟩ ?_)
  rintro e c1 K1 a1 w1 ⟨rfl, rfl⟩ hs1 _
  change (Code.seq _ _).wp _ _ _ _
  refine wp_seq (W9 (V := []) (Tl := []) hN hs1 TailOK.nil (Apart.nil _) (Q := fun e c' => e = .normal ∧ c' = _) rfl ⟨_, c10, fun h => (by cases h), fun _ => ⟨rfl, rfl⟩⟩ ?_)
  rintro e c1 K2 a2 w2 ⟨rfl, rfl⟩ hs2 _
  change (Code.seq _ _).wp _ _ _ _
  refine wp_seq (W9 (V := []) (Tl := []) hN hs2 TailOK.nil (Apart.nil _) (Q := fun e c' => e = .normal ∧ c' = _) rfl ⟨[(3, false)], _, c11 l, by simp; omega, fun h => (by simp at h; omega), fun _ => ⟨rfl, rfl⟩⟩ ?_)
  rintro e c1 K3 a3 w3 ⟨rfl, rfl⟩ hs3 _
  change (Code.seq _ _).wp _ _ _ _
  refine wp_seq (W9 (V := []) (Tl := []) hN hs3 TailOK.nil (Apart.nil _) (Q := fun e c' => e = .normal ∧ c' = _) rfl ⟨_, c13 l (by omega), true, _, k12, rfl, rfl⟩ ?_)
  rintro e c1 K4 a4 w4 ⟨rfl, rfl⟩ hs4 _
  change (Code.seq _ _).wp _ _ _ _
  refine wp_seq (W9 (V := []) (Tl := []) hN hs4 TailOK.nil (Apart.nil _) (Q := fun e c' => e = .normal ∧ c' = _) rfl ⟨fun h => (by cases h), fun _ => ⟨rfl, rfl⟩⟩ ?_)
  rintro e c1 K5 a5 w5 ⟨rfl, rfl⟩ hs5 _
  change (Code.seq _ _).wp _ _ _ _
  refine wp_seq (W9 (V := []) (Tl := []) hN hs5 TailOK.nil (Apart.nil _) (Q := fun e c' => e = .normal ∧ c' = _) rfl ⟨rfl, rfl⟩ ?_)
  rintro e c1 K6 a6 w6 ⟨rfl, rfl⟩ hs6 _
  have hs7 := SRK.onlyT hs6 (Apart.nil _) [0, 1, 2, 6, 7, 9] []
  have hs8 : SRK E K6 ⟨[(0, A l), (1, I room), (2, A cuts), (6, .bool false), (7, AA X), (9, I 0)], [] ++ []⟩ a6 w6 := hs7
  clear hs hs1 hs2 hs3 hs4 hs5 hs6 hs7
  change (Code.seq _ _).wp _ _ _ _
  refine wp_seq (W9 (V := []) (Tl := []) hN hs8 TailOK.nil (Apart.nil _) (Q := fun e c' => e = .normal ∧ ∃ fr', c' = ⟨[(0, A l), (1, I room), (2, A cuts), (6, .bool false), (7, AA X), (9, I l.length)] ++ fr', []⟩) rfl ?_ ?_)
  · have hlen : X.flatten.length = l.length := by rw [hXf]; simp [up]
    refine ⟨fun q c => ∃ k : Nat, k ≤ X.length ∧ q = X.length - k ∧ c = ⟨[(0, A l), (1, I room), (2, A cuts), (6, .bool false), (7, AA X), (9, I (X.take k).flatten.length), (38, AA X), (39, I X.length), (40, I k)], []⟩, ⟨_, _, Wk.keep [0, 1, 2, 6, 7, 9, 38, 39, 40] [], 0, by omega, rfl, rfl⟩, ?_⟩
    rintro q c ⟨k, hk, rfl, rfl⟩
    refine ⟨fun h => ?_, fun h => ?_⟩
    · simp at h
      obtain ⟨t, ht, _, _⟩ := drop_cons h
      have hfl := flat_len ht
      have hbd : (X.take (k + 1)).flatten.length ≤ l.length := by
        rw [← hlen]
        conv => rhs; rw [← List.take_append_drop (k + 1) X, List.flatten_append, List.length_append]
        omega
      refine ⟨⟨by omega, by omega⟩, encT t, get_map ht, ?_⟩
      refine ⟨fun q c => ∃ j : Nat, j ≤ t.length ∧ q = t.length - j ∧ c = ⟨[(0, A l), (1, I room), (2, A cuts), (6, .bool false), (7, AA X), (9, I ((X.take k).flatten.length + j : Nat)), (38, AA X), (39, I X.length), (40, I k), (44, A t), (45, I t.length), (46, I j)], []⟩, ⟨_, _, Wk.keep [0, 1, 2, 6, 7, 9, 38, 39, 40, 44, 45, 46] [], 0, by omega, rfl, rfl⟩, ?_⟩
      rintro q c ⟨j, hj, rfl, rfl⟩
      refine ⟨fun h2 => ?_, fun h2 => ?_⟩
      · simp at h2
        obtain ⟨x, hx, _, _⟩ := drop_cons h2
        have hfx := flat_at ht hx
        rw [hXf, List.getElem?_map] at hfx
        have hxe : x = (((X.take k).flatten.length + j : Nat) : Int) := by
          obtain ⟨y, hy, hy2⟩ := Option.map_eq_some_iff.1 hfx
          rw [List.getElem?_range (by omega)] at hy
          injection hy with hy
          rw [← hy2, ← hy]
        subst hxe
        refine ⟨⟨by omega, by omega⟩, _, get_map hx, fun h3 => ?_, fun _ => ?_⟩
        · simp at h3
        · refine ⟨((((X.take k).flatten.length + (j + 1) : Nat)) : Int), wrapTo (by omega) (by omega) (by omega), ((j + 1 : Nat) : Int), wrapTo (by omega) (by omega) (by omega), ?_⟩
          exact ⟨_, _, Wk.keep [0, 1, 2, 6, 7, 9, 38, 39, 40, 44, 45, 46] [], by omega, j + 1, by omega, rfl, rfl⟩
      · simp at h2
        have hjt : j = t.length := by omega
        subst hjt
        rw [← hfl]
        refine ⟨((k + 1 : Nat) : Int), wrapTo (by omega) (by omega) (by omega), ?_⟩
        exact ⟨_, _, Wk.keep [0, 1, 2, 6, 7, 9, 38, 39, 40] [], by omega, k + 1, by omega, rfl, rfl⟩
    · simp at h
      have hkX : k = X.length := by omega
      subst hkX
      rw [List.take_length, hlen]
      exact ⟨rfl, _, rfl⟩
  rintro e c1 K7 a7 w7 ⟨rfl, fr', rfl⟩ hs9 _
  have hs10 := SRK.onlyT hs9 (Apart.nil _) [0, 1, 2, 6, 7, 9] []
  have hs11 : SRK E K7 ⟨[(0, A l), (1, I room), (2, A cuts), (6, .bool false), (7, AA X), (9, I l.length)], [] ++ []⟩ a7 w7 := hs10
  clear hs8 hs9 hs10
  change (Code.seq _ _).wp _ _ _ _
  refine wp_seq (W9 (V := []) (Tl := []) hN hs11 TailOK.nil (Apart.nil _) (Q := fun e c' => e = .normal ∧ c' = _) rfl ⟨[(4, false)], by simp, _, c13 l (by omega), true, _, cX, true, _, kX, fun h => (by cases h), fun _ => ⟨rfl, rfl⟩⟩ ?_)
  rintro e c1 K8 a8 w8 ⟨rfl, rfl⟩ hs12 _
  change (Code.seq _ _).wp _ _ _ _
  refine wp_seq (W9 (V := []) (Tl := []) hN hs12 TailOK.nil (Apart.nil _) (Q := fun e c' => e = .normal ∧ c' = _) rfl ⟨rfl, rfl⟩ ?_)
  rintro e c1 K9 a9 w9 ⟨rfl, rfl⟩ hs13 _
  change (Code.seq _ _).wp _ _ _ _
  refine wp_seq (wp_seq (W9 (V := []) (Tl := []) hN hs13 TailOK.nil (Apart.nil _) (Q := fun e c' => e = .normal ∧ c' = _) rfl ⟨rfl, rfl⟩ ?_))
  rintro e c1 K10 a10 w10 ⟨rfl, rfl⟩ hs14 _
  obtain ⟨K11, hs15⟩ := (Wk.nilKeep 14 1344 ⟨22, 1, .pure, []⟩ [0, 1, 2, 7, 14, 71, 72] [1344] rfl rfl rfl) E a10 w10 ⟨K10, hs14⟩
  have hs16 : SRK E K11 ⟨G9 l room cuts X 0 0, [(1344, (⟨22, 1, .pure, lits []⟩ : OBlk))] ++ fam 3 1 (TT [])⟩ a10 w10 := hs15
  clear hs11 hs12 hs13 hs14 hs15
  change (Code.block _ _).wp _ _ _ _
  refine wp_block (wp_loop_ghost (fun n a w => ∃ K us T i, n = l.length - i ∧ SRK E K ⟨G9 l room cuts X T.length i, [(1344, (⟨22, 1, .pure, lits us⟩ : OBlk))] ++ fam 3 1 (TT T)⟩ a w ∧ LitF w K 1 us (TT T) ∧ us.length = T.length ∧ Cut9 l cuts T i) l.length
    ⟨K11, [], [], 0, by omega, hs16, fun j t h => by simp [TT] at h, rfl, by omega, by simp, by simp, fun _ => rfl, rfl⟩ ?_)
  rintro n a w ⟨K, us, T, i, rfl, hs, hlf, hus, ho⟩
  refine wp_seq (W9 hN hs fam_ok (fam_apart rfl) (Q := fun e c' => e = .normal ∧ c' = _) rfl ⟨rfl, rfl⟩ ?_)
  rintro e c1 K1 a1 w1 ⟨rfl, rfl⟩ hs1 hl1
  replace hlf := hlf.left hl1
  clear hs hl1
  change (Code.seq _ _).wp _ _ _ _
  by_cases hlt : i < l.length
  · have hd : decide ((i : Int) < (l.length : Int)) = true := by simp; omega
    obtain ⟨kk, t, hm, ht, hti, hTi, ho'⟩ := ho.step hlt
    have hTl := ho.len
    refine wp_seq (W9 hN hs1 fam_ok (fam_apart rfl) (Q := fun e c' => e = .normal ∧ c' = _) rfl ⟨fun _ => ⟨rfl, rfl⟩, fun h => (by rw [show _ = true from hd] at h; cases h)⟩ ?_)
    rintro e c1 K2 a2 w2 ⟨rfl, rfl⟩ hs2 hl2
    replace hlf := hlf.left hl2
    clear hs1 hl2
    change (Code.seq _ _).wp _ _ _ _
    refine wp_seq (wp_block ?_)
    refine wp_seq (W9 hN hs2 fam_ok (fam_apart rfl) (Q := fun e c' => e = .normal ∧ c' = _) rfl ⟨rfl, rfl⟩ ?_)
    rintro e c1 K3 a3 w3 ⟨rfl, rfl⟩ hs3 hl3
    replace hlf := hlf.left hl3
    have hs3' := SRK.onlyT hs3 (fam_apart rfl) [0, 1, 2, 7, 14, 15, 71, 72] [1344]
    clear hs2 hl3 hs3
    change (Code.seq _ _).wp _ _ _ _
    refine wp_seq (wpNew9 hN hp hc60 hs3' hlf hus (by omega) ?_)
    intro K4 us4 a4 w4 hs4 hl4 hu4
    generalize (if cutB cuts i = true then T ++ [[]] else T) = T' at *
    refine wpApp9 hN hp hs4 hl4 hm ht (by omega) (by omega) ?_
    intro K6 us6 a6 w6 hs6 hl6 hu6
    change (Code.region _ _ _).wp _ _ _ _
    refine W9 hN hs6 fam_ok (fam_apart rfl) (Q := fun e c' => e = .normal ∧ c' = _) rfl ⟨((i + 1 : Nat) : Int), wrapTo (by omega) (by omega) (by omega), rfl, rfl⟩ ?_
    rintro e c1 K7 a7 w7 ⟨rfl, rfl⟩ hs7 hl7
    have hs7' := SRK.onlyT hs7 (fam_apart rfl) [0, 1, 2, 7, 14, 71, 72] [1344]
    refine ⟨l.length - (i + 1), by omega, K7, us6, T'.set kk (t ++ [(i : Int)]), i + 1, rfl, ?_, hl6.left hl7, by rw [hu6, hu4, List.length_set], ho'⟩
    rw [List.length_set]; exact hs7'
  · have hd : decide ((i : Int) < (l.length : Int)) = false := by simp; omega
    refine wp_seq (W9 hN hs1 fam_ok (fam_apart rfl) (Q := fun e c' => e = .exit 4 ∧ c' = _) rfl ⟨fun h => (by rw [show _ = false from hd] at h; cases h), fun _ => ⟨rfl, rfl⟩⟩ ?_)
    rintro e c1 K2 a2 w2 ⟨rfl, rfl⟩ hs2 hl2
    replace hlf := hlf.left hl2
    have hie : i = l.length := by have := ho.hi; omega
    have heq := ho.eq
    rw [hie, Nat.sub_self, cutE] at heq
    have hinn := ho.inner
    have hTl := ho.len
    rw [← heq] at hgr
    have hlen' : (TT T).length = T.length := by simp [TT]
    have hs3 := nest_freezeS (o := 1344) (s := 14) hs2 hlf rfl rfl (by rw [hlen']; rfl)
    have eT : AV.rsl 1 (TT T).length ((TT T).map fun t => [.rsl 1 t.length t]) = AA T := by
      rw [hlen', AA]
      congr 1
      rw [TT, List.map_map]
      refine List.map_congr_left fun t _ => ?_
      simp [encT]
    have hs4 : SRK E K2 ⟨[(14, AA T), (0, A l), (1, I room), (2, A cuts), (7, AA X)], [] ++ []⟩ a2 w2 := by
      have := SRK.only hs3 [14, 0, 1, 2, 7] []
      rw [← eT]
      exact this
    have cT := c29 T (by omega) (fun b hb => by have := hinn b hb; omega)
    have kT := c28 l hl room T (by omega) (fun b hb => by have := hinn b hb; omega)
    change (Code.seq _ _).wp _ _ _ _
    by_cases hv : validE l room T = 0
    · have := hgr hv
      refine wp_seq (W9 (V := []) (Tl := []) hN hs4 TailOK.nil (Apart.nil _) (Q := fun e c' => e = .normal ∧ lk c'.fr 6 = .bool true) rfl ⟨[(7, false)], _, c13 l (by omega), true, _, cT, true, _, kT, by simpa using hv, rfl, ?_⟩ ?_)
      · show AV.bool _ = AV.bool true
        simp; omega
      rintro e c1 K3 a3 w3 ⟨rfl, h6⟩ hs5 _
      change Code.ret.wp _ _ _ _
      refine wp_ret ⟨.inr rfl, K3, _, hs5, ?_⟩
      show notTup (.bool true) = true ∧ ret1 _ (lk c1.fr 6) (.bool true)
      rw [h6]; exact ⟨rfl, rfl, rfl⟩
    · refine wp_seq (W9 (V := []) (Tl := []) hN hs4 TailOK.nil (Apart.nil _) (Q := fun e c' => e = .normal ∧ lk c'.fr 6 = .bool true) rfl ⟨[(7, true)], _, c13 l (by omega), true, _, cT, true, _, kT, by simpa using hv, rfl, rfl⟩ ?_)
      rintro e c1 K3 a3 w3 ⟨rfl, h6⟩ hs5 _
      change Code.ret.wp _ _ _ _
      refine wp_ret ⟨.inr rfl, K3, _, hs5, ?_⟩
      show notTup (.bool true) = true ∧ ret1 _ (lk c1.fr 6) (.bool true)
      rw [h6]; exact ⟨rfl, rfl, rfl⟩
end Go.Abs.L39
