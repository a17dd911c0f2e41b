import Derived.Test.YtnmpnlhlbjemeaaC39c
namespace Go.Abs.L39
open Go Go.Abs Go.Proofs
set_option linter.unusedVariables false
set_option maxRecDepth 20000
def ordR (l : List Int) (room : Int) : List (List Int) × Int := if chkE l room ≠ 0 then ([], 1) else (ordE room l 0 [] 0, 0)
/-- what is known ahead of a round -/
structure Ord12 (l : List Int) (room : Int) (T : List (List Int)) (left : Int) (i : Nat) : Prop where
  hi : i ≤ l.length
  len : T.length ≤ i
  inner : ∀ t ∈ T, t.length ≤ i
  lo : 0 ≤ left
  hi' : left ≤ room
  nil : T = [] → left = 0
  eq : ordE room (l.drop i) i T left = ordE room l 0 [] 0
theorem Ord12.step {l : List Int} {room left n : Int} {T : List (List Int)} {i : Nat} (h : Ord12 l room T left i) (hc : chkE l room = 0) (hn : l[i]? = some n) :
    ∃ kk t, (if n > left then T ++ [[]] else T).length = kk + 1 ∧ (if n > left then T ++ [[]] else T)[kk]? = some t ∧ t.length ≤ i ∧ (if n > left then T ++ [[]] else T).length ≤ i + 1 ∧
      0 ≤ (if n > left then room else left) - n ∧ (if n > left then room else left) - n ≤ room ∧ Ord12 l room ((if n > left then T ++ [[]] else T).set kk (t ++ [(i : Int)])) ((if n > left then room else left) - n) (i + 1) := by
  obtain ⟨h1, h2, h3, h4⟩ := chk_ok hc
  obtain ⟨hn1, hn2⟩ := h4 n (List.mem_of_getElem? hn)
  have hil := (List.getElem?_eq_some_iff.1 hn).1
  have hne : (if n > left then T ++ [[]] else T) ≠ [] := by
    split
    · simp
    · rename_i hx
      intro e
      have := h.nil e
      omega
  generalize hT : (if n > left then T ++ [[]] else T) = T' at *
  have hle : T'.length ≤ i + 1 := by
    rw [← hT]; have := h.len
    split
    · simp; omega
    · omega
  have hin : ∀ t ∈ T', t.length ≤ i := by
    intro t ht
    rw [← hT] at ht
    split at ht
    · rcases List.mem_append.1 ht with h' | h'
      · exact h.inner t h'
      · simp at h'; subst h'; simp
    · exact h.inner t ht
  have hpos : 0 < T'.length := List.length_pos_iff.2 hne
  obtain ⟨t, ht⟩ : ∃ t, T'[T'.length - 1]? = some t := ⟨T'[T'.length - 1], by simp⟩
  have hlft : 0 ≤ (if n > left then room else left) - n ∧ (if n > left then room else left) - n ≤ room := by
    have := h.lo; have := h.hi'
    split <;> omega
  refine ⟨T'.length - 1, t, by omega, ht, hin t (List.mem_of_getElem? ht), hle, hlft.1, hlft.2, by omega, by simp; omega, fun s hs => ?_, hlft.1, hlft.2, fun e => ?_, ?_⟩
  · rcases List.mem_or_eq_of_mem_set hs with hs | rfl
    · have := hin s hs; omega
    · have := hin t (List.mem_of_getElem? ht); simp; omega
  · have := congrArg List.length e
    rw [List.length_set, List.length_nil] at this
    omega
  · rw [← h.eq]
    obtain ⟨n', hn', hd, _⟩ := drop_cons hil
    rw [hn] at hn'; injection hn' with hn'; subst hn'
    rw [hd, ordE, hT]
    simp only [List.getD_eq_getElem?_getD, ht, Option.getD_some]
theorem c12 (l : List Int) (hl : l.length ≤ 9223372036854775807) (room : Int) : Fn Try.prog 12 [A l, I room] (.tup [AA (ordR l room).1, I (ordR l room).2]) := by
  by_cases hc : chkE l room ≠ 0
  · rw [ordR, if_pos hc]
    refine fn_nil_rsl (mk12 rfl ⟨_, c31 l hl room, fun h => ⟨_, _, rfl, .inl rfl, rfl, rfl, trivial⟩, fun h => ?_⟩)
    simp at h; exact absurd h hc
  have hc : chkE l room = 0 := by simpa using hc
  obtain ⟨hr1, hr2, hlen, hsz⟩ := chk_ok hc
  rw [ordR, if_neg (by simp [hc])]
  refine fn_ofW (N := 47) [.tmp 4, .tmp 5] tabOK Try.func12 rfl (by kernel_rfl) rfl rfl rfl ?_
  intro E K a w hN hp hs
  change (Code.seq _ _).wp _ _ _ _
  refine wp_seq (W12 (V := []) (Tl := []) hN hs TailOK.nil (Apart.nil _) (Q := fun e c' => e = .normal ∧ c' = _) rfl ⟨rfl, rfl⟩ ?_)
  rintro e c1 K1 a1 w1 ⟨rfl, rfl⟩ hs1 _
  change (Code.seq _ _).wp _ _ _ _
  refine wp_seq (W12 (V := []) (Tl := []) hN hs1 TailOK.nil (Apart.nil _) (Q := fun e c' => e = .normal ∧ c' = _) rfl ⟨_, c31 l hl room, fun h => (by simp [hc] at h), fun _ => ⟨rfl, rfl⟩⟩ ?_)
  rintro e c1 K2 a2 w2 ⟨rfl, rfl⟩ hs2 _
  change (Code.seq _ _).wp _ _ _ _
  refine wp_seq (W12 (V := []) (Tl := []) hN hs2 TailOK.nil (Apart.nil _) (Q := fun e c' => e = .normal ∧ c' = _) rfl ⟨rfl, rfl⟩ ?_)
  rintro e c1 K3 a3 w3 ⟨rfl, rfl⟩ hs3 _
  change (Code.seq _ _).wp _ _ _ _
  refine wp_seq (W12 (V := []) (Tl := []) hN hs3 TailOK.nil (Apart.nil _) (Q := fun e c' => e = .normal ∧ c' = _) rfl ⟨rfl, rfl⟩ ?_)
  rintro e c1 K4 a4 w4 ⟨rfl, rfl⟩ hs4 _
  change (Code.seq _ _).wp _ _ _ _
  refine wp_seq (wp_seq (W12 (V := []) (Tl := []) hN hs4 TailOK.nil (Apart.nil _) (Q := fun e c' => e = .normal ∧ c' = _) rfl ⟨rfl, rfl⟩ ?_))
  rintro e c1 K5 a5 w5 ⟨rfl, rfl⟩ hs5 _
  obtain ⟨K6, hs6⟩ := (Wk.nilKeep 6 752 ⟨22, 1, .pure, []⟩ [0, 1, 4, 5, 6, 7, 14, 15, 16] [752] rfl rfl rfl) E a5 w5 ⟨K5, hs5⟩
  have hs7 : SRK E K6 ⟨[(0, A l), (1, I room), (4, .nilsl), (5, I 0), (6, .osl 752 1 0), (7, I 0), (14, A l), (15, I l.length), (16, I 0)], [(752, (⟨22, 1, .pure, []⟩ : OBlk))]⟩ a5 w5 := hs6
  have hs8 : SRK E K6 ⟨G12 l room 0 0 0, [(752, (⟨22, 1, .pure, []⟩ : OBlk))]⟩ a5 w5 := hs7
  have hs9 : SRK E K6 ⟨G12 l room 0 0 0, [(752, (⟨22, 1, .pure, lits []⟩ : OBlk))] ++ fam 3 1 (TT [])⟩ a5 w5 := hs8
  clear hs hs1 hs2 hs3 hs4 hs5
  change (Code.block _ _).wp _ _ _ _
  refine wp_block (wp_loop_ghost (fun n a w => ∃ K us T left i, n = l.length - i ∧ SRK E K ⟨G12 l room T.length left i, [(752, (⟨22, 1, .pure, lits us⟩ : OBlk))] ++ fam 3 1 (TT T)⟩ a w ∧ LitF w K 1 us (TT T) ∧ us.length = T.length ∧ Ord12 l room T left i) l.length
    ⟨K6, [], [], 0, 0, by omega, hs9, fun j t h => by simp [TT] at h, rfl, by omega, by simp, by simp, by omega, by omega, fun _ => rfl, rfl⟩ ?_)
  rintro n a w ⟨K, us, T, left, i, rfl, hs, hlf, hus, ho⟩
  refine wp_seq (W12 hN hs fam_ok (fam_apart rfl) (Q := fun e c' => e = .normal ∧ c' = _) rfl ⟨rfl, rfl⟩ ?_)
  rintro e c1 K1 a1 w1 ⟨rfl, rfl⟩ hs1 hl1
  replace hlf := hlf.left hl1
  clear hs hl1
  change (Code.seq _ _).wp _ _ _ _
  by_cases hlt : i < l.length
  · obtain ⟨n, hn, _, _⟩ := drop_cons hlt
    have hd : decide ((i : Int) < (l.length : Int)) = true := by simp; omega
    obtain ⟨kk, t, hm, ht, hti, hTi, hb1, hb2, ho'⟩ := ho.step hc hn
    have hil := ho.hi
    have hTl := ho.len
    refine wp_seq (W12 hN hs1 fam_ok (fam_apart rfl) (Q := fun e c' => e = .normal ∧ c' = _) rfl ⟨fun _ => ⟨rfl, rfl⟩, fun h => (by rw [show _ = true from hd] at h; cases h)⟩ ?_)
    rintro e c1 K2 a2 w2 ⟨rfl, rfl⟩ hs2 hl2
    replace hlf := hlf.left hl2
    clear hs1 hl2
    change (Code.seq _ _).wp _ _ _ _
    refine wp_seq (wp_block ?_)
    refine wp_seq (W12 hN hs2 fam_ok (fam_apart rfl) (Q := fun e c' => e = .normal ∧ c' = _) rfl ⟨⟨by omega, by omega⟩, enc n, get_map hn, rfl, rfl⟩ ?_)
    rintro e c1 K3 a3 w3 ⟨rfl, rfl⟩ hs3 hl3
    replace hlf := hlf.left hl3
    have hs3' := SRK.onlyT hs3 (fam_apart rfl) [0, 1, 4, 5, 6, 7, 8, 9, 14, 15, 16] [752]
    clear hs2 hl3 hs3
    change (Code.seq _ _).wp _ _ _ _
    refine wp_seq (wpNew12 hN hp hs3' hlf hus (by omega) ?_ _ rfl)
    intro K4 us4 a4 w4 hs4 hl4 hu4
    change (Code.seq _ _).wp _ _ _ _
    generalize (if n > left then T ++ [[]] else T) = T' at *
    generalize (if n > left then room else left) = left' at *
    refine wp_seq (W12 hN hs4 fam_ok (fam_apart rfl) (Q := fun e c' => e = .normal ∧ c' = _) rfl ⟨_, wrap64 (by omega) (by omega), rfl, rfl⟩ ?_)
    rintro e c1 K5 a5 w5 ⟨rfl, rfl⟩ hs5 hl5
    have hs5' := SRK.onlyT hs5 (fam_apart rfl) [0, 1, 4, 5, 6, 7, 8, 9, 14, 15, 16] [752]
    refine wpApp12 hN hp hs5' (hl4.left hl5) hm ht (by omega) (by omega) ?_
    intro K6 us6 a6 w6 hs6 hl6 hu6
    change (Code.region _ _ _).wp _ _ _ _
    refine W12 hN hs6 fam_ok (fam_apart rfl) (Q := fun e c' => e = .normal ∧ c' = _) rfl ⟨_, wrap64 (by omega) (by omega), rfl, rfl⟩ ?_
    rintro e c1 K7 a7 w7 ⟨rfl, rfl⟩ hs7 hl7
    have hs7' := SRK.onlyT hs7 (fam_apart rfl) [0, 1, 4, 5, 6, 7, 14, 15, 16] [752]
    refine ⟨l.length - (i + 1), by omega, K7, us6, T'.set kk (t ++ [(i : Int)]), left' - n, i + 1, rfl, ?_, hl6.left hl7, by rw [hu6, hu4, List.length_set], ho'⟩
    rw [List.length_set]; exact hs7'
  · have hd : decide ((i : Int) < (l.length : Int)) = false := by simp; omega
    refine wp_seq (W12 hN hs1 fam_ok (fam_apart rfl) (Q := fun e c' => e = .exit 0 ∧ c' = _) rfl ⟨fun h => (by rw [show _ = false from hd] at h; cases h), fun _ => ⟨rfl, rfl⟩⟩ ?_)
    rintro e c1 K2 a2 w2 ⟨rfl, rfl⟩ hs2 hl2
    replace hlf := hlf.left hl2
    have hie : i = l.length := by have := ho.hi; omega
    have heq := ho.eq
    rw [hie, List.drop_length, ordE] at heq
    rw [← heq]
    have hlen' : (TT T).length = T.length := by simp [TT]
    have hs3 := nest_freezeS (o := 752) (s := 6) hs2 hlf rfl rfl (by rw [hlen']; rfl)
    change (Code.seq _ _).wp _ _ _ _
    refine wp_seq (W12 (V := []) (Tl := []) hN hs3 TailOK.nil (Apart.nil _) (Q := fun e c' => e = .normal ∧ c' = _) rfl ⟨rfl, rfl⟩ ?_)
    rintro e c1 K3 a3 w3 ⟨rfl, rfl⟩ hs4 _
    change Code.ret.wp _ _ _ _
    refine wp_ret ⟨.inr rfl, K3, _, hs4, _, _, rfl, ⟨rfl, ?_⟩, rfl, rfl, trivial⟩
    show AA T = .rsl 1 (TT T).length ((TT T).map fun t => [.rsl 1 t.length t])
    rw [hlen', AA]
    congr 1
    rw [TT, List.map_map]
    refine List.map_congr_left fun t _ => ?_
    simp [encT]
end Go.Abs.L39
