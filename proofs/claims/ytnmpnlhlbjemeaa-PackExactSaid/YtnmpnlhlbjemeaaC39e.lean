import Derived.Test.YtnmpnlhlbjemeaaC1
namespace Go.Abs.L39
open Go Go.Abs Go.Proofs
set_option linter.unusedVariables false
set_option maxRecDepth 20000
def app14 (c : Code) : Code := match loopCode12 c with | .seq _ (.seq _ (.seq c _)) => c | c => c
abbrev ks14 : List Nat := [0, 1, 4, 5, 6, 7, 8, 9, 13, 14, 15, 16, 17, 23]
theorem ev14 (l : List Int) (room left i n k : Int) (kk m : Nat) (inner : List (List AV)) (R : List (List AV)) (hm : m = kk + 1) (hRk : R[kk]? = some [.osl 768 1 inner.length]) (hRh : ∀ b, hasRow b R = (768 == b)) (hi : inner.length ≤ 100000) (hRp : (purgeR 768 R)[kk]? = some [.top]) (hmm : m ≤ 10000) :
    ev Try.prog tt 47 ks14 (app14 (body Try.f14)) ⟨[(0, A l), (1, I room), (4, .nilsl), (5, I 0), (6, .osl 752 1 m), (7, I left), (8, I i), (9, I n), (14, A l), (15, I l.length), (16, I k)], [(768, ⟨3, 1, .pure, inner⟩), (752, ⟨22, 1, .any, R⟩)]⟩
      fun e c => e = .normal ∧ c = ⟨[(0, A l), (1, I room), (4, .nilsl), (5, I 0), (6, .osl 752 1 m), (7, I left), (8, I i), (9, I n), (14, A l), (15, I l.length), (16, I k)], [(768, ⟨3, 1, .pure, inner.take inner.length ++ [enc i]⟩), (752, ⟨22, 1, .any, (purgeR 768 R).set (((m : Nat) : Int) - 1).toNat [.osl 768 1 (inner.length + 1)]⟩), (624, ⟨3, 1, .pure, [enc i]⟩)]⟩ := by
  subst hm
  have hj : ((((kk + 1 : Nat) : Int) - 1)).toNat = kk := by omega
  refine ⟨_, wrap64 (by omega) (by omega), _, wrap64 (by omega) (by omega), ⟨by omega, by omega⟩, [.osl 768 1 inner.length], by rw [hj]; exact hRk, ?_⟩
  conv => whnf
  refine mtrue ?_ ?_
  · refine chk3 ?_ rfl rfl
    exact freshD_new rfl (freshO_pure rfl (freshO_any rfl (hRh _) rfl)) rfl
  refine ⟨⟨by show (inner.length + 1) * 8 ≤ 140737488355328; omega, by omega⟩, ⟨by omega, by omega⟩, [.top], ?_, ?_⟩
  · show (purgeR 768 R)[(((kk + 1 : Nat) : Int) - 1).toNat]? = some [.top]
    rw [hj]
    exact hRp
  · exact ⟨rfl, rfl⟩
theorem wpApp14 {E : Env} (hN : E.N = 47) (hp : ∀ b, E.pin b = none) {l : List Int} {room left i n k : Int} {T : List (List Int)} {t : List Int} {us : List Value} {kk : Nat} {K : KM} {a : Act} {w : World} {Q : Exit → Act → World → Prop}
    (hs : SRK E K ⟨F12 l room T.length left i n k, [(752, ⟨22, 1, .pure, lits us⟩)] ++ fam 3 1 (TT T)⟩ a w) (hl : LitF w K 1 us (TT T)) (hm : T.length = kk + 1) (ht : T[kk]? = some t) (hti : t.length ≤ 2000) (hmm : T.length ≤ 10000)
    (hQ : ∀ K' us' a' w', SRK E K' ⟨F12 l room T.length left i n k, [(752, ⟨22, 1, .pure, lits us'⟩)] ++ fam 3 1 (TT (T.set kk (t ++ [i])))⟩ a' w' → LitF w' K' 1 us' (TT (T.set kk (t ++ [i]))) → us'.length = us.length → Q .normal a' w') : (app14 (body Try.f14)).wp Try.prog Q a w := by
  have ht' : (TT T)[kk]? = some (t.map enc) := by simp [TT, ht]
  have hkl : kk < us.length := by
    have := hl.len
    simp [TT] at this; omega
  obtain ⟨K1, hs1, hl1, _⟩ := nest_open (x := 768) (k := kk) (o := 752) hs hl rfl rfl rfl (hp _) (by decide) (fun s => freshF_lk s rfl) (fun i y h hk => (freshO_olk (b := 768) (O := [(752, ⟨22, 1, .pure, lits us⟩)]) rfl h).2 hk) ht'
  refine wp_ev (fr := F12 l room T.length left i n k) (V := [(768, ⟨3, 1, .pure, t.map enc⟩), (752, ⟨22, 1, .any, (lits us).set kk [.osl 768 1 (t.map enc).length]⟩)]) (Tl := delO (fid kk) (fam 3 1 (TT T))) tabOK tabOne mixed hN (del_ok fam_ok) (del_apart (fam_apart rfl)) (by rfl)
    (ev14 l room left i n k kk T.length (t.map enc) _ hm (by rw [List.getElem?_set_self (by rw [lits_len]; exact hkl)]) (fun b => hasRow_open b us kk hkl) (by simp; omega) (by rw [purge_open us kk hkl, List.getElem?_set_self (by rw [lits_len]; exact hkl)]) hmm) hs1 ?_
  rintro e c' K2 a2 w2 ⟨rfl, rfl⟩ hs2 hl2
  have hj : (((T.length : Nat) : Int) - 1).toNat = kk := by omega
  rw [List.take_length, hj, purge_open us kk hkl, List.set_set] at hs2
  have hs3 := SRK.onlyT hs2 (del_apart (fam_apart rfl)) [0, 1, 4, 5, 6, 7, 8, 9, 14, 15, 16] [768, 752]
  obtain ⟨K4, v', hs4, hl4, _⟩ := nest_back (o := 752) (y := 768) (k := kk) (t' := t.map enc ++ [enc i]) (us := us) (T := TT T) (V := [(768, ⟨3, 1, .pure, t.map enc ++ [enc i]⟩), (752, ⟨22, 1, .any, (lits us).set kk [.osl 768 1 ((t.map enc).length + 1)]⟩)]) hs3 (hl1.left hl2) rfl (by simp [TT]; omega) rfl (by simp) rfl (by decide) (fun j => hp _) rfl rfl (by decide)
  rw [← TT_app] at hs4 hl4
  exact hQ K4 _ a2 w2 hs4 hl4 (by simp)
theorem W14 {E : Env} (hN : E.N = 47) {K : KM} {fr : List (Nat × AV)} {V Tl : List (Nat × OBlk)} {a : Act} {w : World} {code : Code} {Q : Ex → Cfg → Prop} {Q' : Exit → Act → World → Prop} (hs : SRK E K ⟨fr, V ++ Tl⟩ a w) (htl : TailOK Tl) (hap : Apart V Tl) (hd : drawsOK code = true)
    (h : ev Try.prog tt 47 ks14 code ⟨fr, V⟩ Q) (hQ : ∀ e c' K' a' w', Q e c' → SRK E K' ⟨c'.fr, c'.O ++ Tl⟩ a' w' → Left K V w K' w' → Q' e.toExit a' w') : code.wp Try.prog Q' a w :=
  wp_ev tabOK tabOne mixed hN htl hap hd h hs hQ
theorem wpNew14 {E : Env} (hN : E.N = 47) (hp : ∀ b, E.pin b = none) {l : List Int} {room left n : Int} {i : Nat} {T : List (List Int)} {us : List Value} {K : KM} {a : Act} {w : World} {Q : Exit → Act → World → Prop}
    (hs : SRK E K ⟨F12 l room T.length left i n i, [(752, ⟨22, 1, .pure, lits us⟩)] ++ fam 3 1 (TT T)⟩ a w) (hl : LitF w K 1 us (TT T)) (hus : us.length = T.length) (hmm : T.length ≤ 10000)
    (hQ : ∀ K' us' a' w', SRK E K' ⟨F12 l room (if n > left then T ++ [[]] else T).length (if n > left then room else left) i n i, [(752, ⟨22, 1, .pure, lits us'⟩)] ++ fam 3 1 (TT (if n > left then T ++ [[]] else T))⟩ a' w' → LitF w' K' 1 us' (TT (if n > left then T ++ [[]] else T)) → us'.length = (if n > left then T ++ [[]] else T).length → Q .normal a' w') :
    ∀ c, (match round12 (body Try.f14) with | .seq _ (.seq c _) => c | c => c) = c → c.wp Try.prog Q a w := by
  rintro _ rfl
  change (Code.seq _ _).wp _ _ _ _
  refine wp_seq (W14 hN hs fam_ok (fam_apart rfl) (Q := fun e c' => e = .normal ∧ c' = _) rfl ⟨rfl, rfl⟩ ?_)
  rintro e c1 K1 a1 w1 ⟨rfl, rfl⟩ hs1 hl1
  have hlf := hl.left hl1
  change (Code.cond _ _ _).wp _ _ _ _
  by_cases hnl : n > left
  · rw [if_pos hnl, if_pos hnl] at hQ
    refine W14 hN hs1 fam_ok (fam_apart rfl) (Q := fun e c' => e = .normal ∧ c' = _) rfl ⟨fun _ => ⟨⟨by show (T.length + 1) * 24 ≤ _; omega, by omega⟩, ⟨rfl, rfl⟩⟩, fun h => ?_⟩ ?_
    · simp at h; omega
    · rintro e c2 K2 a2 w2 ⟨rfl, rfl⟩ hs2 hl2
      have hlf2 := hlf.left hl2
      have hs3 := SRK.onlyT hs2 (fam_apart rfl) [0, 1, 4, 5, 6, 7, 8, 9, 14, 15, 16] [752]
      have htk : (lits us).take T.length = lits us := List.take_of_length_le (by rw [lits_len]; omega)
      have hs4 := SRK.lits (o := 752) (eo := 22) (rows := (lits us).take T.length ++ [[.nilsl]]) hs3 rfl (fun row hr => by
        rw [htk] at hr
        rcases List.mem_append.1 hr with h | h
        · exact lits_ok us row h
        · simp at h; subst h; rfl)
      rw [htk, List.map_append, lits_toLit] at hs4
      obtain ⟨K5, hs5, hl5, _⟩ := nest_nil (V := [(752, ⟨22, 1, .pure, lits (us ++ [nilS])⟩)]) hs4 (hlf2.app [nilS]) rfl (hp _) (noFF_lk _ rfl) (noFO_all rfl rfl _) (by simp [TT, hus])
      rw [show TT T ++ [[]] = TT (T ++ [[]]) by simp [TT]] at hs5 hl5
      exact hQ K5 _ a2 w2 (by rw [List.length_append]; exact hs5) hl5 (by simp [hus])
  · rw [if_neg hnl, if_neg hnl] at hQ
    refine W14 hN hs1 fam_ok (fam_apart rfl) (Q := fun e c' => e = .normal ∧ c' = _) rfl ⟨fun h => ?_, fun _ => ⟨rfl, rfl⟩⟩ ?_
    · simp at h; omega
    · rintro e c2 K2 a2 w2 ⟨rfl, rfl⟩ hs2 hl2
      exact hQ K2 us a2 w2 (SRK.onlyT hs2 (fam_apart rfl) [0, 1, 4, 5, 6, 7, 8, 9, 14, 15, 16] [752]) (hlf.left hl2) hus
theorem c14 (l : List Int) (hl : l.length ≤ 9223372036854775807) (room : Int) : Fn Try.prog 14 [A l, I room] (.tup [AA (ordR l room).1, I (ordR l room).2]) := by
  by_cases hc : chkE l room ≠ 0
  · rw [ordR, if_pos hc]
    refine fn_nil_rsl (mk14 rfl ⟨_, c32 l hl room, fun h => ⟨_, _, rfl, .inl rfl, rfl, rfl, trivial⟩, fun h => ?_⟩)
    simp at h; exact absurd h hc
  have hc : chkE l room = 0 := by simpa using hc
  obtain ⟨hr1, hr2, hlen, hsz⟩ := chk_ok hc
  rw [ordR, if_neg (by simp [hc])]
  refine fn_ofW (N := 47) [.tmp 4, .tmp 5] tabOK Try.func14 rfl (by kernel_rfl) rfl rfl rfl ?_
  intro E K a w hN hp hs
  change (Code.seq _ _).wp _ _ _ _
  refine wp_seq (W14 (V := []) (Tl := []) hN hs TailOK.nil (Apart.nil _) (Q := fun e c' => e = .normal ∧ c' = _) rfl ⟨rfl, rfl⟩ ?_)
  rintro e c1 K1 a1 w1 ⟨rfl, rfl⟩ hs1 _
  change (Code.seq _ _).wp _ _ _ _
  refine wp_seq (W14 (V := []) (Tl := []) hN hs1 TailOK.nil (Apart.nil _) (Q := fun e c' => e = .normal ∧ c' = _) rfl ⟨_, c32 l hl room, fun h => (by simp [hc] at h), fun _ => ⟨rfl, rfl⟩⟩ ?_)
  rintro e c1 K2 a2 w2 ⟨rfl, rfl⟩ hs2 _
  change (Code.seq _ _).wp _ _ _ _
  refine wp_seq (W14 (V := []) (Tl := []) hN hs2 TailOK.nil (Apart.nil _) (Q := fun e c' => e = .normal ∧ c' = _) rfl ⟨rfl, rfl⟩ ?_)
  rintro e c1 K3 a3 w3 ⟨rfl, rfl⟩ hs3 _
  change (Code.seq _ _).wp _ _ _ _
  refine wp_seq (W14 (V := []) (Tl := []) hN hs3 TailOK.nil (Apart.nil _) (Q := fun e c' => e = .normal ∧ c' = _) rfl ⟨rfl, rfl⟩ ?_)
  rintro e c1 K4 a4 w4 ⟨rfl, rfl⟩ hs4 _
  change (Code.seq _ _).wp _ _ _ _
  refine wp_seq (wp_seq (W14 (V := []) (Tl := []) hN hs4 TailOK.nil (Apart.nil _) (Q := fun e c' => e = .normal ∧ c' = _) rfl ⟨rfl, rfl⟩ ?_))
  rintro e c1 K5 a5 w5 ⟨rfl, rfl⟩ hs5 _
  obtain ⟨K6, hs6⟩ := (Wk.nilKeep 6 752 ⟨22, 1, .pure, []⟩ [0, 1, 4, 5, 6, 7, 14, 15, 16] [752] rfl rfl rfl) E a5 w5 ⟨K5, hs5⟩
  have hs7 : SRK E K6 ⟨[(0, A l), (1, I room), (4, .nilsl), (5, I 0), (6, .osl 752 1 0), (7, I 0), (14, A l), (15, I l.length), (16, I 0)], [(752, (⟨22, 1, .pure, []⟩ : OBlk))]⟩ a5 w5 := hs6
  have hs8 : SRK E K6 ⟨G12 l room 0 0 0, [(752, (⟨22, 1, .pure, []⟩ : OBlk))]⟩ a5 w5 := hs7
  have hs9 : SRK E K6 ⟨G12 l room 0 0 0, [(752, (⟨22, 1, .pure, lits []⟩ : OBlk))] ++ fam 3 1 (TT [])⟩ a5 w5 := hs8
  clear hs hs1 hs2 hs3 hs4 hs5
  change (Code.block _ _).wp _ _ _ _
  refine wp_block (wp_loop_ghost (fun n a w => ∃ K us T left i, n = l.length - i ∧ SRK E K ⟨G12 l room T.length left i, [(752, (⟨22, 1, .pure, lits us⟩ : OBlk))] ++ fam 3 1 (TT T)⟩ a w ∧ LitF w K 1 us (TT T) ∧ us.length = T.length ∧ Ord12 l room T left i) l.length
    ⟨K6, [], [], 0, 0, by omega, hs9, fun j t h => by simp [TT] at h, rfl, by omega, by simp, by simp, by omega, by omega, fun _ => rfl, rfl⟩ ?_)
  rintro n a w ⟨K, us, T, left, i, rfl, hs, hlf, hus, ho⟩
  refine wp_seq (W14 hN hs fam_ok (fam_apart rfl) (Q := fun e c' => e = .normal ∧ c' = _) rfl ⟨rfl, rfl⟩ ?_)
  rintro e c1 K1 a1 w1 ⟨rfl, rfl⟩ hs1 hl1
  replace hlf := hlf.left hl1
  clear hs hl1
  change (Code.seq _ _).wp _ _ _ _
  by_cases hlt : i < l.length
  · obtain ⟨n, hn, _, _⟩ := drop_cons hlt
    have hd : decide ((i : Int) < (l.length : Int)) = true := by simp; omega
    obtain ⟨kk, t, hm, ht, hti, hTi, hb1, hb2, ho'⟩ := ho.step hc hn
    have hil := ho.hi
    have hTl := ho.len
    refine wp_seq (W14 hN hs1 fam_ok (fam_apart rfl) (Q := fun e c' => e = .normal ∧ c' = _) rfl ⟨fun _ => ⟨rfl, rfl⟩, fun h => (by rw [show _ = true from hd] at h; cases h)⟩ ?_)
    rintro e c1 K2 a2 w2 ⟨rfl, rfl⟩ hs2 hl2
    replace hlf := hlf.left hl2
    clear hs1 hl2
    change (Code.seq _ _).wp _ _ _ _
    refine wp_seq (wp_block ?_)
    refine wp_seq (W14 hN hs2 fam_ok (fam_apart rfl) (Q := fun e c' => e = .normal ∧ c' = _) rfl ⟨⟨by omega, by omega⟩, enc n, get_map hn, rfl, rfl⟩ ?_)
    rintro e c1 K3 a3 w3 ⟨rfl, rfl⟩ hs3 hl3
    replace hlf := hlf.left hl3
    have hs3' := SRK.onlyT hs3 (fam_apart rfl) [0, 1, 4, 5, 6, 7, 8, 9, 14, 15, 16] [752]
    clear hs2 hl3 hs3
    change (Code.seq _ _).wp _ _ _ _
    refine wp_seq (wpNew14 hN hp hs3' hlf hus (by omega) ?_ _ rfl)
    intro K4 us4 a4 w4 hs4 hl4 hu4
    change (Code.seq _ _).wp _ _ _ _
    generalize (if n > left then T ++ [[]] else T) = T' at *
    generalize (if n > left then room else left) = left' at *
    refine wp_seq (wpApp14 hN hp hs4 hl4 hm ht (by omega) (by omega) ?_)
    intro K6 us6 a6 w6 hs6 hl6 hu6
    change (Code.region _ _ _).wp _ _ _ _
    refine W14 hN hs6 fam_ok (fam_apart rfl) (Q := fun e c' => e = .normal ∧ c' = _) rfl ⟨_, wrap64 (by omega) (by omega), rfl, rfl⟩ ?_
    rintro e c1 K5 a5 w5 ⟨rfl, rfl⟩ hs5 hl5
    have hs5' := SRK.onlyT hs5 (fam_apart rfl) [0, 1, 4, 5, 6, 7, 8, 9, 14, 15, 16] [752]
    change (Code.region _ _ _).wp _ _ _ _
    refine W14 hN hs5' fam_ok (fam_apart rfl) (Q := fun e c' => e = .normal ∧ c' = _) rfl ⟨_, wrap64 (by omega) (by omega), rfl, rfl⟩ ?_
    rintro e c1 K7 a7 w7 ⟨rfl, rfl⟩ hs7 hl7
    have hs7' := SRK.onlyT hs7 (fam_apart rfl) [0, 1, 4, 5, 6, 7, 14, 15, 16] [752]
    refine ⟨l.length - (i + 1), by omega, K7, us6, T'.set kk (t ++ [(i : Int)]), left' - n, i + 1, rfl, ?_, (hl6.left hl5).left hl7, by rw [hu6, hu4, List.length_set], ho'⟩
    rw [List.length_set]; exact hs7'
  · have hd : decide ((i : Int) < (l.length : Int)) = false := by simp; omega
    refine wp_seq (W14 hN hs1 fam_ok (fam_apart rfl) (Q := fun e c' => e = .exit 0 ∧ c' = _) rfl ⟨fun h => (by rw [show _ = false from hd] at h; cases h), fun _ => ⟨rfl, rfl⟩⟩ ?_)
    rintro e c1 K2 a2 w2 ⟨rfl, rfl⟩ hs2 hl2
    replace hlf := hlf.left hl2
    have hie : i = l.length := by have := ho.hi; omega
    have heq := ho.eq
    rw [hie, List.drop_length, ordE] at heq
    rw [← heq]
    have hlen' : (TT T).length = T.length := by simp [TT]
    have hs3 := nest_freezeS (o := 752) (s := 6) hs2 hlf rfl rfl (by rw [hlen']; rfl)
    change (Code.seq _ _).wp _ _ _ _
    refine wp_seq (W14 (V := []) (Tl := []) hN hs3 TailOK.nil (Apart.nil _) (Q := fun e c' => e = .normal ∧ c' = _) rfl ⟨rfl, rfl⟩ ?_)
    rintro e c1 K3 a3 w3 ⟨rfl, rfl⟩ hs4 _
    change Code.ret.wp _ _ _ _
    refine wp_ret ⟨.inr rfl, K3, _, hs4, _, _, rfl, ⟨rfl, ?_⟩, rfl, rfl, trivial⟩
    show AA T = .rsl 1 (TT T).length ((TT T).map fun t => [.rsl 1 t.length t])
    rw [hlen', AA]
    congr 1
    rw [TT, List.map_map]
    refine List.map_congr_left fun t _ => ?_
    simp [encT]
end Go.Abs.L39
