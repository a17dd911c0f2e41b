import Derived.Test.YtnmpnlhlbjemeaaL39m
import Derived.Test.YtnmpnlhlbjemeaaP39e
namespace Go.Abs.L39
open Go Go.Abs Go.Proofs
set_option linter.unusedVariables false
set_option maxRecDepth 20000
theorem nest_nils {E : Env} {K : KM} {a : Act} {w : World} {fr : List (Nat × AV)} {n : Nat} (hp : ∀ b, E.pin b = none) (hfr : noFF fr = true)
    (hs : SRK E K ⟨fr, [(480, ⟨22, 1, .pure, lits (List.replicate n nilS)⟩)]⟩ a w) : ∀ j, j ≤ n → ∃ K', SRK E K' ⟨fr, [(480, ⟨22, 1, .pure, lits (List.replicate n nilS)⟩)] ++ fam 3 1 (TT (List.replicate j []))⟩ a w ∧ LitF w K' 1 (List.replicate n nilS) (TT (List.replicate j [])) := by
  intro j
  induction j with
  | zero => intro _; exact ⟨K, hs, fun j t h => by simp [TT] at h⟩
  | succ j ih =>
    intro hj
    obtain ⟨K', hs', hl'⟩ := ih (by omega)
    obtain ⟨K5, hs5, hl5, _⟩ := nest_nil (V := [(480, ⟨22, 1, .pure, lits (List.replicate n nilS)⟩)]) hs' hl' rfl (hp _) (noFF_lk _ hfr) (fun i y hi hk => by
      rw [olk_cons] at hi
      split at hi
      · injection hi with hi; subst hi; cases hk
      · cases hi) (by rw [show (TT (List.replicate j [])).length = j by simp [TT], List.getElem?_replicate, if_pos (by omega)])
    rw [show TT (List.replicate j []) ++ [[]] = TT (List.replicate (j + 1) []) by rw [List.replicate_succ']; simp [TT]] at hs5 hl5
    exact ⟨K5, hs5, hl5⟩
abbrev ks19 : List Nat := [0, 1, 4, 5, 6, 7, 8, 10, 11, 12, 20, 31, 32, 33, 34]
theorem W19 {E : Env} (hN : E.N = 50) {K : KM} {fr : List (Nat × AV)} {V Tl : List (Nat × OBlk)} {a : Act} {w : World} {code : Code} {Q : Ex → Cfg → Prop} {Q' : Exit → Act → World → Prop} (hs : SRK E K ⟨fr, V ++ Tl⟩ a w) (htl : TailOK Tl) (hap : Apart V Tl) (hd : drawsOK code = true)
    (h : ev Try.prog tt 50 ks19 code ⟨fr, V⟩ Q) (hQ : ∀ e c' K' a' w', Q e c' → SRK E K' ⟨c'.fr, c'.O ++ Tl⟩ a' w' → Left K V w K' w' → Q' e.toExit a' w') : code.wp Try.prog Q' a w :=
  wp_ev tabOK tabOne mixed hN htl hap hd h hs hQ
def loop19 : Code → Code
  | .seq _ (.seq _ (.seq _ (.seq _ (.seq _ (.seq (.seq _ (.block _ (.loop (.seq _ (.seq _ (.seq (.block _ c) _)))))) _))))) => c
  | c => c
def app19 (c : Code) : Code := match loop19 c with | .seq _ c => c | c => c
abbrev F19 (of : List Int) (m : Nat) (i : Nat) (k : Int) : List (Nat × AV) := [(10, .osl 480 1 m), (11, I i), (12, I k), (31, A of), (32, I of.length), (33, I i)]
abbrev G19 (of : List Int) (m : Nat) (i : Nat) : List (Nat × AV) := [(10, .osl 480 1 m), (31, A of), (32, I of.length), (33, I i)]
theorem ev19 (of : List Int) (m i kk : Nat) (inner : List (List AV)) (R : List (List AV)) (hm : kk < m) (hRk : R[kk]? = some [.osl 688 1 inner.length]) (hRh : ∀ b, hasRow b R = (688 == b)) (hi : inner.length ≤ 100000) (hRp : (purgeR 688 R)[kk]? = some [.top]) (hmm : m ≤ 10000) :
    ev Try.prog tt 50 ks19 (app19 (body Try.f19)) ⟨F19 of m i kk, [(688, ⟨3, 1, .pure, inner⟩), (480, ⟨22, 1, .any, R⟩)]⟩
      fun e c => e = .normal ∧ c = ⟨F19 of m i kk, [(688, ⟨3, 1, .pure, inner.take inner.length ++ [enc i]⟩), (480, ⟨22, 1, .any, (purgeR 688 R).set ((kk : Nat) : Int).toNat [.osl 688 1 (inner.length + 1)]⟩), (720, ⟨3, 1, .pure, [enc i]⟩)]⟩ := by
  refine ⟨⟨by omega, by omega⟩, [.osl 688 1 inner.length], hRk, ?_⟩
  conv => whnf
  refine mtrue ?_ ?_
  · refine chk3 ?_ rfl rfl
    exact freshD_new rfl (freshO_pure rfl (freshO_any rfl (hRh _) rfl)) rfl
  refine ⟨⟨by show (inner.length + 1) * 8 ≤ 140737488355328; omega, by omega⟩, ⟨by omega, by omega⟩, [.top], hRp, ?_⟩
  exact ⟨rfl, rfl⟩
theorem wpApp19 {E : Env} (hN : E.N = 50) (hp : ∀ b, E.pin b = none) {of : List Int} {i : Nat} {T : List (List Int)} {t : List Int} {us : List Value} {kk : Nat} {K : KM} {a : Act} {w : World} {Q : Exit → Act → World → Prop}
    (hs : SRK E K ⟨F19 of T.length i kk, [(480, ⟨22, 1, .pure, lits us⟩)] ++ fam 3 1 (TT T)⟩ a w) (hl : LitF w K 1 us (TT T)) (ht : T[kk]? = some t) (hti : t.length ≤ 2000) (hmm : T.length ≤ 10000)
    (hQ : ∀ K' us' a' w', SRK E K' ⟨F19 of T.length i kk, [(480, ⟨22, 1, .pure, lits us'⟩)] ++ fam 3 1 (TT (T.set kk (t ++ [(i : Int)])))⟩ a' w' → LitF w' K' 1 us' (TT (T.set kk (t ++ [(i : Int)]))) → us'.length = us.length → Q .normal a' w') : (app19 (body Try.f19)).wp Try.prog Q a w := by
  have hm : kk < T.length := (List.getElem?_eq_some_iff.1 ht).1
  have ht' : (TT T)[kk]? = some (t.map enc) := by simp [TT, ht]
  have hkl : kk < us.length := by
    have := hl.len
    simp [TT] at this; omega
  obtain ⟨K1, hs1, hl1, _⟩ := nest_open (x := 688) (k := kk) (o := 480) hs hl rfl rfl rfl (hp _) (by decide) (fun s => freshF_lk s rfl) (fun i y h hk => (freshO_olk (b := 688) (O := [(480, ⟨22, 1, .pure, lits us⟩)]) rfl h).2 hk) ht'
  refine wp_ev (fr := F19 of T.length i kk) (V := [(688, ⟨3, 1, .pure, t.map enc⟩), (480, ⟨22, 1, .any, (lits us).set kk [.osl 688 1 (t.map enc).length]⟩)]) (Tl := delO (fid kk) (fam 3 1 (TT T))) tabOK tabOne mixed hN (del_ok fam_ok) (del_apart (fam_apart rfl)) (by rfl)
    (ev19 of T.length i kk (t.map enc) _ hm (by rw [List.getElem?_set_self (by rw [lits_len]; exact hkl)]) (fun b => hasRow_open b us kk hkl) (by simp; omega) (by rw [purge_open us kk hkl, List.getElem?_set_self (by rw [lits_len]; exact hkl)]) hmm) hs1 ?_
  rintro e c' K2 a2 w2 ⟨rfl, rfl⟩ hs2 hl2
  rw [List.take_length, Int.toNat_natCast, purge_open us kk hkl, List.set_set] at hs2
  have hs3 := SRK.onlyT hs2 (del_apart (fam_apart rfl)) [10, 11, 12, 31, 32, 33] [688, 480]
  obtain ⟨K4, v', hs4, hl4, _⟩ := nest_back (o := 480) (y := 688) (k := kk) (t' := t.map enc ++ [enc i]) (us := us) (T := TT T) (V := [(688, ⟨3, 1, .pure, t.map enc ++ [enc i]⟩), (480, ⟨22, 1, .any, (lits us).set kk [.osl 688 1 ((t.map enc).length + 1)]⟩)]) hs3 (hl1.left hl2) rfl (by simp [TT]; omega) rfl (by simp) rfl (by decide) (fun j => hp _) rfl rfl (by decide)
  rw [← TT_app] at hs4 hl4
  exact hQ K4 _ a2 w2 hs4 hl4 (by simp)
def outE : List Int → Nat → List (List Int) → List (List Int)
  | [], _, T => T
  | k :: r, i, T => outE r (i + 1) (T.set k.toNat (T.getD k.toNat [] ++ [(i : Int)]))
structure Out19 (of : List Int) (m : Nat) (T : List (List Int)) (i : Nat) : Prop where
  hi : i ≤ of.length
  len : T.length = m
  inner : ∀ t ∈ T, t.length ≤ i
  eq : outE (of.drop i) i T = outE of 0 (List.replicate m [])
theorem c19 {l : List Int} (hl : l.length ≤ 9223372036854775807) {room : Int} {m : Nat} {of : List Int} {b : Bool} {e : Int} (hL : Fn Try.prog 21 [A l, I room] (.tup [I m, I e])) (hS : e = 0 → Fn Try.prog 34 [A l, I room, I m, A [], A []] (.tup [A of, .bool b])) (hof : e = 0 → of.length ≤ 1000 ∧ (∀ k ∈ of, 0 ≤ k ∧ k < m) ∧ m ≤ 1000) :
    Fn Try.prog 19 [A l, I room] (.tup [AA (if e ≠ 0 then [] else outE of 0 (List.replicate m [])), I e]) := by
  by_cases he : e ≠ 0
  · rw [if_pos he]
    refine fn_nil_rsl (mk19 rfl ⟨_, hL, fun h => ⟨_, _, rfl, .inl rfl, rfl, rfl, trivial⟩, fun h => ?_⟩)
    simp at h; exact absurd h he
  have he : e = 0 := by simpa using he
  subst he
  obtain ⟨ho1, ho2, hm⟩ := hof rfl
  have hS' : Fn Try.prog 34 [A l, I room, I m, .nilsl, .nilsl] (.tup [A of, .bool b]) := by
    refine fn_weak (hS rfl) rfl fun w X j u' u c h1 h2 hv => ?_
    have key : VR w X K0 .nilsl c → VR w X K0 (A []) c := by
      intro h
      rw [VR.nilsl_inv h]
      exact VR.rsl (cs := []) (by simp) (by simp) (Nat.le_refl _) (fun _ => rfl) (by simp) (by simp) (by simp) (by simp)
    match j with
    | 0 => simp at h1 h2; subst h1 h2; exact hv
    | 1 => simp at h1 h2; subst h1 h2; exact hv
    | 2 => simp at h1 h2; subst h1 h2; exact hv
    | 3 => simp at h1 h2; subst h1 h2; exact key hv
    | 4 => simp at h1 h2; subst h1 h2; exact key hv
    | j + 5 => simp at h1
  rw [if_neg (by simp)]
  refine fn_ofW (N := 50) [.tmp 4, .tmp 5] tabOK Try.func19 rfl (by kernel_rfl) rfl rfl rfl ?_
  intro E K a w hN hp hs
  change (Code.seq _ _).wp _ _ _ _
  refine wp_seq (W19 (V := []) (Tl := []) hN hs TailOK.nil (Apart.nil _) (Q := fun e c' => e = .normal ∧ c' = _) rfl ⟨rfl, rfl⟩ ?_)
  rintro e c1 K1 a1 w1 ⟨rfl, rfl⟩ hs1 _
  change (Code.seq _ _).wp _ _ _ _
  refine wp_seq (W19 (V := []) (Tl := []) hN hs1 TailOK.nil (Apart.nil _) (Q := fun e c' => e = .normal ∧ c' = _) rfl ⟨_, hL, rfl, rfl⟩ ?_)
  rintro e c1 K2 a2 w2 ⟨rfl, rfl⟩ hs2 _
  change (Code.seq _ _).wp _ _ _ _
  refine wp_seq (W19 (V := []) (Tl := []) hN hs2 TailOK.nil (Apart.nil _) (Q := fun e c' => e = .normal ∧ c' = _) rfl ⟨fun h => (by cases h), fun _ => ⟨rfl, rfl⟩⟩ ?_)
  rintro e c1 K3 a3 w3 ⟨rfl, rfl⟩ hs3 _
  change (Code.seq _ _).wp _ _ _ _
  refine wp_seq (W19 (V := []) (Tl := []) hN hs3 TailOK.nil (Apart.nil _) (Q := fun e c' => e = .normal ∧ c' = _) rfl ⟨_, hS', rfl, rfl⟩ ?_)
  rintro e c1 K4 a4 w4 ⟨rfl, rfl⟩ hs4 _
  change (Code.seq _ _).wp _ _ _ _
  refine wp_seq (W19 (V := []) (Tl := []) hN hs4 TailOK.nil (Apart.nil _) (Q := fun e c' => e = .normal ∧ c' = _) rfl ⟨⟨rfl, by omega, by show (24 : Int) * _ ≤ _; omega, by omega⟩, rfl, rfl⟩ ?_)
  rintro e c1 K5 a5 w5 ⟨rfl, rfl⟩ hs5 _
  have hs6 := SRK.only hs5 [8, 10] [480]
  have hs7 : SRK E K5 ⟨[(8, A of), (10, .osl 480 1 m)], [(480, ⟨22, 1, .pure, List.replicate m [.nilsl]⟩)]⟩ a5 w5 := hs6
  have hs8 := SRK.lits (o := 480) (eo := 22) (rows := List.replicate m [.nilsl]) hs7 rfl (fun row hr => by
    rw [List.eq_of_mem_replicate hr]; rfl)
  rw [List.map_replicate] at hs8
  have hs9 : SRK E K5 ⟨[(8, A of), (10, .osl 480 1 m)], [(480, ⟨22, 1, .pure, lits (List.replicate m nilS)⟩)]⟩ a5 w5 := hs8
  obtain ⟨K6, hs10, hl10⟩ := nest_nils hp rfl hs9 m (Nat.le_refl _)
  clear hs hs1 hs2 hs3 hs4 hs5 hs6 hs7 hs8 hs9
  change (Code.seq _ _).wp _ _ _ _
  refine wp_seq (wp_seq (W19 hN hs10 fam_ok (fam_apart rfl) (Q := fun e c' => e = .normal ∧ c' = _) rfl ⟨rfl, rfl⟩ ?_))
  rintro e c1 K7 a7 w7 ⟨rfl, rfl⟩ hs11 hl11
  replace hl10 := hl10.left hl11
  have hs12 : SRK E K7 ⟨G19 of (List.replicate m ([] : List Int)).length 0, [(480, ⟨22, 1, .pure, lits (List.replicate m nilS)⟩)] ++ fam 3 1 (TT (List.replicate m []))⟩ a7 w7 := by
    have := SRK.onlyT hs11 (fam_apart rfl) [10, 31, 32, 33] [480]
    rw [List.length_replicate]; exact this
  clear hs10 hs11
  change (Code.block _ _).wp _ _ _ _
  refine wp_block (wp_loop_ghost (fun n a w => ∃ K us T i, n = of.length - i ∧ SRK E K ⟨G19 of T.length i, [(480, (⟨22, 1, .pure, lits us⟩ : OBlk))] ++ fam 3 1 (TT T)⟩ a w ∧ LitF w K 1 us (TT T) ∧ us.length = T.length ∧ Out19 of m T i) of.length
    ⟨K7, _, _, 0, by omega, hs12, hl10, by simp, by omega, by simp, by simp, rfl⟩ ?_)
  clear hs12 hl10
  rintro n a w ⟨K, us, T, i, rfl, hs, hlf, hus, ho⟩
  refine wp_seq (W19 hN hs fam_ok (fam_apart rfl) (Q := fun e c' => e = .normal ∧ c' = _) rfl ⟨rfl, rfl⟩ ?_)
  rintro e c1 K1 a1 w1 ⟨rfl, rfl⟩ hs1 hl1
  replace hlf := hlf.left hl1
  clear hs hl1
  change (Code.seq _ _).wp _ _ _ _
  by_cases hlt : i < of.length
  · have hd : decide ((i : Int) < (of.length : Int)) = true := by simp; omega
    obtain ⟨k, hk, hdr, _⟩ := drop_cons hlt
    obtain ⟨hk0, hk1⟩ := ho2 k (List.mem_of_getElem? hk)
    have hTl := ho.len
    obtain ⟨kk, rfl⟩ : ∃ kk : Nat, k = (kk : Int) := ⟨k.toNat, by omega⟩
    obtain ⟨t, ht⟩ : ∃ t, T[kk]? = some t := ⟨T[kk]'(by omega), by simp⟩
    have hti := ho.inner t (List.mem_of_getElem? ht)
    have heq := ho.eq
    rw [hdr, outE, Int.toNat_natCast, show T.getD kk [] = t by rw [List.getD_eq_getElem?_getD, ht]; rfl] at heq
    refine wp_seq (W19 hN hs1 fam_ok (fam_apart rfl) (Q := fun e c' => e = .normal ∧ c' = _) rfl ⟨fun _ => ⟨rfl, rfl⟩, fun h => (by rw [show _ = true from hd] at h; cases h)⟩ ?_)
    rintro e c1 K2 a2 w2 ⟨rfl, rfl⟩ hs2 hl2
    replace hlf := hlf.left hl2
    clear hs1 hl2
    change (Code.seq _ _).wp _ _ _ _
    refine wp_seq (wp_block ?_)
    refine wp_seq (W19 hN hs2 fam_ok (fam_apart rfl) (Q := fun e c' => e = .normal ∧ c' = _) rfl ⟨⟨by omega, by omega⟩, enc kk, get_map hk, rfl, rfl⟩ ?_)
    rintro e c1 K3 a3 w3 ⟨rfl, rfl⟩ hs3 hl3
    replace hlf := hlf.left hl3
    have hs3' := SRK.onlyT hs3 (fam_apart rfl) [10, 11, 12, 31, 32, 33] [480]
    clear hs2 hl3 hs3
    refine wpApp19 hN hp hs3' hlf ht (by omega) (by omega) ?_
    intro K6 us6 a6 w6 hs6 hl6 hu6
    change (Code.region _ _ _).wp _ _ _ _
    refine W19 hN hs6 fam_ok (fam_apart rfl) (Q := fun e c' => e = .normal ∧ c' = _) rfl ⟨((i + 1 : Nat) : Int), wrapTo (by omega) (by omega) (by omega), rfl, rfl⟩ ?_
    rintro e c1 K7 a7 w7 ⟨rfl, rfl⟩ hs7 hl7
    have hs7' := SRK.onlyT hs7 (fam_apart rfl) [10, 31, 32, 33] [480]
    refine ⟨of.length - (i + 1), by omega, K7, us6, T.set kk (t ++ [(i : Int)]), i + 1, rfl, ?_, hl6.left hl7, by rw [hu6, List.length_set, hus], by omega, by rw [List.length_set]; exact hTl, fun s hs => ?_, heq⟩
    · rw [List.length_set]; exact hs7'
    · rcases List.mem_or_eq_of_mem_set hs with hs | rfl
      · have := ho.inner s hs; omega
      · simp; omega
  · have hd : decide ((i : Int) < (of.length : Int)) = false := by simp; omega
    refine wp_seq (W19 hN hs1 fam_ok (fam_apart rfl) (Q := fun e c' => e = .exit 0 ∧ c' = _) rfl ⟨fun h => (by rw [show _ = false from hd] at h; cases h), fun _ => ⟨rfl, rfl⟩⟩ ?_)
    rintro e c1 K2 a2 w2 ⟨rfl, rfl⟩ hs2 hl2
    replace hlf := hlf.left hl2
    have hie : i = of.length := by have := ho.hi; omega
    have heq := ho.eq
    rw [hie, List.drop_length, outE] at heq
    rw [← heq]
    have hlen' : (TT T).length = T.length := by simp [TT]
    have hs3 := nest_freezeS (o := 480) (s := 10) hs2 hlf rfl rfl (by rw [hlen']; rfl)
    change (Code.seq _ _).wp _ _ _ _
    refine wp_seq (W19 (V := []) (Tl := []) hN hs3 TailOK.nil (Apart.nil _) (Q := fun e c' => e = .normal ∧ c' = _) rfl ⟨rfl, rfl⟩ ?_)
    rintro e c1 K3 a3 w3 ⟨rfl, rfl⟩ hs4 _
    change Code.ret.wp _ _ _ _
    refine wp_ret ⟨.inr rfl, K3, _, hs4, _, _, rfl, ⟨rfl, ?_⟩, rfl, rfl, trivial⟩
    show AA T = .rsl 1 (TT T).length ((TT T).map fun t => [.rsl 1 t.length t])
    rw [hlen', AA]
    congr 1
    rw [TT, List.map_map]
    refine List.map_congr_left fun t _ => ?_
    simp [encT]
end Go.Abs.L39
