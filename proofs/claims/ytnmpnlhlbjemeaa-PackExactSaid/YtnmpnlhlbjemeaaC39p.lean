import Derived.Test.YtnmpnlhlbjemeaaC39o
namespace Go.Abs.L39
open Go Go.Abs Go.Proofs
set_option linter.unusedVariables false
set_option maxRecDepth 20000
abbrev ks18 : List Nat := [0, 1, 2, 3, 4, 5, 6, 7, 8, 9, 10, 18, 23]
theorem W18 {E : Env} (hN : E.N = 25) {K : KM} {fr : List (Nat × AV)} {V Tl : List (Nat × OBlk)} {a : Act} {w : World} {code : Code} {Q : Ex → Cfg → Prop} {Q' : Exit → Act → World → Prop} (hs : SRK E K ⟨fr, V ++ Tl⟩ a w) (htl : TailOK Tl) (hap : Apart V Tl) (hd : drawsOK code = true)
    (h : ev Try.prog tt 25 ks18 code ⟨fr, V⟩ Q) (hQ : ∀ e c' K' a' w', Q e c' → SRK E K' ⟨c'.fr, c'.O ++ Tl⟩ a' w' → Left K V w K' w' → Q' e.toExit a' w') : code.wp Try.prog Q' a w :=
  wp_ev tabOK tabOne mixed hN htl hap hd h hs hQ
def exactE (l : List Int) (room : Int) (least : Nat) (e : Int) : List (List Int) × Int :=
  if e ≠ 0 then ([], e) else match putE room least l 0 [] [] with
    | some x => (x.1, 0)
    | none => ([], 24)
theorem c18 {l : List Int} {room : Int} {least : Nat} {e : Int} (hL : Fn Try.prog 20 [A l, I room] (.tup [I least, I e])) (hv : e = 0 → l.length ≤ 100 ∧ room ≤ 10000 ∧ (∀ n ∈ l, 1 ≤ n ∧ n ≤ room) ∧ least ≤ 1000000) :
    Fn Try.prog 18 [A l, I room] (.tup [AA (exactE l room least e).1, I (exactE l room least e).2]) := by
  by_cases he : e ≠ 0
  · rw [exactE, if_pos he]
    refine fn_nil_rsl (mk18 rfl ⟨_, hL, fun h => ⟨_, _, rfl, .inl rfl, rfl, rfl, trivial⟩, fun h => ?_⟩)
    simp at h; exact absurd h he
  have he : e = 0 := by simpa using he
  subst he
  obtain ⟨hl, hroom, hsz, hleast⟩ := hv rfl
  rw [exactE, if_neg (by simp)]
  refine fn_ofW (N := 25) [.tmp 4, .tmp 5] tabOK Try.func18 rfl (by kernel_rfl) rfl rfl rfl ?_
  intro E K a w hN hp hs
  change (Code.seq _ _).wp _ _ _ _
  refine wp_seq (W18 (V := []) (Tl := []) hN hs TailOK.nil (Apart.nil _) (Q := fun e c' => e = .normal ∧ c' = _) rfl ⟨rfl, rfl⟩ ?_)
  rintro e c1 K1 a1 w1 ⟨rfl, rfl⟩ hs1 _
  change (Code.seq _ _).wp _ _ _ _
  refine wp_seq (W18 (V := [(32, ⟨22, 1, .any, [[A l]]⟩), (48, ⟨3, 1, .any, [[I room]]⟩)]) (Tl := []) hN hs1 TailOK.nil (Apart.nil _) (Q := fun e c' => e = .normal ∧ c' = _) rfl ⟨_, hL, rfl, rfl⟩ ?_)
  rintro e c1 K2 a2 w2 ⟨rfl, rfl⟩ hs2 _
  change (Code.seq _ _).wp _ _ _ _
  refine wp_seq (W18 (Tl := []) hN hs2 TailOK.nil (Apart.nil _) (Q := fun e c' => e = .normal ∧ c' = _) rfl ⟨fun h => (by cases h), fun _ => ⟨rfl, rfl⟩⟩ ?_)
  rintro e c1 K3 a3 w3 ⟨rfl, rfl⟩ hs3 _
  change (Code.seq _ _).wp _ _ _ _
  refine wp_seq (W18 (Tl := []) hN hs3 TailOK.nil (Apart.nil _) (Q := fun e c' => e = .normal ∧ c' = _) rfl ⟨rfl, rfl⟩ ?_)
  rintro e c1 K4 a4 w4 ⟨rfl, rfl⟩ hs4 _
  change (Code.seq _ _).wp _ _ _ _
  refine wp_seq (W18 (Tl := []) hN hs4 TailOK.nil (Apart.nil _) (Q := fun e c' => e = .normal ∧ c' = _) rfl ⟨rfl, rfl⟩ ?_)
  rintro e c1 K5 a5 w5 ⟨rfl, rfl⟩ hs5 _
  change (Code.seq _ _).wp _ _ _ _
  refine wp_seq (W18 (Tl := []) hN hs5 TailOK.nil (Apart.nil _) (Q := fun e c' => e = .normal ∧ c' = _) rfl ⟨rfl, rfl⟩ ?_)
  rintro e c1 K6 a6 w6 ⟨rfl, rfl⟩ hs6 _
  change (Code.seq _ _).wp _ _ _ _
  refine wp_seq (W18 (Tl := []) hN hs6 TailOK.nil (Apart.nil _) (Q := fun e c' => e = .normal ∧ c' = _) rfl ⟨rfl, rfl⟩ ?_)
  rintro e c1 K7 a7 w7 ⟨rfl, rfl⟩ hs7 _
  have hs8 := SRK.onlyT hs7 (Apart.nil _) [4, 5, 8, 10] [32, 48, 96, 128, 144, 160]
  have hs9 : SRK E K7 ⟨[(4, .nilsl), (5, I 0), (8, .ovar 128 0), (10, .ovar 160 0)], O18 l room least⟩ a7 w7 := hs8
  obtain ⟨K8, hs10⟩ := toOP hp hs9
  clear hs hs1 hs2 hs3 hs4 hs5 hs6 hs7 hs8 hs9
  have hput := put_all hl hroom hsz hleast l 0 [] [] rfl (Nat.zero_le _) ⟨Nat.le_refl _, rfl, by simp, by simp⟩ [] []
  have hs11 : SRK E K8 ⟨[(4, .nilsl), (5, I 0), (8, .ovar 2 0), (10, .ovar 6 0)], OP l room least 0 ⟨22, 1, .pure, lits []⟩ [] ++ fam 3 1 (TT [])⟩ a7 w7 := hs10
  change (Code.seq _ _).wp _ _ _ _
  refine wp_seq (wp_seq (wp_region ?_))
  change wpOps _ _ _ (List.range' 0 1 ++ (1 :: (List.range' 2 1 ++ []))) _ _
  refine wp_evOpsN (dm := []) tabOK tabOne hN hs11 fam_ok (fam_apart rfl) ⟨⟨[], []⟩, [], []⟩ 0 1 rfl (Kk := fun c' => c' = _) rfl ?_
  rintro c1 K9 a9 w9 rfl hs12 _
  rw [wpOps_cons]
  refine wpOp_callT rfl rfl (wanted_no' rfl) hs12 hput (fun j t h => by simp [TT] at h) rfl rfl (noOptL_get rfl) (inPF_lk rfl) (fun b _ => hp b) (by rw [hN]; rfl) ?_
  rintro K10 O10 res v w10 ⟨rfl, us, gs, rfl, hl10⟩ _ hs13
  refine wp_evOpsN (dm := []) tabOK tabOne hN hs13 fam_ok (fam_apart rfl) ⟨⟨[], []⟩, [], []⟩ 2 1 rfl (Kk := fun c' => c' = _) rfl ?_
  rintro c1 K11 a11 w11 rfl hs14 hl14
  have hs15 := SRK.onlyT hs14 (fam_apart rfl) [4, 5, 8, 23] [2, 1808, 4, 1824, 6]
  replace hl10 := hl10.left hl14
  clear hs11 hs12 hs13 hs14
  change (Code.cond _ _ _).wp _ _ _ _
  cases hres : putE room least l 0 [] [] with
  | none =>
    rw [hres] at hs15 hl10
    refine W18 hN hs15 fam_ok (fam_apart rfl) (Q := fun e c' => e = .ret ∧ c' = _) rfl ⟨fun _ => ⟨rfl, rfl⟩, fun h => (by cases h)⟩ ?_
    rintro e c1 K12 a12 w12 ⟨rfl, rfl⟩ hs16 _
    have hs17 := hs16.nil_rsl (s := 4) (sz := 1) rfl
    exact ⟨.inr rfl, K12, _, hs17, _, _, rfl, ⟨rfl, rfl⟩, rfl, rfl, trivial⟩
  | some x =>
    rw [hres] at hs15 hl10
    refine W18 hN hs15 fam_ok (fam_apart rfl) (Q := fun e c' => e = .normal ∧ c' = _) rfl ⟨fun h => (by cases h), fun _ => ⟨rfl, rfl⟩⟩ ?_
    rintro e c1 K12 a12 w12 ⟨rfl, rfl⟩ hs16 hl16
    replace hl10 := hl10.left hl16
    change (Code.seq _ _).wp _ _ _ _
    refine wp_seq (wp_region ?_)
    change wpOps _ _ _ (List.range' 0 1 ++ (List.range' 1 2 ++ [])) _ _
    refine wp_evOpsN (dm := []) tabOK tabOne hN hs16 fam_ok (fam_apart rfl) ⟨⟨[], []⟩, [], []⟩ 0 1 rfl (Kk := fun c' => c' = _) rfl ?_
    rintro c1 K13 a13 w13 rfl hs17 hl17
    have hlen' : (TT x.1).length = x.1.length := by simp [TT]
    have hs18 := nest_freezeS (o := 1808) (s := 24) (us := us) hs17 (hl10.left hl17) rfl rfl (by show AV.osl 1808 1 x.1.length = AV.osl 1808 1 (TT x.1).length; rw [hlen'])
    have hs20 := SRK.only hs18 [4, 5, 24] []
    refine wp_evOpsN (V := []) (Tl := []) (dm := []) tabOK tabOne hN hs20 TailOK.nil (Apart.nil _) ⟨⟨[], []⟩, [], []⟩ 1 2 rfl (Kk := fun c' => c' = _) rfl ?_
    rintro c1 K14 a14 w14 rfl hs19 _
    change Code.ret.wp _ _ _ _
    refine wp_ret ⟨.inr rfl, K14, _, hs19, _, _, rfl, ⟨rfl, ?_⟩, rfl, rfl, trivial⟩
    show AA x.1 = .rsl 1 (TT x.1).length ((TT x.1).map fun t => [.rsl 1 t.length t])
    rw [hlen', AA]
    congr 1
    rw [TT, List.map_map]
    refine List.map_congr_left fun t _ => ?_
    simp [encT]
end Go.Abs.L39
