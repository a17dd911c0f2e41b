import Derived.Test.YtjpcpnakcapojaaQ4
import Derived.Test.YtjpcpnakcapojaaC38i
namespace Go.Abs.L38
open Go Go.Abs Go.Proofs
set_option linter.unusedVariables false
set_option maxRecDepth 20000
theorem k5w {T : List (List Int)} {s t0 : List Int} (h1 : T.length ≤ 10000) (h2 : ∀ b ∈ T, b.length ≤ 10000) (hss : s.length ≤ 9223372036854775807) (R : TabR T t0) (hf : fewB T = true) (hsl : ¬ s.length < T.length) (he : prvE T = 0) (hm16 : ¬ t0.length ≥ 16) : Fn Try.prog 5 [AA T, A s] (.bool true) := by
  have hn := R.n
  have hm := R.m
  have k13 := c13 T (by omega) (fun b hb => by have := h2 b hb; omega)
  rw [he] at k13
  have k12 := c12 T (by omega)
  rw [hf] at k12
  refine fn_ofW (N := 82) [.tmp 4] tabOK Try.func5 rfl (by kernel_rfl) rfl rfl rfl ?_
  intro E K a w hN hp hs
  change (Code.seq _ _).wp _ _ _ _
  refine wp_seq (W5s hN hs (Q := fun e c' => e = .normal ∧ c' = _) rfl ⟨rfl, rfl⟩ ?_)
  rintro e c1 K1 a1 w1 ⟨rfl, rfl⟩ hs1
  change (Code.seq _ _).wp _ _ _ _
  refine wp_seq (W5s hN hs1 (Q := fun e c' => e = .normal ∧ c' = _) rfl ⟨_, k11, fun h => (by cases h), fun _ => ⟨rfl, rfl⟩⟩ ?_)
  rintro e c1 K2 a2 w2 ⟨rfl, rfl⟩ hs2
  change (Code.seq _ _).wp _ _ _ _
  have d1 : decide ((s.length : Int) < (T.length : Int)) = false := by simp; omega
  refine wp_seq (W5s hN hs2 (Q := fun e c' => e = .normal ∧ c' = _) rfl ⟨[(3, false)], _, k12, rfl, fun h => (by rw [show _ = false from d1] at h; cases h), fun _ => ⟨rfl, rfl⟩⟩ ?_)
  rintro e c1 K3 a3 w3 ⟨rfl, rfl⟩ hs3
  change (Code.seq _ _).wp _ _ _ _
  refine wp_seq (W5s hN hs3 (Q := fun e c' => e = .normal ∧ c' = _) rfl ⟨_, c14 T h1 h2, true, _, k13, true, rfl, rfl⟩ ?_)
  rintro e c1 K4 a4 w4 ⟨rfl, rfl⟩ hs4
  change (Code.seq _ _).wp _ _ _ _
  have d2 : ((T.length : Int) == 0) = false := beq_eq_false_iff_ne.2 (by omega)
  have d3 : decide (((t0.length : Nat) : Int) ≥ 16) = false := by simp; omega
  refine wp_seq (W5s hN hs4 (Q := fun e c' => e = .normal ∧ c' = _) rfl ⟨[(2, false), (7, false)], rfl, d2, ⟨by omega, by omega⟩, encT t0, get_map (i := 0) R.head, fun h => (by rw [show _ = false from d3] at h; cases h), fun _ => ⟨rfl, rfl⟩⟩ ?_)
  rintro e c1 K5 a5 w5 ⟨rfl, rfl⟩ hs5
  have hs6 := SRK.only hs5 [0, 1, 6] []
  clear hs hs1 hs2 hs3 hs4 hs5
  change (Code.seq _ _).wp _ _ _ _
  refine wp_seq (wp_region ?_)
  change wpOps _ _ _ (List.range' 0 1 ++ ([1] ++ (List.range' 2 1 ++ []))) _ _
  refine wp_evOpsN (Tl := []) (dm := []) tabOK tabOne hN (fr := [(0, AA T), (1, A s), (6, I (chpC T))]) (V := []) hs6 TailOK.nil (Apart.nil _) ⟨⟨[], []⟩, [], []⟩ 0 1 rfl (Kk := fun c' => c' = _) rfl ?_
  rintro c1 K6 a6 w6 rfl hs7 _
  change wpOps _ _ _ (1 :: (List.range' 2 1 ++ [])) _ _
  rw [wpOps_cons]
  refine wpOp_callF rfl rfl (wanted_no' rfl) hs7 (c14F T hn.1 h1 h2) rfl rfl (noOptL_get rfl) rfl (fun t b => by
    cases hh : (lk [(46, AA T), (0, AA T), (1, A s), (6, I (chpC T))] t).has b with
    | false => rfl
    | true => exact absurd (inPF_lk (ps := []) rfl t b hh) (by simp [memN])) (fun b => hp b) (by rw [hN]; rfl) ?_
  rintro K7 O7 r v w7 ⟨us, rfl, rfl, hl0, hul⟩ hs8
  change wpOps _ _ _ (List.range' 2 1 ++ []) _ _
  refine wp_evOpsN (Tl := fam 3 1 (TW T)) (dm := []) tabOK tabOne hN (fr := [(47, .osl 80 1 T.length), (46, AA T), (0, AA T), (1, A s), (6, I (chpC T))]) (V := [(80, ⟨25, 1, .pure, lits us⟩)]) hs8 fam_ok (fam_apart rfl) ⟨⟨[], []⟩, [], []⟩ 2 1 rfl (Kk := fun c' => c' = _) rfl ?_
  rintro c1 K8 a8 w8 rfl hs9 hl1
  have hl2 := hl0.left hl1
  change (Code.seq _ _).wp _ _ _ _
  have hs10 : SRK E K8 ⟨[(1, A s), (6, I (chpC T)), (8, .osl 80 1 T.length)], [(80, ⟨25, 1, .pure, lits us⟩)] ++ fam 3 1 (TW T)⟩ a8 w8 := SRK.onlyT hs9 (fam_apart rfl) [1, 6, 8] [80]
  clear hs6 hs7 hs8 hs9
  refine wp_seq (wp_seq (W5 hN hs10 fam_ok (fam_apart rfl) (Q := fun e c' => e = .normal ∧ c' = _) rfl ⟨rfl, rfl⟩ ?_))
  rintro e c1 K9 a9 w9 ⟨rfl, rfl⟩ hs11 hl3
  have hl4 := hl2.left hl3
  have hs12 : SRK E K9 ⟨[(1, A s), (6, I (chpC T)), (8, .osl 80 1 T.length), (49, I T.length), (50, I ((0 : Nat) : Int))], [(80, ⟨25, 1, .pure, lits us⟩)] ++ fam 3 1 (TW (wid T s 0))⟩ a9 w9 := SRK.onlyT hs11 (fam_apart rfl) [1, 6, 8, 49, 50] [80]
  clear hs10 hs11
  change (Code.block _ _).wp _ _ _ _
  refine wp_block (wp_loop_ghost (fun q a w => ∃ K i us, q = T.length - i ∧ i ≤ T.length ∧ us.length = T.length ∧ LitF w K 1 us (TW (wid T s i)) ∧ SRK E K ⟨[(1, A s), (6, I (chpC T)), (8, .osl 80 1 T.length), (49, I T.length), (50, I i)], [(80, ⟨25, 1, .pure, lits us⟩)] ++ fam 3 1 (TW (wid T s i))⟩ a w) T.length
    ⟨K9, 0, us, by omega, by omega, hul, hl4, hs12⟩ ?_)
  clear hs12 hl0 hl2 hl4 hul
  rintro q a w ⟨K, i, us, rfl, hi, hul, hl, hs⟩
  change (Code.seq _ _).wp _ _ _ _
  refine wp_seq (W5 hN hs fam_ok (fam_apart rfl) (Q := fun e c' => e = .normal ∧ c' = _) rfl ⟨rfl, rfl⟩ ?_)
  rintro e c1 K1 a1 w1 ⟨rfl, rfl⟩ hs1 hl1
  have hl2 := hl.left hl1
  change (Code.seq _ _).wp _ _ _ _
  have hwl := wid_len T s i
  by_cases hlt : i < T.length
  · refine wp_seq (W5 hN hs1 fam_ok (fam_apart rfl) (Q := fun e c' => e = .normal ∧ c' = _) rfl ⟨fun _ => ⟨rfl, rfl⟩, fun h => absurd (of_decide_eq_false h) (by omega)⟩ ?_)
    rintro e c1 K2 a2 w2 ⟨rfl, rfl⟩ hs2 hl3
    have hl4 := hl2.left hl3
    change (Code.seq _ _).wp _ _ _ _
    refine wp_seq (wp_block ?_)
    change (Code.seq _ _).wp _ _ _ _
    refine wp_seq (W5 hN hs2 fam_ok (fam_apart rfl) (Q := fun e c' => e = .normal ∧ c' = _) rfl ⟨rfl, rfl⟩ ?_)
    rintro e c1 K3 a3 w3 ⟨rfl, rfl⟩ hs3 hl5
    have hl6 := hl4.left hl5
    have hs4 : SRK E K3 ⟨F5 s (chpC T) (wid T s i).length i, [(80, ⟨25, 1, .pure, lits us⟩)] ++ fam 3 1 (TW (wid T s i))⟩ a3 w3 := by
      rw [hwl]; exact SRK.onlyT hs3 (fam_apart rfl) [1, 6, 8, 9, 49, 50] [80]
    have hTi : T.getD i [] ∈ T := by rw [List.getD_eq_getElem?_getD, List.getElem?_eq_getElem hlt]; simp
    have hti := R.len _ hTi
    have hWi : (wid T s i)[i]? = some (T.getD i []) := by
      have := wid_get T s i i hlt
      rw [if_neg (by omega), List.getD_eq_getElem?_getD, List.getElem?_eq_getElem (by omega), Option.getD_some] at this
      rw [List.getElem?_eq_getElem (by omega), this]
    refine wp_app5 hN hp hs4 hl6 (by omega) (by omega) hWi (by omega) ?_
    intro K4 us' a4 w4 hs5 hl7 hul'
    rw [hwl] at hs5
    change (Code.region _ _ _).wp _ _ _ _
    refine W5 hN hs5 fam_ok (fam_apart rfl) (Q := fun e c' => e = .normal ∧ c' = _) rfl ⟨((i + 1 : Nat) : Int), wrapTo (by omega) (by omega) (by omega), rfl, rfl⟩ ?_
    rintro e c1 K6 a6 w6 ⟨rfl, rfl⟩ hs8 hl10
    exact ⟨T.length - (i + 1), by omega, K6, i + 1, us', rfl, by omega, by omega, hl7.left hl10, SRK.onlyT hs8 (fam_apart rfl) [1, 6, 8, 49, 50] [80]⟩
  · have hie : i = T.length := by omega
    subst hie
    refine wp_seq (W5 hN hs1 fam_ok (fam_apart rfl) (Q := fun e c' => e = .exit 0 ∧ c' = _) rfl ⟨fun h => absurd (of_decide_eq_true h) (by omega), fun _ => ⟨rfl, rfl⟩⟩ ?_)
    rintro e c1 K2 a2 w2 ⟨rfl, rfl⟩ hs2 hl3
    have hl4 := hl2.left hl3
    have hs3 := nest_freezeS (o := 80) (s := 8) hs2 hl4 rfl rfl (by show AV.osl 80 1 T.length = AV.osl 80 1 (TW (wid T s T.length)).length; rw [TW, List.length_map, hwl])
    obtain ⟨hp0, hle⟩ := wide_law (s := s) R he (by omega)
    have RW := wide_tab (s := s) R (by omega)
    have hbW : ∀ b ∈ wid T s T.length, b.length ≤ 9223372036854775807 := fun b hb => by
      have h1 := RW.len b hb
      have h2 := RW.m
      omega
    have k13b := c13 (wid T s T.length) (by omega) hbW
    rw [hp0] at k13b
    generalize wid T s T.length = W at *
    have eW : AV.rsl 1 (TW W).length ((TW W).map fun t => [.rsl 1 t.length t]) = AA W := by
      have e1 : (TW W).map (fun t => [AV.rsl 1 t.length t]) = W.map encT := by
        rw [TW, List.map_map]
        refine List.map_congr_left fun t _ => ?_
        show [AV.rsl 1 (t.map enc).length (t.map enc)] = encT t
        rw [List.length_map]; rfl
      rw [e1, TW, List.length_map]
    rw [eW] at hs3
    have hs4 : SRK E K2 ⟨[(6, I (chpC T)), (8, AA W)], []⟩ a2 w2 := SRK.only hs3 [6, 8] []
    clear hs hs1 hs2 hs3
    change (Code.seq _ _).wp _ _ _ _
    refine wp_seq (W5s hN hs4 (Q := fun e c' => e = .normal ∧ c' = _) rfl ⟨_, k13b, true, rfl, rfl⟩ ?_)
    rintro e c1 K3 a3 w3 ⟨rfl, rfl⟩ hs5
    have d : decide (chpC W ≤ chpC T) = true := by simpa using hle
    refine W5s hN hs5 (Q := retQ tt [.tmp 4] (.bool true)) rfl ⟨[(2, true)], rfl, rfl, rfl, by show AV.bool true = AV.bool (decide (chpC W ≤ chpC T)); rw [d]⟩ ?_
    intro e c1 K4 a4 w4 hq hs6
    cases e with
    | normal => exact ⟨.inl rfl, K4, c1, hs6, hq⟩
    | exit id => exact absurd hq (fun h => h)
    | ret => exact ⟨.inr rfl, K4, c1, hs6, hq⟩
theorem k5 (T : List (List Int)) (s : List Int) (hT : T.length ≤ 9223372036854775807) (hTb : ∀ b ∈ T, b.length ≤ 9223372036854775807) (hs : s.length ≤ 9223372036854775807) : Fn Try.prog 5 [AA T, A s] (.bool true) := by
  by_cases hf : fewB T = true
  case neg =>
    have hf : fewB T = false := by simpa using hf
    have k12 := c12 T hT
    rw [hf] at k12
    exact mk5 rfl ⟨_, k11, fun h => (by cases h), fun _ => ⟨[(3, true)], _, k12, rfl, fun _ => ⟨rfl, rfl, rfl⟩, fun h => (by cases h)⟩⟩
  obtain ⟨h1, h2⟩ := few_len hf
  have k12 := c12 T hT
  rw [hf] at k12
  by_cases hsl : s.length < T.length
  · have d1 : decide ((s.length : Int) < (T.length : Int)) = true := by simp; omega
    exact mk5 rfl ⟨_, k11, fun h => (by cases h), fun _ => ⟨[(3, false)], _, k12, rfl, fun _ => ⟨rfl, rfl, rfl⟩, fun h => (by rw [show _ = true from d1] at h; cases h)⟩⟩
  have d1 : decide ((s.length : Int) < (T.length : Int)) = false := by simp; omega
  have k13 := c13 T hT hTb
  by_cases he : prvE T ≠ 0
  · have d2 : (prvE T != 0) = true := by simpa using he
    exact mk5 rfl ⟨_, k11, fun h => (by cases h), fun _ => ⟨[(3, false)], _, k12, rfl, fun h => (by rw [show _ = false from d1] at h; cases h), fun _ => ⟨_, c14 T h1 h2, true, _, k13, true, [(2, true), (7, true)], d2, rfl, fun _ => ⟨rfl, rfl, rfl⟩, fun h => (by cases h)⟩⟩⟩
  have he : prvE T = 0 := by simpa using he
  obtain ⟨t0, R⟩ := chk_ok (chk_of_prv he)
  have hn := R.n
  by_cases hm16 : t0.length ≥ 16
  · rw [he] at k13
    have d2 : ((T.length : Int) == 0) = false := beq_eq_false_iff_ne.2 (by omega)
    have d3 : decide (((t0.length : Nat) : Int) ≥ 16) = true := by simp; omega
    exact mk5 rfl ⟨_, k11, fun h => (by cases h), fun _ => ⟨[(3, false)], _, k12, rfl, fun h => (by rw [show _ = false from d1] at h; cases h), fun _ => ⟨_, c14 T h1 h2, true, _, k13, true, [(2, false), (7, false)], rfl, d2, ⟨by omega, by omega⟩, encT t0, get_map (i := 0) R.head, fun _ => ⟨rfl, rfl, rfl⟩, fun h => (by rw [show _ = true from d3] at h; cases h)⟩⟩⟩
  exact k5w h1 h2 hs R hf hsl he hm16
end Go.Abs.L38
