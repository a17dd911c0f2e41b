import Derived.Test.YtjpcpnakcapojaaC38i
namespace Go.Abs.L38
open Go Go.Abs Go.Proofs Go.Abs.Hung
set_option linter.unusedVariables false
set_option maxRecDepth 20000
theorem Tb.row0 {T : List (List Int)} {F : List Int} {n m : Nat} (tb : Tb T F n m) : ∃ t0, T[0]? = some t0 ∧ t0.length = m := by
  have hn := tb.h1
  have h0 : 0 < T.length := by rw [tb.hn]; omega
  exact ⟨T[0], by simp, tb.hT _ (List.getElem_mem h0)⟩
theorem c30n {T : List (List Int)} {F : List Int} {n m : Nat} (tb : Tb T F n m) (hnm : m < n) : Fn Try.prog 30 [AA T, A F] (.tup [.agg [.nilsl, .nilsl, .nilsl, I 0], .bool false]) := by
  have hn := tb.h1
  have htn := tb.hn
  obtain ⟨t0, h0, hl⟩ := tb.row0
  refine mk30 rfl ⟨⟨by omega, by omega⟩, encT t0, get_map (i := 0) h0, fun _ => ?_, fun h => ?_⟩
  · exact ⟨_, _, rfl, ⟨rfl, rfl⟩, rfl, rfl, trivial⟩
  · have h := of_decide_eq_false h
    omega
def phs30 : Code → Code
  | .seq _ (.seq _ (.seq _ (.seq _ (.seq _ (.seq _ (.seq c _)))))) => c
  | c => c
theorem c30 {T : List (List Int)} {F : List Int} {n m : Nat} (tb : Tb T F n m) (hnm : n ≤ m) {S : Ph} (hS : phases (atE T F) m 1073741824 false n 0 (Hung.start n m) = some S) :
    Fn Try.prog 30 [AA T, A F] (.tup [.agg [A (finE (atE T F) S.row m 1 (List.replicate n 0) 0).1, A (S.u.drop 1), A (S.v.drop 1), I (finE (atE T F) S.row m 1 (List.replicate n 0) 0).2], .bool (decide ((finE (atE T F) S.row m 1 (List.replicate n 0) 0).2 < 1048576))]) := by
  have hn := tb.h1
  have hm := tb.h2
  have htn := tb.hn
  obtain ⟨t0, h0, hl⟩ := tb.row0
  have hMt : Mt (atE T F) n m n 1048576 S := by
    obtain ⟨S', e1, e2⟩ := phases_ok (INF := 1073741824) (keep := false) tb.at (by omega) hnm n 0 (Hung.start n m) (Hung.start_ok tb.at) (by omega)
    rw [hS] at e1; injection e1 with e1; rw [e1]; exact e2
  refine fn_ofW (N := 230) [.cell 4 47, .tmp 5] tabOK Try.func30 rfl (by kernel_rfl) rfl rfl rfl ?_
  intro E K a w hN hp hs
  change (Code.seq _ _).wp _ _ _ _
  refine wp_seq (W30 hN hs (Q := fun e c' => e = .normal ∧ c' = _) rfl ⟨rfl, rfl⟩ ?_)
  rintro e c1 K1 a1 w1 ⟨rfl, rfl⟩ hs1
  change (Code.seq _ _).wp _ _ _ _
  refine wp_seq (W30 hN hs1 (Q := fun e c' => e = .normal ∧ c' = _) rfl ⟨⟨by omega, by omega⟩, encT t0, get_map (i := 0) h0, rfl, rfl⟩ ?_)
  rintro e c1 K2 a2 w2 ⟨rfl, rfl⟩ hs2
  have hs3 := SRK.only hs2 [2, 3, 4, 5, 6, 7] [32, 48, 64]
  have hs4 : SRK E K2 ⟨[(2, .ovar 32 0), (3, .ovar 48 0), (4, .ovar 64 0), (5, .bool false), (6, I n), (7, I m)], [(32, ⟨22, 1, .any, [[AA T]]⟩), (48, ⟨25, 1, .any, [[A F]]⟩), (64, ⟨47, 4, .any, [plan0]⟩)]⟩ a2 w2 := by
    rw [← htn, ← hl]; exact hs3
  clear hs hs1 hs2 hs3
  change (Code.seq _ _).wp _ _ _ _
  refine wp_seq (W30 hN hs4 (Q := fun e c' => e = .normal ∧ c' = _) rfl ⟨fun h => absurd (of_decide_eq_true h) (by omega), fun _ => ⟨rfl, rfl⟩⟩ ?_)
  rintro e c1 K3 a3 w3 ⟨rfl, rfl⟩ hs5
  change (Code.seq _ _).wp _ _ _ _
  refine wp_seq (W30 hN hs5 (Q := fun e c' => e = .normal ∧ c' = _) rfl ⟨rfl, rfl⟩ ?_)
  rintro e c1 K4 a4 w4 ⟨rfl, rfl⟩ hs6
  have mk : ∀ z : Int, 0 ≤ z → z ≤ 17 → (z = z ∧ 0 ≤ z ∧ (8 : Int) * z ≤ 140737488355328 ∧ z ≤ 9223372036854775807) := by
    intro z _ _; omega
  change (Code.seq _ _).wp _ _ _ _
  refine wp_seq (W30 hN hs6 (Q := fun e c' => e = .normal ∧ c' = _) rfl ⟨((n + 1 : Nat) : Int), wrapTo (by omega) (by omega) (by omega), mk _ (by omega) (by omega), ((m + 1 : Nat) : Int), wrapTo (by omega) (by omega) (by omega), mk _ (by omega) (by omega), rfl, rfl⟩ ?_)
  rintro e c1 K5 a5 w5 ⟨rfl, rfl⟩ hs7
  change (Code.seq _ _).wp _ _ _ _
  refine wp_seq (W30 hN hs7 (Q := fun e c' => e = .normal ∧ c' = _) rfl ⟨((m + 1 : Nat) : Int), wrapTo (by omega) (by omega) (by omega), mk _ (by omega) (by omega), rfl, rfl⟩ ?_)
  rintro e c1 K6 a6 w6 ⟨rfl, rfl⟩ hs8
  change (Code.seq _ _).wp _ _ _ _
  refine wp_seq (wp_seq (W30 hN hs8 (Q := fun e c' => e = .normal ∧ c' = _) rfl ⟨rfl, rfl⟩ ?_))
  rintro e c1 K7 a7 w7 ⟨rfl, rfl⟩ hs9
  have hs10 : SRK E K7 ⟨FB n m (0 + 1), OB T F (Hung.start n m).u (Hung.start n m).v (Hung.start n m).row⟩ a7 w7 := by
    have := SRK.only hs9 [4, 6, 7, 8, 9, 10, 11, 12] [32, 48, 64, 624, 672, 720]
    have r1 : ∀ q, List.replicate q [I 0] = (List.replicate q (0 : Int)).map enc := fun q => by rw [List.map_replicate]; rfl
    have r2 : List.replicate (m + 1) [I 0] = (upN (List.replicate (m + 1) 0)).map enc := by rw [upN, List.map_replicate, List.map_replicate]; rfl
    show SRK E K7 (Cfg.mk _ [(32, _), (48, _), (64, _), (624, (⟨3, 1, .pure, (List.replicate (n + 1) (0 : Int)).map enc⟩ : OBlk)), (672, (⟨3, 1, .pure, (List.replicate (m + 1) (0 : Int)).map enc⟩ : OBlk)), (720, (⟨3, 1, .pure, (upN (List.replicate (m + 1) 0)).map enc⟩ : OBlk))]) a7 w7
    rw [← r1, ← r1, ← r2]
    exact this
  clear hs4 hs5 hs6 hs7 hs8 hs9
  change (Code.block _ _).wp _ _ _ _
  refine wp_block (wp_loop_ghost (fun q a w => ∃ K p s, q = n - p ∧ p ≤ n ∧ Mt (atE T F) n m p 1048576 s ∧ phases (atE T F) m 1073741824 false (n - p) p s = some S ∧ SRK E K ⟨FB n m (p + 1), OB T F s.u s.v s.row⟩ a w) n
    ⟨K7, 0, Hung.start n m, by omega, by omega, start_ok tb.at, hS, hs10⟩ ?_)
  clear hs10
  rintro q a w ⟨K, p, s, rfl, hpn, hM, hph, hs⟩
  change (Code.seq _ _).wp _ _ _ _
  by_cases hlt : p < n
  · refine wp_seq (W30 hN hs (Q := fun e c' => e = .normal ∧ c' = _) rfl ⟨fun _ => ⟨rfl, rfl⟩, fun h => absurd (of_decide_eq_false h) (by omega)⟩ ?_)
    rintro e c1 K1 a1 w1 ⟨rfl, rfl⟩ hs1
    have hs2 : SRK E K1 ⟨FB n m (p + 1), OB T F s.u s.v s.row⟩ a1 w1 := SRK.only hs1 [4, 6, 7, 8, 9, 10, 11, 12] [32, 48, 64, 624, 672, 720]
    rw [show n - p = (n - (p + 1)) + 1 by omega, phases] at hph
    simp only [Bool.false_eq_true, if_false] at hph
    obtain ⟨t, ht, hM'⟩ := phase_ok (INF := 1073741824) (W0 := List.replicate (m + 1) 0) tb.at (by omega) hM hlt hnm ⟨by simp, fun j => by rw [rep_getD]; exact Nat.zero_le _⟩
    rw [ht] at hph
    change (Code.seq _ _).wp _ _ _ _
    refine wp_seq (wp_block (wp_phase hN tb hnm hlt hM ht hs2 ?_))
    intro K2 a2 w2 hs3
    change (Code.region _ _ _).wp _ _ _ _
    refine W30 hN hs3 (Q := fun e c' => e = .normal ∧ c' = _) rfl ⟨((p + 1 + 1 : Nat) : Int), wrapTo (by omega) (by omega) (by omega), rfl, rfl⟩ ?_
    rintro e c1 K3 a3 w3 ⟨rfl, rfl⟩ hs4
    exact ⟨n - (p + 1), by omega, K3, p + 1, t, rfl, by omega, hM', hph, SRK.only hs4 [4, 6, 7, 8, 9, 10, 11, 12] [32, 48, 64, 624, 672, 720]⟩
  · have hpe : p = n := by omega
    subst hpe
    rw [Nat.sub_self, phases] at hph
    injection hph with hph
    subst hph
    refine wp_seq (W30 hN hs (Q := fun e c' => e = .exit 0 ∧ c' = _) rfl ⟨fun h => absurd (of_decide_eq_true h) (by omega), fun _ => ⟨rfl, rfl⟩⟩ ?_)
    rintro e c1 K1 a1 w1 ⟨rfl, rfl⟩ hs1
    have hs2 : SRK E K1 ⟨FB p m (p + 1), OB T F s.u s.v s.row⟩ a1 w1 := SRK.only hs1 [4, 6, 7, 8, 9, 10, 11, 12] [32, 48, 64, 624, 672, 720]
    obtain ⟨K2, hs3⟩ := (Wk.freezeKeep 9 624 (p + 1) _ [4, 6, 7, 8, 9, 10, 11] [32, 48, 64, 672, 720] rfl rfl rfl) E a1 w1 ⟨K1, hs2⟩
    obtain ⟨K3, hs4⟩ := (Wk.freezeKeep 10 672 (m + 1) _ [4, 6, 7, 8, 9, 10, 11] [32, 48, 64, 720] rfl rfl rfl) E a1 w1 ⟨K2, hs3⟩
    have lu := hM.lu
    have lv := hM.lv
    have eu : AV.rsl 1 (p + 1) ((s.u.map enc).take (p + 1)) = A s.u := by rw [List.take_of_length_le (by rw [List.length_map]; omega), ← lu]
    have ev' : AV.rsl 1 (m + 1) ((s.v.map enc).take (m + 1)) = A s.v := by rw [List.take_of_length_le (by rw [List.length_map]; omega), ← lv]
    have hs5 : SRK E K3 ⟨[(4, .ovar 64 0), (6, I p), (7, I m), (8, fn48), (9, A s.u), (10, A s.v), (11, .osl 720 1 (m + 1))], [(32, ⟨22, 1, .any, [[AA T]]⟩), (48, ⟨25, 1, .any, [[A F]]⟩), (64, ⟨47, 4, .any, [plan0]⟩), (720, ⟨3, 1, .pure, (upN s.row).map enc⟩)]⟩ a1 w1 := by
      rw [← eu, ← ev']; exact hs4
    clear hs hs1 hs2 hs3 hs4
    change (Code.seq _ _).wp _ _ _ _
    refine wp_seq (W30 hN hs5 (Q := fun e c' => e = .normal ∧ c' = _) rfl ⟨mk _ (by omega) (by omega), ⟨by omega, by omega⟩, ⟨by omega, by omega⟩, rfl, rfl⟩ ?_)
    rintro e c1 K4 a4 w4 ⟨rfl, rfl⟩ hs6
    have du : AV.rsl 1 (s.u.length - 1) ((s.u.map enc).drop 1) = A (s.u.drop 1) := by rw [A, List.length_drop, List.map_drop]
    have dv : AV.rsl 1 (s.v.length - 1) ((s.v.map enc).drop 1) = A (s.v.drop 1) := by rw [A, List.length_drop, List.map_drop]
    have rc : List.replicate p [I 0] = (List.replicate p (0 : Int)).map enc := by rw [List.map_replicate]; rfl
    have hs7 : SRK E K4 ⟨FC p m, OC T F (upN s.row) (List.replicate p 0) (s.u.drop 1) (s.v.drop 1) 0⟩ a4 w4 := by
      have := SRK.only hs6 [4, 7, 8, 11, 24] [32, 48, 64, 720, 2976, 384]
      show SRK E K4 (Cfg.mk _ [(32, _), (48, _), (64, _), (720, _), (2976, (⟨3, 1, .pure, (List.replicate p (0 : Int)).map enc⟩ : OBlk)), (384, (⟨47, 4, .any, [[.osl 2976 1 (List.replicate p (0 : Int)).length, A (s.u.drop 1), A (s.v.drop 1), I 0]]⟩ : OBlk))]) a4 w4
      rw [← du, ← dv, ← rc, List.length_replicate]
      exact this
    clear hs5 hs6
    change (Code.seq _ _).wp _ _ _ _
    refine wp_seq (W30 hN hs7 rfl (ev_fin (Y := finE (atE T F) s.row m 1 (List.replicate p 0) 0) tb (by simp) hM.lr hM.le rfl) ?_)
    rintro e c1 K5 a5 w5 ⟨rfl, lY, fr, rfl⟩ hs8
    generalize finE (atE T F) s.row m 1 (List.replicate p 0) 0 = Y at *
    have hs9 : SRK E K5 ⟨FC p m, OC T F (upN s.row) Y.1 (s.u.drop 1) (s.v.drop 1) Y.2⟩ a5 w5 := SRK.only hs8 [4, 7, 8, 11, 24] [32, 48, 64, 720, 2976, 384]
    have hs10 := hs9.freezeVar (bv := 384) (b := 2976) (i := 0) rfl rfl rfl
    have eY : AV.rsl 1 Y.1.length ((Y.1.map enc).take Y.1.length) = A Y.1 := by rw [List.take_of_length_le (by rw [List.length_map]; exact Nat.le_refl _)]
    have hs11 : SRK E K5 ⟨FC p m, [(64, ⟨47, 4, .any, [plan0]⟩), (384, ⟨47, 4, .any, [[A Y.1, A (s.u.drop 1), A (s.v.drop 1), I Y.2]]⟩)]⟩ a5 w5 := by
      have := SRK.only hs10 [4, 7, 8, 11, 24] [64, 384]
      rw [← eY]; exact this
    clear hs7 hs8 hs9 hs10
    change (Code.seq _ _).wp _ _ _ _
    refine wp_seq (W30 hN hs11 (Q := fun e c' => e = .normal ∧ c' = _) rfl ⟨rfl, rfl⟩ ?_)
    rintro e c1 K6 a6 w6 ⟨rfl, rfl⟩ hs12
    change Code.ret.wp _ _ _ _
    exact wp_ret ⟨.inr rfl, K6, _, hs12, _, _, rfl, ⟨rfl, rfl⟩, rfl, rfl, trivial⟩
end Go.Abs.L38
