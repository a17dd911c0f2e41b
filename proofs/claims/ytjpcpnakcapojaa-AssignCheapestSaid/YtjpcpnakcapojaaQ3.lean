import Derived.Test.YtjpcpnakcapojaaQ1
import Derived.Test.YtjpcpnakcapojaaP1
import Derived.Test.YtjpcpnakcapojaaP2
namespace Go.Abs.L38
open Go Go.Abs Go.Proofs Go.Abs.Hung
set_option linter.unusedVariables false
set_option maxRecDepth 20000
/-! ### fix (the reference) -/
def tkn (cs : List Int) (i k j : Nat) : Bool := (List.range j).any fun l => cs.getD l 0 == (k : Int) && !(l == i)
theorem tkn_succ (cs : List Int) (i k j : Nat) : tkn cs i k (j + 1) = (tkn cs i k j || (cs.getD j 0 == (k : Int) && !(j == i))) := by
  rw [tkn, List.range_succ, List.any_append]; simp [tkn]
def cutB (cs : List Int) (i k : Nat) : Bool := tkn cs i k cs.length || (decide (i < cs.length) && !(cs.getD i 0 == (k : Int)))
def cutL (t cs : List Int) (i k : Nat) : List Int := (List.range k).map (fun l => if cutB cs i l = true then -1 else t.getD l 0) ++ t.drop k
def fixT (T : List (List Int)) (cs : List Int) : List (List Int) := (List.range T.length).map fun i => cutL (T.getD i []) cs i (T.getD i []).length
theorem cutL_len {t cs : List Int} {i k : Nat} (h : k ≤ t.length) : (cutL t cs i k).length = t.length := by
  rw [cutL, List.length_append, List.length_map, List.length_range, List.length_drop]; omega
theorem cutL_succ {t cs : List Int} {i k : Nat} (h : k < t.length) : cutL t cs i (k + 1) = if cutB cs i k = true then (cutL t cs i k).set k (-1) else cutL t cs i k := by
  have e : t.drop k = t.getD k 0 :: t.drop (k + 1) := by
    rw [List.drop_eq_getElem_cons h, List.getD_eq_getElem?_getD, List.getElem?_eq_getElem h]; rfl
  rw [cutL, cutL, e, List.range_succ, List.map_append, List.append_assoc]
  by_cases hc : cutB cs i k = true
  · rw [if_pos hc, List.set_append_right _ _ (by simp), List.length_map, List.length_range, Nat.sub_self, List.set_cons_zero]
    simp [hc]
  · rw [if_neg hc]
    simp [hc]
abbrev ks36 : List Nat := [0, 1, 4, 5, 6, 7, 8, 9, 10, 11, 12, 13, 14, 15, 16, 24, 25, 26, 28, 29, 30, 31, 42, 58]
theorem W36 {E : Env} (hN : E.N = 69) {K : KM} {fr : List (Nat × AV)} {V : List (Nat × OBlk)} {a : Act} {w : World} {code : Code} {Q : Ex → Cfg → Prop} {Q' : Exit → Act → World → Prop} (hs : SRK E K ⟨fr, V⟩ a w) (hd : drawsOK code = true)
    (h : ev Try.prog tt 69 ks36 code ⟨fr, V⟩ Q) (hQ : ∀ e c' K' a' w', Q e c' → SRK E K' c' a' w' → Q' e.toExit a' w') : code.wp Try.prog Q' a w := by
  refine wp_ev (Tl := []) tabOK tabOne mixed hN TailOK.nil (Apart.nil _) hd h (by rw [List.append_nil]; exact hs) ?_
  intro e c' K' a' w' q h' _
  rw [List.append_nil] at h'
  exact hQ e c' K' a' w' q h'
def row36 : Code → Code
  | .seq _ (.seq _ (.seq (.seq _ (.block _ (.loop (.seq _ (.seq _ (.seq (.block _ c) _)))))) _)) => c
  | c => c
def cut36 (c : Code) : Code := match row36 c with
  | .seq _ (.seq _ (.seq c _)) => c
  | c => c
abbrev F36 (T : List (List Int)) (cs : List Int) (n i m : Nat) : List (Nat × AV) := [(1, A cs), (5, .osl 1056 1 i), (6, I i), (8, .osl 320 1 m), (13, AA T), (14, I n), (15, I i)]
abbrev O36 (rows : List (List AV)) (x : List Int) : List (Nat × OBlk) := [(1056, ⟨25, 1, .flat, rows⟩), (320, ⟨3, 1, .pure, x.map enc⟩)]
set_option maxHeartbeats 4000000 in
theorem ev_cut {T : List (List Int)} {t cs : List Int} {n i m : Nat} {rows : List (List AV)} (hcs : cs.length ≤ 1000) (hi : i ≤ 1000) (hm : t.length = m) (hm2 : m ≤ 1000) :
    ev Try.prog tt 69 ks36 (cut36 (body Try.f36)) ⟨F36 T cs n i m, O36 rows t⟩ fun e c => e = .normal ∧ ∃ fr, c = ⟨F36 T cs n i m ++ fr, O36 rows (cutL t cs i m)⟩ := by
  refine ⟨fun q c => ∃ k : Nat, k ≤ m ∧ q = m - k ∧ c = ⟨F36 T cs n i m ++ [(24, I m), (25, I k)], O36 rows (cutL t cs i k)⟩, ⟨_, _, Wk.keep [1, 5, 6, 8, 13, 14, 15, 24, 25] [1056, 320], 0, by omega, rfl, by simp only [cutL]; rfl⟩, ?_⟩
  rintro q c ⟨k, hk, rfl, rfl⟩
  refine ⟨fun h => ?_, fun h => ?_⟩
  · have h := of_decide_eq_true h
    have hkm : k < m := by omega
    clear h
    refine ⟨fun q c => ∃ j : Nat, j ≤ cs.length ∧ q = cs.length - j ∧ c = ⟨[(1, A cs), (5, .osl 1056 1 i), (6, I i), (8, .osl 320 1 m), (9, I k), (10, .bool (tkn cs i k j)), (13, AA T), (14, I n), (15, I i), (24, I m), (25, I k), (28, A cs), (29, I cs.length), (30, I j)], O36 rows (cutL t cs i k)⟩, ⟨_, _, Wk.keep [1, 5, 6, 8, 9, 10, 13, 14, 15, 24, 25, 28, 29, 30] [1056, 320], 0, by omega, rfl, rfl⟩, ?_⟩
    rintro q c ⟨j, hj, rfl, rfl⟩
    refine ⟨fun h => ?_, fun h => ?_⟩
    · have h := of_decide_eq_true h
      have hjl : j < cs.length := by omega
      clear h
      have rJ := row_at (l := cs) (i := j) hjl
      refine ⟨⟨by omega, by omega⟩, _, rJ, ?_⟩
      by_cases h1 : cs.getD j 0 = (k : Int)
      · have d1 : (cs.getD j 0 == (k : Int)) = true := by simpa using h1
        by_cases h2 : j = i
        · have e : tkn cs i k (j + 1) = tkn cs i k j := by rw [tkn_succ, d1]; simp [h2]
          have d2 : ((j : Int) != (i : Int)) = false := by simp [h2]
          refine ⟨[(3, true)], d1, fun h => (by rw [show _ = false from d2] at h; cases h), fun _ => ?_⟩
          refine ⟨((j + 1 : Nat) : Int), wrapTo (by omega) (by omega) (by omega), _, _, Wk.keep [1, 5, 6, 8, 9, 10, 13, 14, 15, 24, 25, 28, 29, 30] [1056, 320], by omega, j + 1, by omega, rfl, ?_⟩
          rw [e]; rfl
        · have e : tkn cs i k (j + 1) = true := by rw [tkn_succ, d1]; simp [h2]
          have d2 : ((j : Int) != (i : Int)) = true := by simp; omega
          refine ⟨[(3, true)], d1, fun _ => ?_, fun h => (by rw [show _ = true from d2] at h; cases h)⟩
          refine ⟨((j + 1 : Nat) : Int), wrapTo (by omega) (by omega) (by omega), _, _, Wk.keep [1, 5, 6, 8, 9, 10, 13, 14, 15, 24, 25, 28, 29, 30] [1056, 320], by omega, j + 1, by omega, rfl, ?_⟩
          rw [e]; rfl
      · have d1 : (cs.getD j 0 == (k : Int)) = false := by simpa using h1
        have e : tkn cs i k (j + 1) = tkn cs i k j := by rw [tkn_succ, d1]; simp
        refine ⟨[(3, false)], d1, fun h => (by cases h), fun _ => ?_⟩
        refine ⟨((j + 1 : Nat) : Int), wrapTo (by omega) (by omega) (by omega), _, _, Wk.keep [1, 5, 6, 8, 9, 10, 13, 14, 15, 24, 25, 28, 29, 30] [1056, 320], by omega, j + 1, by omega, rfl, ?_⟩
        rw [e]; rfl
    · have h := of_decide_eq_false h
      have hjl : j = cs.length := by omega
      subst hjl
      have rX := row_at (l := cutL t cs i k) (i := k) (by rw [cutL_len (by omega)]; omega)
      have eX : ((cutL t cs i k).map enc).set ((k : Nat) : Int).toNat [I (-1)] = ((cutL t cs i k).set k (-1)).map enc := row_set
      have yes : cutB cs i k = true → cutL t cs i (k + 1) = (cutL t cs i k).set k (-1) := fun h => by rw [cutL_succ (by omega), if_pos h]
      have no : cutB cs i k = false → cutL t cs i (k + 1) = cutL t cs i k := fun h => by rw [cutL_succ (by omega), if_neg (by rw [h]; simp)]
      by_cases ht : tkn cs i k cs.length = true
      · have hb : cutB cs i k = true := by rw [cutB, ht]; rfl
        refine ⟨[(1, true)], ht, fun _ => ?_, fun h => (by cases h)⟩
        refine ⟨⟨by omega, by omega⟩, _, rX, ((k + 1 : Nat) : Int), wrapTo (by omega) (by omega) (by omega), _, _, Wk.keep [1, 5, 6, 8, 13, 14, 15, 24, 25] [1056, 320], by omega, k + 1, by omega, rfl, ?_⟩
        rw [yes hb]
        show _ = Cfg.mk _ [(1056, _), (320, (⟨3, 1, .pure, ((cutL t cs i k).set k (-1)).map enc⟩ : OBlk))]
        rw [← eX]; rfl
      · have ht : tkn cs i k cs.length = false := by simpa using ht
        by_cases hl : i < cs.length
        · have d3 : decide ((i : Int) < ((cs.length : Nat) : Int)) = true := by simp; omega
          have rI := row_at (l := cs) (i := i) hl
          by_cases h4 : cs.getD i 0 = (k : Int)
          · have hb : cutB cs i k = false := by
              have : (cs.getD i 0 == (k : Int)) = true := by simpa using h4
              rw [cutB, ht, this]; simp
            have d4 : (cs.getD i 0 != (k : Int)) = false := by rw [h4]; simp
            refine ⟨[(1, false), (6, true)], ht, d3, ⟨by omega, by omega⟩, _, rI, fun h => (by rw [show _ = false from d4] at h; cases h), fun _ => ?_⟩
            refine ⟨((k + 1 : Nat) : Int), wrapTo (by omega) (by omega) (by omega), _, _, Wk.keep [1, 5, 6, 8, 13, 14, 15, 24, 25] [1056, 320], by omega, k + 1, by omega, rfl, ?_⟩
            rw [no hb]; rfl
          · have hb : cutB cs i k = true := by
              have : (cs.getD i 0 == (k : Int)) = false := by simpa using h4
              rw [cutB, ht, this]; simp [hl]
            have d4 : (cs.getD i 0 != (k : Int)) = true := by simpa using h4
            refine ⟨[(1, false), (6, true)], ht, d3, ⟨by omega, by omega⟩, _, rI, fun _ => ?_, fun h => (by rw [show _ = true from d4] at h; cases h)⟩
            refine ⟨⟨by omega, by omega⟩, _, rX, ((k + 1 : Nat) : Int), wrapTo (by omega) (by omega) (by omega), _, _, Wk.keep [1, 5, 6, 8, 13, 14, 15, 24, 25] [1056, 320], by omega, k + 1, by omega, rfl, ?_⟩
            rw [yes hb]
            show _ = Cfg.mk _ [(1056, _), (320, (⟨3, 1, .pure, ((cutL t cs i k).set k (-1)).map enc⟩ : OBlk))]
            rw [← eX]; rfl
        · have d3 : decide ((i : Int) < ((cs.length : Nat) : Int)) = false := by simp; omega
          have hb : cutB cs i k = false := by
            rw [cutB, ht]; simp [hl]
          refine ⟨[(1, false), (6, false)], ht, d3, fun h => (by cases h), fun _ => ?_⟩
          refine ⟨((k + 1 : Nat) : Int), wrapTo (by omega) (by omega) (by omega), _, _, Wk.keep [1, 5, 6, 8, 13, 14, 15, 24, 25] [1056, 320], by omega, k + 1, by omega, rfl, ?_⟩
          rw [no hb]; rfl
  · have h := of_decide_eq_false h
    have hk : k = m := by omega
    subst hk
    exact ⟨rfl, _, rfl⟩
theorem c36 (T : List (List Int)) (cs : List Int) (hn : 1 ≤ T.length ∧ T.length ≤ 1000) (hTb : ∀ t ∈ T, t.length ≤ 1000) (hcs : cs.length ≤ 1000) : Fn Try.prog 36 [AA T, A cs] (fAA (fixT T cs)) := by
  refine fn_ofW (N := 69) [.tmp 4] tabOK Try.func36 rfl (by kernel_rfl) rfl rfl rfl ?_
  intro E K a w hN hp hs
  change (Code.seq _ _).wp _ _ _ _
  refine wp_seq (W36 hN hs (Q := fun e c' => e = .normal ∧ c' = _) rfl ⟨rfl, rfl⟩ ?_)
  rintro e c1 K1 a1 w1 ⟨rfl, rfl⟩ hs1
  change (Code.seq _ _).wp _ _ _ _
  refine wp_seq (W36 hN hs1 (Q := fun e c' => e = .normal ∧ c' = _) rfl ⟨rfl, rfl⟩ ?_)
  rintro e c1 K2 a2 w2 ⟨rfl, rfl⟩ hs2
  change (Code.seq _ _).wp _ _ _ _
  refine wp_seq (wp_seq (W36 hN hs2 (Q := fun e c' => e = .normal ∧ c' = _) rfl ⟨rfl, rfl⟩ ?_))
  rintro e c1 K3 a3 w3 ⟨rfl, rfl⟩ hs3
  obtain ⟨K4, hs4⟩ := (Wk.nilKeep 5 1056 ⟨25, 1, .flat, []⟩ [1, 5, 13, 14, 15] [1056] rfl rfl rfl) E a3 w3 ⟨K3, hs3⟩
  have hs5 : SRK E K4 ⟨[(1, A cs), (5, .osl 1056 1 0), (13, AA T), (14, I T.length), (15, I ((0 : Nat) : Int))], [(1056, ⟨25, 1, .flat, ((List.range 0).map fun i => cutL (T.getD i []) cs i (T.getD i []).length).map encT⟩)]⟩ a3 w3 := hs4
  clear hs hs1 hs2 hs3 hs4
  change (Code.block _ _).wp _ _ _ _
  refine wp_block (wp_loop_ghost (fun q a w => ∃ K i, q = T.length - i ∧ i ≤ T.length ∧ SRK E K ⟨[(1, A cs), (5, .osl 1056 1 i), (13, AA T), (14, I T.length), (15, I i)], [(1056, ⟨25, 1, .flat, ((List.range i).map fun i => cutL (T.getD i []) cs i (T.getD i []).length).map encT⟩)]⟩ a w) T.length
    ⟨K4, 0, by omega, by omega, hs5⟩ ?_)
  clear hs5
  rintro q a w ⟨K, i, rfl, hi, hs⟩
  change (Code.seq _ _).wp _ _ _ _
  refine wp_seq (W36 hN hs (Q := fun e c' => e = .normal ∧ c' = _) rfl ⟨rfl, rfl⟩ ?_)
  rintro e c1 K1 a1 w1 ⟨rfl, rfl⟩ hs1
  change (Code.seq _ _).wp _ _ _ _
  by_cases hlt : i < T.length
  · refine wp_seq (W36 hN hs1 (Q := fun e c' => e = .normal ∧ c' = _) rfl ⟨fun _ => ⟨rfl, rfl⟩, fun h => absurd (of_decide_eq_false h) (by omega)⟩ ?_)
    rintro e c1 K2 a2 w2 ⟨rfl, rfl⟩ hs2
    have hTi : T.getD i [] ∈ T := by rw [List.getD_eq_getElem?_getD, List.getElem?_eq_getElem hlt]; simp
    have hl := hTb _ hTi
    have rT := rowT_at (T := T) hlt
    change (Code.seq _ _).wp _ _ _ _
    refine wp_seq (wp_block ?_)
    change (Code.seq _ _).wp _ _ _ _
    refine wp_seq (W36 hN hs2 (Q := fun e c' => e = .normal ∧ c' = _) rfl ⟨⟨by omega, by omega⟩, _, rT, rfl, rfl⟩ ?_)
    rintro e c1 K3 a3 w3 ⟨rfl, rfl⟩ hs3
    change (Code.seq _ _).wp _ _ _ _
    refine wp_seq (W36 hN hs3 (Q := fun e c' => e = .normal ∧ c' = _) rfl ⟨⟨by show (0 + (T.getD i []).length) * 8 ≤ _; omega, by omega⟩, scal _, rfl, rfl⟩ ?_)
    rintro e c1 K4 a4 w4 ⟨rfl, rfl⟩ hs4
    have hs5 : SRK E K4 ⟨F36 T cs T.length i (T.getD i []).length, O36 (((List.range i).map fun i => cutL (T.getD i []) cs i (T.getD i []).length).map encT) (T.getD i [])⟩ a4 w4 := by
      have := SRK.only hs4 [1, 5, 6, 8, 13, 14, 15] [1056, 320]
      have e0 : AV.osl 320 1 (0 + (T.getD i []).length) = .osl 320 1 (T.getD i []).length := by rw [Nat.zero_add]
      have e1 : ((T.getD i []).map enc).take (T.getD i []).length = (T.getD i []).map enc := List.take_of_length_le (by simp)
      show SRK E K4 ⟨[(1, A cs), (5, .osl 1056 1 i), (6, I i), (8, .osl 320 1 (T.getD i []).length), (13, AA T), (14, I T.length), (15, I i)], [(1056, _), (320, ⟨3, 1, .pure, (T.getD i []).map enc⟩)]⟩ a4 w4
      rw [← e0]
      exact this
    clear hs hs1 hs2 hs3 hs4
    change (Code.seq _ _).wp _ _ _ _
    refine wp_seq (W36 hN hs5 rfl (ev_cut hcs (by omega) rfl hl) ?_)
    rintro e c1 K5 a5 w5 ⟨rfl, fr, rfl⟩ hs6
    have lc := cutL_len (t := T.getD i []) (cs := cs) (i := i) (Nat.le_refl (T.getD i []).length)
    obtain ⟨K6, hs7⟩ := (Wk.freezeKeep 8 320 (T.getD i []).length ⟨3, 1, .pure, (cutL (T.getD i []) cs i (T.getD i []).length).map enc⟩ [1, 5, 8, 13, 14, 15] [1056] rfl rfl rfl) E a5 w5 ⟨K5, hs6⟩
    have hs8 : SRK E K6 ⟨[(1, A cs), (5, .osl 1056 1 i), (8, A (cutL (T.getD i []) cs i (T.getD i []).length)), (13, AA T), (14, I T.length), (15, I i)], [(1056, ⟨25, 1, .flat, ((List.range i).map fun i => cutL (T.getD i []) cs i (T.getD i []).length).map encT⟩)]⟩ a5 w5 := by
      have e : AV.rsl 1 (T.getD i []).length (((cutL (T.getD i []) cs i (T.getD i []).length).map enc).take (T.getD i []).length) = A (cutL (T.getD i []) cs i (T.getD i []).length) := by
        rw [List.take_of_length_le (by rw [List.length_map, lc]; exact Nat.le_refl _), A, lc]
      rw [← e]; exact hs7
    clear hs5 hs6 hs7
    change (Code.region _ _ _).wp _ _ _ _
    refine W36 hN hs8 (Q := fun e c' => e = .normal ∧ c' = _) rfl ⟨⟨by show (i + 1) * 24 ≤ _; omega, by omega⟩, rfl, rfl⟩ ?_
    rintro e c1 K7 a7 w7 ⟨rfl, rfl⟩ hs9
    change (Code.region _ _ _).wp _ _ _ _
    refine W36 hN hs9 (Q := fun e c' => e = .normal ∧ c' = _) rfl ⟨((i + 1 : Nat) : Int), wrapTo (by omega) (by omega) (by omega), rfl, rfl⟩ ?_
    rintro e c1 K8 a8 w8 ⟨rfl, rfl⟩ hs10
    refine ⟨T.length - (i + 1), by omega, K8, i + 1, rfl, by omega, ?_⟩
    have := SRK.only hs10 [1, 5, 13, 14, 15] [1056]
    have e2 : (((List.range i).map fun i => cutL (T.getD i []) cs i (T.getD i []).length).map encT).take i ++ [encT (cutL (T.getD i []) cs i (T.getD i []).length)] = ((List.range (i + 1)).map fun i => cutL (T.getD i []) cs i (T.getD i []).length).map encT := by
      rw [List.take_of_length_le (by simp), List.range_succ, List.map_append, List.map_append]; rfl
    rw [← e2]
    exact this
  · have hie : i = T.length := by omega
    subst hie
    refine wp_seq (W36 hN hs1 (Q := fun e c' => e = .exit 0 ∧ c' = _) rfl ⟨fun h => absurd (of_decide_eq_true h) (by omega), fun _ => ⟨rfl, rfl⟩⟩ ?_)
    rintro e c1 K2 a2 w2 ⟨rfl, rfl⟩ hs2
    refine W36 hN hs2 (Q := retQ tt [.tmp 4] (fAA (fixT T cs))) rfl ?_ ?_
    · exact ⟨rfl, _, rfl, rfl, by simp, .inr ⟨rfl, by show AV.fsl false 25 1 (fixT T cs).length _ = AV.fsl false 25 1 T.length _; rw [fixT, List.length_map, List.length_range]⟩⟩
    intro e c1 K4 a4 w4 hq hs6
    cases e with
    | normal => exact ⟨.inl rfl, K4, c1, hs6, hq⟩
    | exit id => exact absurd hq (fun h => h)
    | ret => exact ⟨.inr rfl, K4, c1, hs6, hq⟩
end Go.Abs.L38
namespace Go.Abs.L38
open Go Go.Abs Go.Proofs Go.Abs.Hung
set_option linter.unusedVariables false
set_option maxRecDepth 20000
/-! ### the tables that fix makes -/
theorem fixT_len (T : List (List Int)) (cs : List Int) : (fixT T cs).length = T.length := by rw [fixT, List.length_map, List.length_range]
theorem fixT_row {T : List (List Int)} {cs : List Int} {i : Nat} (hi : i < T.length) : (fixT T cs).getD i [] = cutL (T.getD i []) cs i (T.getD i []).length := by
  rw [fixT, List.getD_eq_getElem?_getD, List.getElem?_map, List.getElem?_range hi]; rfl
theorem cutL_at {t cs : List Int} {i k : Nat} (hk : k < t.length) : (cutL t cs i t.length).getD k 0 = if cutB cs i k = true then -1 else t.getD k 0 := by
  rw [cutL, List.drop_length, List.append_nil, List.getD_eq_getElem?_getD, List.getElem?_map, List.getElem?_range hk]; rfl
theorem fix_tb {T : List (List Int)} {cs : List Int} {n m : Nat} {F : List Int} (tb : Tb T F n m) : Tb (fixT T cs) (freeL (fixT T cs)) n m := by
  refine ⟨by rw [fixT_len, tb.hn], by rw [List.length_replicate, fixT_len, tb.hn], fun t ht => ?_, fun t ht c hc => ?_, tb.h1, tb.h2⟩
  · obtain ⟨i, hi, rfl⟩ := List.mem_map.1 ht
    have hi := List.mem_range.1 hi
    rw [cutL_len (Nat.le_refl _), List.getD_eq_getElem?_getD, List.getElem?_eq_getElem hi]
    exact tb.hT _ (List.getElem_mem hi)
  · obtain ⟨i, hi, rfl⟩ := List.mem_map.1 ht
    rw [cutL, List.drop_length, List.append_nil] at hc
    obtain ⟨k, hk, rfl⟩ := List.mem_map.1 hc
    split
    · omega
    · exact tab_le tb i k
theorem fix_at {T : List (List Int)} {cs : List Int} {n m : Nat} {F : List Int} (tb : Tb T F n m) {i k : Nat} (hi : i < n) (hk : k < m) : ((fixT T cs).getD i []).getD k 0 = if cutB cs i k = true then -1 else (T.getD i []).getD k 0 := by
  have hi' : i < T.length := by rw [tb.hn]; exact hi
  have hl : (T.getD i []).length = m := by
    rw [List.getD_eq_getElem?_getD, List.getElem?_eq_getElem hi']
    exact tb.hT _ (List.getElem_mem hi')
  rw [fixT_row hi', cutL_at (by rw [hl]; exact hk)]
theorem cut_no {cs : List Int} {n m : Nat} {g : Nat → Nat} (hg : Asg n m g) (hl : cs.length ≤ n) (hcs : ∀ j, j < cs.length → cs.getD j 0 = (g j : Int)) {i : Nat} (hi : i < n) : cutB cs i (g i) = false := by
  rw [cutB, Bool.or_eq_false_iff]
  constructor
  · rw [tkn, List.any_eq_false]
    intro j hj
    have hj := List.mem_range.1 hj
    rw [hcs j hj]
    by_cases e : j = i
    · simp [e]
    · have : g j ≠ g i := fun h => e (hg.inj j i (by omega) hi h)
      simp [e]; omega
  · by_cases h : i < cs.length
    · rw [hcs i h]; simp
    · simp [h]
theorem fix_feas {T : List (List Int)} {cs : List Int} {n m : Nat} {g : Nat → Nat} (tb : Tb T (freeL T) n m) (hl : cs.length ≤ n) : Feas (fixT T cs) (freeL (fixT T cs)) n m g ↔ Feas T (freeL T) n m g ∧ ∀ j, j < cs.length → cs.getD j 0 = (g j : Int) := by
  have hn := tb.hn
  subst hn
  have hfl := fixT_len T cs
  have e1 : Feas (fixT T cs) (freeL (fixT T cs)) T.length m g ↔ Asg T.length m g ∧ ∀ i, i < T.length → 0 ≤ ((fixT T cs).getD i []).getD (g i) 0 := by
    have := feas_free (T := fixT T cs) (m := m) (g := g)
    rw [hfl] at this
    exact this
  rw [e1, feas_free]
  constructor
  · rintro ⟨h1, h2⟩
    have nc : ∀ i, i < T.length → cutB cs i (g i) = false ∧ 0 ≤ (T.getD i []).getD (g i) 0 := by
      intro i hi
      have := h2 i hi
      rw [fix_at tb hi (h1.lt i hi)] at this
      by_cases hc : cutB cs i (g i) = true
      · rw [if_pos hc] at this; omega
      · rw [if_neg hc] at this
        exact ⟨by simpa using hc, this⟩
    refine ⟨⟨h1, fun i hi => (nc i hi).2⟩, fun j hj => ?_⟩
    have := (nc j (by omega)).1
    rw [cutB, Bool.or_eq_false_iff] at this
    have h3 := this.2
    simp [hj] at h3
    rw [List.getD_eq_getElem?_getD, List.getElem?_eq_getElem hj]; exact h3
  · rintro ⟨⟨h1, h2⟩, h3⟩
    refine ⟨h1, fun i hi => ?_⟩
    rw [fix_at tb hi (h1.lt i hi), cut_no h1 hl h3 hi]
    simpa using h2 i hi
theorem fix_cost {T : List (List Int)} {cs : List Int} {n m : Nat} {g : Nat → Nat} (tb : Tb T (freeL T) n m) (hl : cs.length ≤ n) (h : Feas (fixT T cs) (freeL (fixT T cs)) n m g) : costT (fixT T cs) n g = costT T n g := by
  obtain ⟨h1, h2⟩ := (fix_feas tb hl).1 h
  refine sm_congr fun i hi => ?_
  have hi := List.mem_range.1 hi
  rw [fix_at tb hi (h1.asg.lt i hi), cut_no h1.asg hl h2 hi]; rfl
theorem pre_get {g : Nat → Nat} {i k j : Nat} (hj : j < i + 1) : (upN ((List.range i).map g ++ [k])).getD j 0 = if j < i then ((g j : Nat) : Int) else (k : Int) := by
  rw [upN_at, List.getD_eq_getElem?_getD]
  by_cases h : j < i
  · rw [if_pos h, List.getElem?_append_left (by simpa using h), List.getElem?_map, List.getElem?_range h]; rfl
  · rw [if_neg h, show j = i by omega, List.getElem?_append_right (by simp)]; simp
theorem fix_best {T : List (List Int)} {t0 : List Int} (R : TabR T t0) {g : Nat → Nat} (C : Chp T t0.length g) {i k : Nat} (hi : i < T.length) :
    (okP (fixT T (upN ((List.range i).map g ++ [k]))) (freeL (fixT T (upN ((List.range i).map g ++ [k])))) T.length t0.length = true ∧ leaC (fixT T (upN ((List.range i).map g ++ [k]))) T.length t0.length = chpC T) ↔ ∃ g', Feas T (freeL T) T.length t0.length g' ∧ costT T T.length g' = chpC T ∧ (∀ l, l < i → g l = g' l) ∧ g' i = k := by
  have tb := tb_of R (F := freeL T) (by simp)
  have tb' := fix_tb (cs := upN ((List.range i).map g ++ [k])) tb
  have hl : (upN ((List.range i).map g ++ [k])).length = i + 1 := by simp
  have hp : ∀ j, j < i + 1 → (upN ((List.range i).map g ++ [k])).getD j 0 = if j < i then ((g j : Nat) : Int) else (k : Int) := fun j hj => pre_get hj
  generalize upN ((List.range i).map g ++ [k]) = cs at *
  constructor
  · rintro ⟨h1, h2⟩
    rw [leaC, if_pos h1] at h2
    obtain ⟨g', h3, h4⟩ := ok_feas tb' h1
    obtain ⟨h5, h6⟩ := (fix_feas tb (by omega)).1 h3
    refine ⟨g', h5, by rw [← fix_cost tb (by omega) h3, h4, h2], fun l hl2 => ?_, ?_⟩
    · have := h6 l (by omega)
      rw [hp l (by omega), if_pos hl2] at this
      exact_mod_cast this
    · have := h6 i (by omega)
      rw [hp i (by omega), if_neg (by omega)] at this
      exact_mod_cast this.symm
  · rintro ⟨g', h1, h2, h3, h4⟩
    have h5 : Feas (fixT T cs) (freeL (fixT T cs)) T.length t0.length g' := by
      refine (fix_feas tb (by omega)).2 ⟨h1, fun j hj => ?_⟩
      rw [hp j (by omega)]
      split
      · rename_i h; rw [h3 j h]
      · rw [show j = i by omega, h4]
    obtain ⟨h6, h7⟩ := feas_ok tb' h5
    obtain ⟨g2, h8, h9⟩ := ok_feas tb' h6
    have h10 := C.least g2 ((fix_feas tb (by omega)).1 h8).1
    rw [← fix_cost tb (by omega) h8, h9] at h10
    rw [fix_cost tb (by omega) h5, h2] at h7
    refine ⟨h6, ?_⟩
    rw [leaC, if_pos h6]; omega
end Go.Abs.L38
namespace Go.Abs.L38
open Go Go.Abs Go.Proofs Go.Abs.Hung
set_option linter.unusedVariables false
set_option maxRecDepth 20000
theorem c35 (l : List Int) (hl : l.length ≤ 9223372036854775807) (x : Int) : Fn Try.prog 35 [A l, I x] (.bool (l.any (· == x))) := by
  refine mk35 rfl ⟨fun q c => ∃ i : Nat, i ≤ l.length ∧ q = l.length - i ∧ (l.drop i).any (· == x) = l.any (· == x) ∧ c = ⟨[(1, I x), (4, .bool false), (7, A l), (8, I l.length), (9, I i)], []⟩, ⟨_, _, Wk.keep [1, 4, 7, 8, 9] [], 0, by omega, rfl, rfl, rfl⟩, ?_⟩
  rintro q c ⟨i, hi, rfl, hA, rfl⟩
  refine ⟨fun h => ?_, fun h => ?_⟩
  · have h : i < l.length := by have := of_decide_eq_true h; omega
    obtain ⟨a, ha, hd, _⟩ := drop_cons h
    rw [hd, List.any_cons] at hA
    refine ⟨⟨by omega, by omega⟩, enc a, get_map ha, fun h2 => ?_, fun h2 => ?_⟩
    · have h2 : (a == x) = true := h2
      rw [h2, Bool.true_or] at hA
      rw [← hA]; exact ⟨rfl, rfl, rfl⟩
    · have h2 : (a == x) = false := h2
      rw [h2, Bool.false_or] at hA
      exact ⟨((i + 1 : Nat) : Int), wrapTo (by omega) (by omega) (by omega), _, _, Wk.keep [1, 4, 7, 8, 9] [], by omega, i + 1, h, rfl, hA, rfl⟩
  · have h : i = l.length := by have := of_decide_eq_false h; omega
    subst h
    rw [List.drop_length, List.any_nil] at hA
    rw [← hA]; exact ⟨rfl, rfl, rfl⟩
abbrev ks15 : List Nat := [0, 2, 3, 4, 6, 7, 8, 9, 10, 12, 13, 16, 24, 26, 27, 28, 32, 33, 34, 55, 69]
theorem W15 {E : Env} (hN : E.N = 75) {K : KM} {fr : List (Nat × AV)} {V : List (Nat × OBlk)} {a : Act} {w : World} {code : Code} {Q : Ex → Cfg → Prop} {Q' : Exit → Act → World → Prop} (hs : SRK E K ⟨fr, V⟩ a w) (hd : drawsOK code = true)
    (h : ev Try.prog tt 75 ks15 code ⟨fr, V⟩ Q) (hQ : ∀ e c' K' a' w', Q e c' → SRK E K' c' a' w' → Q' e.toExit a' w') : code.wp Try.prog Q' a w := by
  refine wp_ev (Tl := []) tabOK tabOne mixed hN TailOK.nil (Apart.nil _) hd h (by rw [List.append_nil]; exact hs) ?_
  intro e c' K' a' w' q h' _
  rw [List.append_nil] at h'
  exact hQ e c' K' a' w' q h'
abbrev FO15 (T : List (List Int)) (s : Int) (L : List Nat) (i : Nat) : List (Nat × AV) := [(0, AA T), (6, I s), (8, A (upN L)), (26, I T.length), (27, I i)]
abbrev FN15 (T : List (List Int)) (s : Int) (L : List Nat) (i m k : Nat) : List (Nat × AV) := [(0, AA T), (6, I s), (8, A (upN L)), (26, I T.length), (27, I i), (32, I m), (33, I k)]
def nxt15 : Code → Code
  | .seq _ (.seq _ (.seq _ (.seq _ (.seq _ (.seq (.seq _ (.block _ (.loop (.seq _ (.seq _ (.seq (.block _ (.seq _ (.block _ (.loop (.seq _ (.seq _ (.seq _ c)))))) ) _)))))) _))))) => c
  | c => c
theorem nx15 {E : Env} (hN : E.N = 75) {T : List (List Int)} {s : Int} {L : List Nat} {i m k : Nat} {K : KM} {a : Act} {w : World} {Q : Exit → Act → World → Prop} (hs : SRK E K ⟨FN15 T s L i m k, []⟩ a w) (hk : (k : Int) ≤ 1000)
    (hQ : ∀ K' a' w', SRK E K' ⟨FN15 T s L i m (k + 1), []⟩ a' w' → Q .normal a' w') : (nxt15 (body Try.f15)).wp Try.prog Q a w := by
  change (Code.region _ _ _).wp _ _ _ _
  refine W15 hN hs (Q := fun e c' => e = .normal ∧ c' = _) rfl ⟨((k + 1 : Nat) : Int), wrapTo (by omega) (by omega) (by omega), rfl, rfl⟩ ?_
  rintro e c1 K3 a3 w3 ⟨rfl, rfl⟩ hs4
  exact hQ K3 a3 w3 (SRK.only hs4 [0, 6, 8, 26, 27, 32, 33] [])
set_option maxHeartbeats 4000000 in
theorem c15w {T : List (List Int)} (hT : T.length ≤ 9223372036854775807) (hTb : ∀ b ∈ T, b.length ≤ 9223372036854775807) {t0 : List Int} (R : TabR T t0) {g : Nat → Nat} (C : Chp T t0.length g) (hc : chkE T = 0) (ho : okP T (freeL T) T.length t0.length = true) (hsum : leaC T T.length t0.length = chpC T) : Fn Try.prog 15 [AA T] (.tup [A (chpL T), I (chpC T), I 0]) := by
  have hn := R.n
  have hm := R.m
  have kc := c27 T hT hTb
  rw [hc] at kc
  have tb := tb_of R (F := freeL T) (by simp)
  have k34 := c34 tb
  rw [ho, hsum] at k34
  refine fn_ofW (N := 75) [.tmp 2, .tmp 3, .tmp 4] tabOK Try.func15 rfl (by kernel_rfl) rfl rfl rfl ?_
  intro E K a w hN hp hs
  change (Code.seq _ _).wp _ _ _ _
  refine wp_seq (W15 hN hs (Q := fun e c' => e = .normal ∧ c' = _) rfl ⟨rfl, rfl⟩ ?_)
  rintro e c1 K1 a1 w1 ⟨rfl, rfl⟩ hs1
  change (Code.seq _ _).wp _ _ _ _
  refine wp_seq (W15 hN hs1 (Q := fun e c' => e = .normal ∧ c' = _) rfl ⟨_, kc, fun h => (by cases h), fun _ => ⟨rfl, rfl⟩⟩ ?_)
  rintro e c1 K2 a2 w2 ⟨rfl, rfl⟩ hs2
  change (Code.seq _ _).wp _ _ _ _
  refine wp_seq (W15 hN hs2 (Q := fun e c' => e = .normal ∧ c' = _) rfl ⟨_, k34, rfl, rfl⟩ ?_)
  rintro e c1 K3 a3 w3 ⟨rfl, rfl⟩ hs3
  change (Code.seq _ _).wp _ _ _ _
  refine wp_seq (W15 hN hs3 (Q := fun e c' => e = .normal ∧ c' = _) rfl ⟨fun h => (by cases h), fun _ => ⟨rfl, rfl⟩⟩ ?_)
  rintro e c1 K4 a4 w4 ⟨rfl, rfl⟩ hs4
  change (Code.seq _ _).wp _ _ _ _
  refine wp_seq (W15 hN hs4 (Q := fun e c' => e = .normal ∧ c' = _) rfl ⟨rfl, rfl⟩ ?_)
  rintro e c1 K5 a5 w5 ⟨rfl, rfl⟩ hs5
  change (Code.seq _ _).wp _ _ _ _
  refine wp_seq (wp_seq (W15 hN hs5 (Q := fun e c' => e = .normal ∧ c' = _) rfl ⟨rfl, rfl⟩ ?_))
  rintro e c1 K6 a6 w6 ⟨rfl, rfl⟩ hs6
  obtain ⟨K7, hs7⟩ := ((Wk.nilKeep 8 656 ⟨3, 1, .pure, []⟩ [0, 6, 8, 26, 27] [656] rfl rfl rfl).trans (Wk.freezeKeep 8 656 0 ⟨3, 1, .pure, []⟩ [0, 6, 8, 26, 27] [] rfl rfl rfl)) E a6 w6 ⟨K6, hs6⟩
  have hs8 : SRK E K7 ⟨FO15 T (chpC T) ((List.range 0).map g) 0, []⟩ a6 w6 := hs7
  clear hs hs1 hs2 hs3 hs4 hs5 hs6 hs7
  change (Code.block _ _).wp _ _ _ _
  refine wp_block (wp_loop_ghost (fun q a w => ∃ K i, q = T.length - i ∧ i ≤ T.length ∧ SRK E K ⟨FO15 T (chpC T) ((List.range i).map g) i, []⟩ a w) T.length
    ⟨K7, 0, by omega, by omega, hs8⟩ ?_)
  clear hs8
  rintro q a w ⟨K, i, rfl, hi, hs⟩
  change (Code.seq _ _).wp _ _ _ _
  refine wp_seq (W15 hN hs (Q := fun e c' => e = .normal ∧ c' = _) rfl ⟨rfl, rfl⟩ ?_)
  rintro e c1 K1 a1 w1 ⟨rfl, rfl⟩ hs1
  change (Code.seq _ _).wp _ _ _ _
  by_cases hin : i < T.length
  · have hgi := C.feas.asg.lt i hin
    refine wp_seq (W15 hN hs1 (Q := fun e c' => e = .normal ∧ c' = _) rfl ⟨fun _ => ⟨rfl, rfl⟩, fun h => absurd (of_decide_eq_false h) (by omega)⟩ ?_)
    rintro e c1 K2 a2 w2 ⟨rfl, rfl⟩ hs2
    change (Code.seq _ _).wp _ _ _ _
    refine wp_seq (wp_block ?_)
    change (Code.seq _ _).wp _ _ _ _
    refine wp_seq (W15 hN hs2 (Q := fun e c' => e = .normal ∧ c' = _) rfl ⟨⟨by omega, by omega⟩, encT t0, get_map (i := 0) R.head, rfl, rfl⟩ ?_)
    rintro e c1 K3 a3 w3 ⟨rfl, rfl⟩ hs3
    have hs4 : SRK E K3 ⟨FN15 T (chpC T) ((List.range i).map g) i t0.length 0, []⟩ a3 w3 := SRK.only hs3 [0, 6, 8, 26, 27, 32, 33] []
    clear hs hs1 hs2 hs3
    change (Code.block _ _).wp _ _ _ _
    refine wp_block (wp_loop_ghost (fun q a w => ∃ K k, q = t0.length - k ∧ k ≤ g i ∧ SRK E K ⟨FN15 T (chpC T) ((List.range i).map g) i t0.length k, []⟩ a w) t0.length
      ⟨K3, 0, by omega, by omega, hs4⟩ ?_)
    clear hs4
    rintro q a w ⟨K, k, rfl, hk, hs⟩
    have hcl : (upN ((List.range i).map g)).length = i := by simp
    change (Code.seq _ _).wp _ _ _ _
    refine wp_seq (W15 hN hs (Q := fun e c' => e = .normal ∧ c' = _) rfl ⟨rfl, rfl⟩ ?_)
    rintro e c1 K1 a1 w1 ⟨rfl, rfl⟩ hs1
    change (Code.seq _ _).wp _ _ _ _
    refine wp_seq (W15 hN hs1 (Q := fun e c' => e = .normal ∧ c' = _) rfl ⟨fun _ => ⟨rfl, rfl⟩, fun h => absurd (of_decide_eq_false h) (by omega)⟩ ?_)
    rintro e c1 K2 a2 w2 ⟨rfl, rfl⟩ hs2
    have hs3 : SRK E K2 ⟨FN15 T (chpC T) ((List.range i).map g) i t0.length k, []⟩ a2 w2 := SRK.only hs2 [0, 6, 8, 26, 27, 32, 33] []
    clear hs hs1 hs2
    change (Code.seq _ _).wp _ _ _ _
    refine wp_seq (wp_block ?_)
    change (Code.seq _ _).wp _ _ _ _
    refine wp_seq (W15 hN hs3 (Q := fun e c' => e = .normal ∧ c' = _) rfl ⟨rfl, rfl⟩ ?_)
    rintro e c1 K3 a3 w3 ⟨rfl, rfl⟩ hs4
    change (Code.seq _ _).wp _ _ _ _
    refine wp_seq (W15 hN hs4 (Q := fun e c' => e = .normal ∧ c' = _) rfl ⟨⟨by show (0 + (upN ((List.range i).map g)).length) * 8 ≤ _; omega, by omega⟩, scal _, ⟨by show (0 + (upN ((List.range i).map g)).length + 1) * 8 ≤ _; omega, by omega⟩, rfl, rfl⟩ ?_)
    rintro e c1 K4 a4 w4 ⟨rfl, rfl⟩ hs5
    obtain ⟨K5, hs6⟩ := (Wk.freezeKeep 10 576 _ _ [0, 6, 8, 9, 10, 26, 27, 32, 33] [] rfl rfl rfl) E a4 w4 ⟨K4, hs5⟩
    have hs7 : SRK E K5 ⟨[(0, AA T), (6, I (chpC T)), (8, A (upN ((List.range i).map g))), (9, I k), (10, A (upN ((List.range i).map g ++ [k]))), (26, I T.length), (27, I i), (32, I t0.length), (33, I k)], []⟩ a4 w4 := by
      have e36 : ((upN ((List.range i).map g)).map enc).take (0 + (upN ((List.range i).map g)).length) ++ [[I k]] = (upN ((List.range i).map g ++ [k])).map enc := by
        rw [List.take_of_length_le (by simp), upN, upN, List.map_append, List.map_append]; rfl
      have hl2 : (upN ((List.range i).map g ++ [k])).length = 0 + (upN ((List.range i).map g)).length + 1 := by simp
      have e : AV.rsl 1 (0 + (upN ((List.range i).map g)).length + 1) ((((upN ((List.range i).map g)).map enc).take (0 + (upN ((List.range i).map g)).length) ++ [[I k]]).take (0 + (upN ((List.range i).map g)).length + 1)) = A (upN ((List.range i).map g ++ [k])) := by
        rw [e36, List.take_of_length_le (by rw [List.length_map, hl2]; exact Nat.le_refl _), A, hl2]
      rw [← e]; exact hs6
    clear hs3 hs4 hs5 hs6
    have rT : (T.map encT)[(((upN ((List.range i).map g)).length : Nat) : Int).toNat]? = some (encT (T.getD i [])) := by rw [hcl]; exact rowT_at hin
    have hTi : T.getD i [] ∈ T := by rw [List.getD_eq_getElem?_getD, List.getElem?_eq_getElem hin]; simp
    have hlen := R.len _ hTi
    have rX := row_at (l := T.getD i []) (i := k) (by omega)
    have k36 := c36 T (upN ((List.range i).map g ++ [k])) ⟨by omega, by omega⟩ (fun t ht => by have := R.len t ht; omega) (by simp; omega)
    have k34b := c34 (fix_tb (cs := upN ((List.range i).map g ++ [k])) tb)
    have fb := fix_best R C (k := k) hin
    have kin := c35 (upN ((List.range i).map g)) (by omega) (k : Int)
    have hany : k = g i → ((upN ((List.range i).map g)).any (· == (k : Int))) = false := by
      rintro rfl
      rw [List.any_eq_false]
      intro x hx1
      obtain ⟨y, hy, rfl⟩ := List.mem_map.1 hx1
      obtain ⟨j, hj, rfl⟩ := List.mem_map.1 hy
      have hj := List.mem_range.1 hj
      have : g j ≠ g i := fun h => absurd (C.feas.asg.inj j i (by omega) hin h) (by omega)
      simp; omega
    have back : ∀ {K' a' w'}, k < g i → SRK E K' ⟨FN15 T (chpC T) ((List.range i).map g) i t0.length (k + 1), []⟩ a' w' → ∃ q' , q' < t0.length - k ∧ ∃ K k, q' = t0.length - k ∧ k ≤ g i ∧ SRK E K ⟨FN15 T (chpC T) ((List.range i).map g) i t0.length k, []⟩ a' w' := fun h hs' => ⟨t0.length - (k + 1), by omega, _, k + 1, rfl, by omega, hs'⟩
    have kk : (k : Int) ≤ 1000 := by omega
    change (Code.seq _ _).wp _ _ _ _
    by_cases hx : (T.getD i []).getD k 0 < 0
    · have hne : k < g i := by
        have : k ≠ g i := by
          rintro rfl
          have := C.feas.pos i hin; omega
        omega
      refine wp_seq (W15 hN hs7 (Q := fun e c' => e = .exit 3 ∧ c' = _) rfl ⟨[(9, true)], ⟨by omega, by omega⟩, _, rT, ⟨by omega, by omega⟩, _, rX, decide_eq_true hx, fun _ => ⟨rfl, rfl⟩, fun h => (by cases h)⟩ ?_)
      rintro e c1 K6 a6 w6 ⟨rfl, rfl⟩ hs8
      refine nx15 (T := T) hN (SRK.only hs8 [0, 6, 8, 26, 27, 32, 33] []) kk fun K' a' w' hs' => back hne hs'
    · by_cases hin2 : ((upN ((List.range i).map g)).any (· == (k : Int))) = true
      · have hne : k < g i := by
          have : k ≠ g i := fun h => by rw [hany h] at hin2; cases hin2
          omega
        rw [hin2] at kin
        refine wp_seq (W15 hN hs7 (Q := fun e c' => e = .exit 3 ∧ c' = _) rfl ⟨[(9, false)], ⟨by omega, by omega⟩, _, rT, ⟨by omega, by omega⟩, _, rX, decide_eq_false hx, _, kin, fun _ => ⟨rfl, rfl⟩, fun h => (by cases h)⟩ ?_)
        rintro e c1 K6 a6 w6 ⟨rfl, rfl⟩ hs8
        refine nx15 (T := T) hN (SRK.only hs8 [0, 6, 8, 26, 27, 32, 33] []) kk fun K' a' w' hs' => back hne hs'
      · have hin2 : ((upN ((List.range i).map g)).any (· == (k : Int))) = false := by simpa using hin2
        rw [hin2] at kin
        refine wp_seq (W15 hN hs7 (Q := fun e c' => e = .normal ∧ c' = _) rfl ⟨[(9, false)], ⟨by omega, by omega⟩, _, rT, ⟨by omega, by omega⟩, _, rX, decide_eq_false hx, _, kin, fun h => (by cases h), fun _ => ⟨rfl, rfl⟩⟩ ?_)
        rintro e c1 K6 a6 w6 ⟨rfl, rfl⟩ hs8
        change (Code.seq _ _).wp _ _ _ _
        refine wp_seq (W15 hN hs8 (Q := fun e c' => e = .normal ∧ c' = _) rfl ⟨_, k36, true, _, k34b, rfl, rfl⟩ ?_)
        rintro e c1 K8 a8 w8 ⟨rfl, rfl⟩ hs9
        have hs10 := SRK.only hs9 [0, 6, 8, 10, 12, 13, 26, 27, 32, 33] []
        clear hs7 hs8 hs9
        change (Code.seq _ _).wp _ _ _ _
        by_cases hke : k = g i
        · obtain ⟨b1, b2⟩ := fb.2 ⟨g, C.feas, C.cost, fun _ _ => rfl, hke.symm⟩
          have d1 : (leaC (fixT T (upN ((List.range i).map g ++ [k]))) T.length t0.length == chpC T) = true := by rw [b2]; simp
          refine W15 hN hs10 (Q := fun e c' => e = .exit 2 ∧ c' = _) rfl ⟨[(1, true)], b1, fun _ => ⟨rfl, rfl⟩, fun h => (by rw [show _ = true from d1] at h; cases h)⟩ ?_
          rintro e c1 K9 a9 w9 ⟨rfl, rfl⟩ hs11
          change (Code.region _ _ _).wp _ _ _ _
          refine W15 hN hs11 (Q := fun e c' => e = .normal ∧ c' = _) rfl ⟨((i + 1 : Nat) : Int), wrapTo (by omega) (by omega) (by omega), rfl, rfl⟩ ?_
          rintro e c1 K10 a10 w10 ⟨rfl, rfl⟩ hs12
          refine ⟨T.length - (i + 1), by omega, K10, i + 1, rfl, by omega, ?_⟩
          have eL : (List.range (i + 1)).map g = (List.range i).map g ++ [k] := by rw [List.range_succ, List.map_append, hke]; rfl
          rw [eL]
          exact SRK.only hs12 [0, 6, 8, 26, 27] []
        · have hne : k < g i := by omega
          have hbest : ¬ (okP (fixT T (upN ((List.range i).map g ++ [k]))) (freeL (fixT T (upN ((List.range i).map g ++ [k])))) T.length t0.length = true ∧ leaC (fixT T (upN ((List.range i).map g ++ [k]))) T.length t0.length = chpC T) := by
            intro h
            obtain ⟨g', h1, h2, h3, h4⟩ := fb.1 h
            have := C.first g' h1 h2 i hin h3
            omega
          by_cases hb : okP (fixT T (upN ((List.range i).map g ++ [k]))) (freeL (fixT T (upN ((List.range i).map g ++ [k])))) T.length t0.length = true
          · have d1 : (leaC (fixT T (upN ((List.range i).map g ++ [k]))) T.length t0.length == chpC T) = false := by
              rw [beq_eq_false_iff_ne]; exact fun h => hbest ⟨hb, h⟩
            refine W15 hN hs10 (Q := fun e c' => e = .normal ∧ c' = _) rfl ⟨[(1, true)], hb, fun h => (by rw [show _ = false from d1] at h; cases h), fun _ => ⟨rfl, rfl⟩⟩ ?_
            rintro e c1 K9 a9 w9 ⟨rfl, rfl⟩ hs11
            refine nx15 (T := T) hN (SRK.only hs11 [0, 6, 8, 26, 27, 32, 33] []) kk fun K' a' w' hs' => back hne hs'
          · have hb : okP (fixT T (upN ((List.range i).map g ++ [k]))) (freeL (fixT T (upN ((List.range i).map g ++ [k])))) T.length t0.length = false := by simpa only [Bool.not_eq_true] using hb
            refine W15 hN hs10 (Q := fun e c' => e = .normal ∧ c' = _) rfl ⟨[(1, false)], hb, fun h => (by cases h), fun _ => ⟨rfl, rfl⟩⟩ ?_
            rintro e c1 K9 a9 w9 ⟨rfl, rfl⟩ hs11
            refine nx15 (T := T) hN (SRK.only hs11 [0, 6, 8, 26, 27, 32, 33] []) kk fun K' a' w' hs' => back hne hs'
  · have hie : i = T.length := by omega
    subst hie
    refine wp_seq (W15 hN hs1 (Q := fun e c' => e = .exit 0 ∧ c' = _) rfl ⟨fun h => absurd (of_decide_eq_true h) (by omega), fun _ => ⟨rfl, rfl⟩⟩ ?_)
    rintro e c1 K2 a2 w2 ⟨rfl, rfl⟩ hs2
    have e : A (chpL T) = A (upN ((List.range T.length).map g)) := by rw [C.list, upN, List.map_map]; rfl
    refine W15 hN hs2 (Q := retQ tt [.tmp 2, .tmp 3, .tmp 4] (.tup [A (chpL T), I (chpC T), I 0])) rfl ?_ ?_
    · rw [e]; exact ⟨_, _, rfl, ⟨rfl, rfl⟩, rfl, rfl, rfl, rfl, trivial⟩
    intro e c1 K4 a4 w4 hq hs6
    cases e with
    | normal => exact ⟨.inl rfl, K4, c1, hs6, hq⟩
    | exit id => exact absurd hq (fun h => h)
    | ret => exact ⟨.inr rfl, K4, c1, hs6, hq⟩
end Go.Abs.L38
