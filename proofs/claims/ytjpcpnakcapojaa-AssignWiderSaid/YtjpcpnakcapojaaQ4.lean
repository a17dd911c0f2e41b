import Derived.Test.YtjpcpnakcapojaaC1
import Derived.Test.YtjpcpnakcapojaaC2
import Derived.Test.YtjpcpnakcapojaaC4
import Derived.Test.YtjpcpnakcapojaaN3
import Derived.Test.YtjpcpnakcapojaaL38d
import Derived.Test.YtjpcpnakcapojaaP1
namespace Go.Abs.L38
open Go Go.Abs Go.Proofs
set_option linter.unusedVariables false
set_option maxRecDepth 20000
/-! ### cp, whose rows are one's own -/
abbrev TW (T : List (List Int)) : List (List (List AV)) := T.map fun t => t.map enc
theorem TW_set (T : List (List Int)) (k : Nat) (t : List Int) : TW (T.set k t) = (TW T).set k (t.map enc) := by simp [TW, List.map_set]
def rowsM (us : List Value) (T : List (List Int)) : List (List AV) := lits us ++ T.map encT
theorem rowsM_has (b : Nat) (us : List Value) (T : List (List Int)) : hasRow b (rowsM us T) = false := by
  rw [rowsM, hasRow_app, hasRow_lits, Bool.false_or]
  induction T with
  | nil => rfl
  | cons t T ih => simp only [List.map_cons, hasRow, ih, Bool.or_false]; rfl
theorem rowsM_purge (b : Nat) (us : List Value) (T : List (List Int)) : purgeR b (rowsM us T) = rowsM us T := by
  have h0 : ∀ T : List (List Int), purgeR b (T.map encT) = T.map encT := by
    intro T
    induction T with
    | nil => rfl
    | cons t T ih => simp only [List.map_cons, purgeR, ih]; rfl
  unfold rowsM
  induction us with
  | nil => exact h0 T
  | cons v us ih =>
    simp only [lits, List.map_cons, List.cons_append, purgeR] at ih ⊢
    rw [ih]; rfl
theorem rowsM_get {us : List Value} {T : List (List Int)} {i : Nat} (hu : us.length = i) (hi : i < T.length) : (rowsM us (T.drop i))[i]? = some (encT (T.getD i [])) := by
  rw [rowsM, List.getElem?_append_right (by rw [lits_len]; omega), lits_len, hu, Nat.sub_self, List.map_drop, List.getElem?_drop, Nat.add_zero, List.getElem?_map, List.getD_eq_getElem?_getD, List.getElem?_eq_getElem hi]; rfl
theorem rowsM_set {us : List Value} {T : List (List Int)} {i : Nat} {v : Value} (hu : us.length = i) (hi : i < T.length) : (rowsM us (T.drop i)).set i [.lit v] = rowsM (us ++ [v]) (T.drop (i + 1)) := by
  rw [rowsM, List.set_append_right _ _ (by rw [lits_len]; omega), lits_len, hu, Nat.sub_self, List.drop_eq_getElem_cons hi, List.map_cons, List.set_cons_zero, rowsM, lits, lits, List.map_append, List.append_assoc]
  rfl
def PostW (T : List (List Int)) : World → KM → List (Nat × OBlk) → AV → Prop := fun w K O r =>
  ∃ us, r = .osl 80 1 T.length ∧ O = [(80, ⟨25, 1, .pure, lits us⟩)] ++ fam 3 1 (TW T) ∧ LitF w K 1 us (TW T) ∧ us.length = T.length
abbrev ks14 : List Nat := [0, 2, 3, 7, 8, 9]
theorem W14 {E : Env} (hN : E.N = 21) {K : KM} {fr : List (Nat × AV)} {V Tl : List (Nat × OBlk)} {a : Act} {w : World} {code : Code} {Q : Ex → Cfg → Prop} {Q' : Exit → Act → World → Prop} (hs : SRK E K ⟨fr, V ++ Tl⟩ a w) (htl : TailOK Tl) (hap : Apart V Tl) (hd : drawsOK code = true)
    (h : ev Try.prog tt 21 ks14 code ⟨fr, V⟩ Q) (hQ : ∀ e c' K' a' w', Q e c' → SRK E K' ⟨c'.fr, c'.O ++ Tl⟩ a' w' → Left K V w K' w' → Q' e.toExit a' w') : code.wp Try.prog Q' a w :=
  wp_ev tabOK tabOne mixed hN htl hap hd h hs hQ
def st14 : Code → Code
  | .seq _ (.seq _ (.seq (.seq _ (.block _ (.loop (.seq _ (.seq _ (.seq (.block _ (.seq _ c)) _)))))) _)) => c
  | c => c
theorem ev_st14 {T : List (List Int)} {us : List Value} {n i : Nat} (hu : us.length = i) (hi : i < T.length) (hn : T.length = n) (hTb : ∀ b ∈ T, b.length ≤ 10000) :
    ev Try.prog tt 21 ks14 (st14 (body Try.f14)) ⟨[(0, .osl 80 1 n), (3, I i), (7, I n), (8, I i)], [(80, ⟨25, 1, .any, rowsM us (T.drop i)⟩)]⟩
      fun e c => e = .normal ∧ ∃ fr, c = ⟨[(0, .osl 80 1 n), (3, I i), (7, I n), (8, I i)] ++ fr, [(80, ⟨25, 1, .any, (rowsM us (T.drop i)).set ((i : Nat) : Int).toNat [.osl 272 1 (T.getD i []).length]⟩), (272, ⟨3, 1, .pure, (T.getD i []).map enc⟩)]⟩ := by
  have hTi : T.getD i [] ∈ T := by rw [List.getD_eq_getElem?_getD, List.getElem?_eq_getElem hi]; simp
  have hr : (rowsM us (T.drop i))[((i : Nat) : Int).toNat]? = some (encT (T.getD i [])) := by rw [Int.toNat_natCast]; exact rowsM_get hu hi
  refine ⟨⟨by omega, by omega⟩, encT (T.getD i []), hr, _, c18 (T.getD i []) (hTb _ hTi), false, ?_⟩
  conv => whnf
  refine mtrue (chk3 (freshD_new rfl (freshO_any rfl (rowsM_has _ _ _) rfl) rfl) rfl rfl) ?_
  refine ⟨⟨by omega, by omega⟩, encT (T.getD i []), hr, ?_⟩
  exact ⟨rfl, _, rfl⟩
theorem TW_take_succ {T : List (List Int)} {i : Nat} (hi : i < T.length) : TW (T.take (i + 1)) = TW (T.take i) ++ [(T.getD i []).map enc] := by
  rw [List.take_add_one, List.getD_eq_getElem?_getD, List.getElem?_eq_getElem hi, TW, TW, List.map_append]; rfl
theorem fam_snoc {T : List (List (List AV))} {t : List (List AV)} {b : Nat} : olk (fam 3 1 T) b = if fid T.length = b then none else olk (fam 3 1 (T ++ [t])) b := by
  by_cases h : fid T.length = b
  · rw [if_pos h, ← h, fam_at, List.getElem?_eq_none (Nat.le_refl _)]; rfl
  · rw [if_neg h]
    cases hq : olk (fam 3 1 T) b with
    | some x =>
      obtain ⟨j, t, rfl, h1, rfl⟩ := fam_inv hq
      rw [fam_at, List.getElem?_append_left (List.getElem?_eq_some_iff.1 h1).1, h1]; rfl
    | none =>
      cases hq2 : olk (fam 3 1 (T ++ [t])) b with
      | none => rfl
      | some x =>
        obtain ⟨j, t, rfl, h1, rfl⟩ := fam_inv hq2
        have hjl := (List.getElem?_eq_some_iff.1 h1).1
        rw [List.length_append] at hjl
        simp only [List.length_cons, List.length_nil] at hjl
        have hne : j ≠ T.length := fun e => h (by rw [e])
        rw [List.getElem?_append_left (by omega)] at h1
        rw [fam_at, h1] at hq; cases hq
theorem c14F (T : List (List Int)) (h1 : 1 ≤ T.length) (hT : T.length ≤ 10000) (hTb : ∀ b ∈ T, b.length ≤ 10000) : FnF Try.prog 14 [AA T] (PostW T) := by
  refine fnF_of (N := 21) 2 Try.func14 rfl (by kernel_rfl) rfl rfl rfl (by rintro w K O r ⟨us, rfl, _⟩ d want u' h; cases h) ?_
  intro E K a w hN hp hs
  have W0 : ∀ {K : KM} {fr : List (Nat × AV)} {V : List (Nat × OBlk)} {a : Act} {w : World} {code : Code} {Q : Ex → Cfg → Prop} {Q' : Exit → Act → World → Prop}, SRK E K ⟨fr, V⟩ a w → drawsOK code = true → ev Try.prog tt 21 ks14 code ⟨fr, V⟩ Q → (∀ e c' K' a' w', Q e c' → SRK E K' c' a' w' → Q' e.toExit a' w') → code.wp Try.prog Q' a w := by
    intro K fr V a w code Q Q' hs hd h hQ
    refine wp_ev (Tl := []) tabOK tabOne mixed hN TailOK.nil (Apart.nil _) hd h (by rw [List.append_nil]; exact hs) ?_
    intro e c' K' a' w' q h' _
    rw [List.append_nil] at h'
    exact hQ e c' K' a' w' q h'
  change (Code.seq _ _).wp _ _ _ _
  refine wp_seq (W0 hs rfl (Q := fun e c' => e = .normal ∧ c' = _) ⟨rfl, rfl⟩ ?_)
  rintro e c1 K1 a1 w1 ⟨rfl, rfl⟩ hs1
  change (Code.seq _ _).wp _ _ _ _
  refine wp_seq (W0 hs1 rfl (Q := fun e c' => e = .normal ∧ c' = _) ⟨_, c33 T hT, false, rfl, rfl⟩ ?_)
  rintro e c1 K2 a2 w2 ⟨rfl, rfl⟩ hs2
  have hs3 : SRK E K2 ⟨[(0, .osl 80 1 T.length)], [(80, ⟨25, 1, .flat, T.map encT⟩)]⟩ a2 w2 := SRK.only hs2 [0] [80]
  have hs4 := hs3.unflat (o := 80) rfl
  change (Code.seq _ _).wp _ _ _ _
  refine wp_seq (wp_seq (W0 hs4 rfl (Q := fun e c' => e = .normal ∧ c' = _) ⟨rfl, rfl⟩ ?_))
  rintro e c1 K3 a3 w3 ⟨rfl, rfl⟩ hs5
  have hs6 : SRK E K3 ⟨[(0, .osl 80 1 T.length), (7, I T.length), (8, I ((0 : Nat) : Int))], [(80, ⟨25, 1, .any, rowsM [] (T.drop 0)⟩)] ++ fam 3 1 (TW (T.take 0))⟩ a3 w3 := SRK.only hs5 [0, 7, 8] [80]
  clear hs hs1 hs2 hs3 hs4 hs5
  change (Code.block _ _).wp _ _ _ _
  refine wp_block (wp_loop_ghost (fun q a w => ∃ K i us, q = T.length - i ∧ i ≤ T.length ∧ us.length = i ∧ LitF w K 1 us (TW (T.take i)) ∧ SRK E K ⟨[(0, .osl 80 1 T.length), (7, I T.length), (8, I i)], [(80, ⟨25, 1, .any, rowsM us (T.drop i)⟩)] ++ fam 3 1 (TW (T.take i))⟩ a w) T.length
    ⟨K3, 0, [], by omega, by omega, rfl, fun j t h => by simp [TW] at h, hs6⟩ ?_)
  clear hs6
  rintro q a w ⟨K, i, us, rfl, hi, hu, hl, hs⟩
  change (Code.seq _ _).wp _ _ _ _
  refine wp_seq (W14 hN hs fam_ok (fam_apart rfl) (Q := fun e c' => e = .normal ∧ c' = _) rfl ⟨rfl, rfl⟩ ?_)
  rintro e c1 K1 a1 w1 ⟨rfl, rfl⟩ hs1 hl1
  have hl2 := hl.left hl1
  change (Code.seq _ _).wp _ _ _ _
  by_cases hlt : i < T.length
  · refine wp_seq (W14 hN hs1 fam_ok (fam_apart rfl) (Q := fun e c' => e = .normal ∧ c' = _) rfl ⟨fun _ => ⟨rfl, rfl⟩, fun h => absurd (of_decide_eq_false h) (by omega)⟩ ?_)
    rintro e c1 K2 a2 w2 ⟨rfl, rfl⟩ hs2 hl3
    have hl4 := hl2.left hl3
    change (Code.seq _ _).wp _ _ _ _
    refine wp_seq (wp_block ?_)
    change (Code.seq _ _).wp _ _ _ _
    refine wp_seq (W14 hN hs2 fam_ok (fam_apart rfl) (Q := fun e c' => e = .normal ∧ c' = _) rfl ⟨rfl, rfl⟩ ?_)
    rintro e c1 K3 a3 w3 ⟨rfl, rfl⟩ hs3 hl5
    have hl6 := hl4.left hl5
    have hs4 : SRK E K3 ⟨[(0, .osl 80 1 T.length), (3, I i), (7, I T.length), (8, I i)], [(80, ⟨25, 1, .any, rowsM us (T.drop i)⟩)] ++ fam 3 1 (TW (T.take i))⟩ a3 w3 := SRK.onlyT hs3 (fam_apart rfl) [0, 3, 7, 8] [80]
    refine W14 hN hs4 fam_ok (fam_apart rfl) rfl (ev_st14 hu hlt rfl hTb) ?_
    rintro e c1 K4 a4 w4 ⟨rfl, fr, rfl⟩ hs5 hl7
    have hl8 := hl6.left hl7
    have hs6 := SRK.onlyT hs5 (fam_apart rfl) [0, 7, 8] [80, 272]
    rw [Int.toNat_natCast] at hs6
    have hrl : i < (rowsM us (T.drop i)).length := (List.getElem?_eq_some_iff.1 (rowsM_get hu hlt)).1
    have htl : (TW (T.take i)).length = i := by simp [TW]; omega
    obtain ⟨K5, v', hs7, hv, hK⟩ := nest_lit (o := 80) (y := 272) (k := i) (e := 3) (sz := 1) (t' := (T.getD i []).map enc) (T' := TW (T.take i) ++ [(T.getD i []).map enc]) (V := [(80, ⟨25, 1, .any, (rowsM us (T.drop i)).set i [.osl 272 1 (T.getD i []).length]⟩), (272, ⟨3, 1, .pure, (T.getD i []).map enc⟩)]) hs6 rfl
      (fun b => by have := fam_snoc (T := TW (T.take i)) (t := (T.getD i []).map enc) (b := b); rwa [htl] at this) (by rw [List.getElem?_append_right (by omega), htl, Nat.sub_self]; rfl) rfl rfl (by decide) (by rw [List.getElem?_set_self hrl, List.length_map])
      (hasRow_set (by simp only [AV.hasL, AV.has, Bool.or_false]; simp [fid]; omega) i (rowsM_has _ _ _)) (hp _) (noFF_lk _ rfl) (fun j z h1 h2 h3 => by
        simp only [olk] at h1
        split at h1
        · rename_i e
          have e : 80 = j := by simpa using e
          exact absurd e.symm h2
        · split at h1
          · injection h1 with h1; subst h1; cases h3
          · cases h1) (by decide)
    rw [List.set_set, rowsM_set hu hlt, ← TW_take_succ hlt] at hs7
    have hl9 : LitF w4 K5 1 (us ++ [v']) (TW (T.take (i + 1))) := by
      rw [TW_take_succ hlt]
      intro j t hj
      rcases Nat.lt_or_ge j i with hji | hji
      · rw [List.getElem?_append_left (by omega)] at hj
        obtain ⟨v, q1, q2⟩ := hl8 j t hj
        exact ⟨v, by rw [List.getElem?_append_left (by omega)]; exact q1, q2.osl_id (hK _ fun h => by have := fid_inj h; omega)⟩
      · have hjl := (List.getElem?_eq_some_iff.1 hj).1
        rw [List.length_append, htl] at hjl
        simp only [List.length_cons, List.length_nil] at hjl
        have : j = i := by omega
        subst this
        rw [List.getElem?_append_right (by omega), htl, Nat.sub_self] at hj
        injection hj with hj; subst hj
        exact ⟨v', by rw [List.getElem?_append_right (by omega), hu, Nat.sub_self]; rfl, hv⟩
    change (Code.region _ _ _).wp _ _ _ _
    refine W14 (V := [(80, ⟨25, 1, .any, rowsM (us ++ [v']) (T.drop (i + 1))⟩)]) hN hs7 fam_ok (fam_apart rfl) (Q := fun e c' => e = .normal ∧ c' = _) rfl ⟨((i + 1 : Nat) : Int), wrapTo (by omega) (by omega) (by omega), rfl, rfl⟩ ?_
    rintro e c1 K6 a6 w6 ⟨rfl, rfl⟩ hs8 hl10
    exact ⟨T.length - (i + 1), by omega, K6, i + 1, us ++ [v'], rfl, by omega, by simp [hu], hl9.left hl10, SRK.onlyT hs8 (fam_apart rfl) [0, 7, 8] [80]⟩
  · have hie : i = T.length := by omega
    subst hie
    refine wp_seq (W14 hN hs1 fam_ok (fam_apart rfl) (Q := fun e c' => e = .exit 0 ∧ c' = _) rfl ⟨fun h => absurd (of_decide_eq_true h) (by omega), fun _ => ⟨rfl, rfl⟩⟩ ?_)
    rintro e c1 K2 a2 w2 ⟨rfl, rfl⟩ hs2 hl3
    have hl4 := hl2.left hl3
    rw [List.take_length] at hl4 hs2
    have hs3 : SRK E K2 ⟨[(0, .osl 80 1 T.length)], [(80, ⟨25, 1, .any, lits us⟩)] ++ fam 3 1 (TW T)⟩ a2 w2 := by
      have := SRK.onlyT hs2 (fam_apart rfl) [0] [80]
      have e : rowsM us (T.drop T.length) = lits us := by rw [rowsM, List.drop_length]; simp
      rw [← e]; exact this
    have hs4 := hs3.allLits (o := 80) rfl
    have hs5 : SRK E K2 ⟨[(0, .osl 80 1 T.length)], [(80, ⟨25, 1, .pure, lits us⟩)] ++ fam 3 1 (TW T)⟩ a2 w2 := hs4
    refine W14 hN hs5 fam_ok (fam_apart rfl) (Q := fun e c' => e = .ret ∧ c' = _) rfl ⟨rfl, rfl⟩ ?_
    rintro e c1 K4 a4 w4 ⟨rfl, rfl⟩ hs6 hl5
    exact ⟨.inr rfl, K4, _, hs6, us, rfl, rfl, hl4.left hl5, hu⟩
end Go.Abs.L38
namespace Go.Abs.L38
open Go Go.Abs Go.Proofs
set_option linter.unusedVariables false
set_option maxRecDepth 20000
/-! ### a table, wider by one column -/
def clampE (x : Int) : Int := maxI (-1) (minI x 1000)
def wid (T : List (List Int)) (s : List Int) : Nat → List (List Int)
  | 0 => T
  | i + 1 => (wid T s i).set i (T.getD i [] ++ [clampE (s.getD i 0)])
theorem wid_len (T : List (List Int)) (s : List Int) : ∀ i, (wid T s i).length = T.length
  | 0 => rfl
  | i + 1 => by rw [wid, List.length_set, wid_len T s i]
theorem wid_get (T : List (List Int)) (s : List Int) : ∀ i j, j < T.length → (wid T s i).getD j [] = if j < i then T.getD j [] ++ [clampE (s.getD j 0)] else T.getD j []
  | 0, j, h => by rw [wid, if_neg (by omega)]
  | i + 1, j, h => by
    rw [wid, List.getD_eq_getElem?_getD, List.getElem?_set]
    by_cases e : i = j
    · subst e
      rw [if_pos rfl, if_pos (by rw [wid_len]; exact h), if_pos (by omega)]; rfl
    · rw [if_neg e, ← List.getD_eq_getElem?_getD, wid_get T s i j h]
      by_cases h2 : j < i
      · rw [if_pos h2, if_pos (by omega)]
      · rw [if_neg h2, if_neg (by omega)]
abbrev ks5 : List Nat := [0, 1, 4, 6, 7, 8, 9, 11, 12, 14, 24, 45, 49, 50, 51]
theorem W5 {E : Env} (hN : E.N = 82) {K : KM} {fr : List (Nat × AV)} {V Tl : List (Nat × OBlk)} {a : Act} {w : World} {code : Code} {Q : Ex → Cfg → Prop} {Q' : Exit → Act → World → Prop} (hs : SRK E K ⟨fr, V ++ Tl⟩ a w) (htl : TailOK Tl) (hap : Apart V Tl) (hd : drawsOK code = true)
    (h : ev Try.prog tt 82 ks5 code ⟨fr, V⟩ Q) (hQ : ∀ e c' K' a' w', Q e c' → SRK E K' ⟨c'.fr, c'.O ++ Tl⟩ a' w' → Left K V w K' w' → Q' e.toExit a' w') : code.wp Try.prog Q' a w :=
  wp_ev tabOK tabOne mixed hN htl hap hd h hs hQ
theorem W5s {E : Env} (hN : E.N = 82) {K : KM} {fr : List (Nat × AV)} {V : List (Nat × OBlk)} {a : Act} {w : World} {code : Code} {Q : Ex → Cfg → Prop} {Q' : Exit → Act → World → Prop} (hs : SRK E K ⟨fr, V⟩ a w) (hd : drawsOK code = true)
    (h : ev Try.prog tt 82 ks5 code ⟨fr, V⟩ Q) (hQ : ∀ e c' K' a' w', Q e c' → SRK E K' c' a' w' → Q' e.toExit a' w') : code.wp Try.prog Q' a w := by
  refine wp_ev (Tl := []) tabOK tabOne mixed hN TailOK.nil (Apart.nil _) hd h (by rw [List.append_nil]; exact hs) ?_
  intro e c' K' a' w' q h' _
  rw [List.append_nil] at h'
  exact hQ e c' K' a' w' q h'
def app5 : Code → Code
  | .seq _ (.seq _ (.seq _ (.seq _ (.seq _ (.seq _ (.seq (.seq _ (.block _ (.loop (.seq _ (.seq _ (.seq (.block _ (.seq _ c)) _)))))) _)))))) => c
  | c => c
abbrev F5 (s : List Int) (c : Int) (n i : Nat) : List (Nat × AV) := [(1, A s), (6, I c), (8, .osl 80 1 n), (9, I i), (49, I n), (50, I i)]
theorem ev_app5 {s : List Int} {c : Int} {n i : Nat} {inner R : List (List AV)} (hi : i < n) (hsn : n ≤ s.length) (hRk : R[i]? = some [.osl 928 1 inner.length]) (hRh : ∀ b, hasRow b R = (928 == b)) (hin : inner.length ≤ 100000) :
    ev Try.prog tt 82 ks5 (app5 (body Try.f5)) ⟨F5 s c n i, [(928, ⟨3, 1, .pure, inner⟩), (80, ⟨25, 1, .any, R⟩)]⟩
      fun e c' => e = .normal ∧ c' = ⟨F5 s c n i, [(80, ⟨25, 1, .any, R.set ((i : Nat) : Int).toNat [.osl 1056 1 (inner.length + 1)]⟩), (1040, ⟨3, 1, .pure, [enc (clampE (s.getD i 0))]⟩), (1056, ⟨3, 1, .pure, inner.take inner.length ++ [enc (clampE (s.getD i 0))]⟩)]⟩ := by
  have hj : ((i : Nat) : Int).toNat = i := by omega
  have rS := row_at (l := s) (i := i) (by omega)
  refine ⟨⟨by omega, by omega⟩, [.osl 928 1 inner.length], by rw [hj]; exact hRk, ⟨by omega, by omega⟩, _, rS, ?_⟩
  conv => whnf
  refine mtrue ?_ ?_
  · refine chk3 (freshD_new rfl (freshO_pure rfl (freshO_any rfl (hRh _) rfl)) rfl) ?_ rfl
    refine drOK_new ?_ (nwOK_one rfl (freshO_pure rfl (freshO_any rfl (hRh _) rfl)) rfl rfl)
    repeat' first | exact rfl | refine sep_ord rfl ?_ | refine sep_ind (indep_one rfl rfl (reach_pure (reach_any (hRh _) rfl)) rfl) ?_
  refine ⟨⟨by show (inner.length + 1) * 8 ≤ _; omega, by omega⟩, ?_⟩
  conv => whnf
  refine mtrue ?_ ?_
  · refine chk3 (freshD_new rfl (freshO_pure rfl (freshO_any rfl (hRh _) rfl)) rfl) ?_ rfl
    refine drOK_new ?_ (nwOK_one rfl (freshO_pure rfl (freshO_any rfl (hRh _) rfl)) rfl rfl)
    repeat' first | exact rfl | refine sep_ord rfl ?_ | refine sep_ind (indep_one rfl rfl (reach_pure (reach_any (hRh _) rfl)) rfl) ?_
  refine ⟨⟨by omega, by omega⟩, [.osl 928 1 inner.length], by show R[((i : Nat) : Int).toNat]? = _; rw [hj]; exact hRk, ?_⟩
  exact ⟨rfl, rfl⟩
theorem wp_app5 {E : Env} (hN : E.N = 82) (hp : ∀ b, E.pin b = none) {s : List Int} {cc : Int} {i : Nat} {T : List (List Int)} {t : List Int} {us : List Value} {K : KM} {a : Act} {w : World} {Q : Exit → Act → World → Prop}
    (hs : SRK E K ⟨F5 s cc T.length i, [(80, ⟨25, 1, .pure, lits us⟩)] ++ fam 3 1 (TW T)⟩ a w) (hl : LitF w K 1 us (TW T)) (hi : i < T.length) (hsn : T.length ≤ s.length) (ht : T[i]? = some t) (hti : t.length ≤ 2000)
    (hQ : ∀ K' us' a' w', SRK E K' ⟨F5 s cc T.length i, [(80, ⟨25, 1, .pure, lits us'⟩)] ++ fam 3 1 (TW (T.set i (t ++ [clampE (s.getD i 0)])))⟩ a' w' → LitF w' K' 1 us' (TW (T.set i (t ++ [clampE (s.getD i 0)]))) → us'.length = us.length → Q .normal a' w') : (app5 (body Try.f5)).wp Try.prog Q a w := by
  have ht' : (TW T)[i]? = some (t.map enc) := by simp [TW, ht]
  have hkl : i < us.length := by
    have := hl.len
    simp [TW] at this; omega
  obtain ⟨K1, hs1, hl1, _⟩ := nest_open (x := 928) (k := i) (o := 80) hs hl rfl rfl rfl (hp _) (by decide) (fun s => freshF_lk s rfl) (fun i y h hk => (freshO_olk (b := 928) (O := [(80, ⟨25, 1, .pure, lits us⟩)]) rfl h).2 hk) ht'
  refine wp_ev (fr := F5 s cc T.length i) (V := [(928, ⟨3, 1, .pure, t.map enc⟩), (80, ⟨25, 1, .any, (lits us).set i [.osl 928 1 (t.map enc).length]⟩)]) (Tl := delO (fid i) (fam 3 1 (TW T))) tabOK tabOne mixed hN (del_ok fam_ok) (del_apart (fam_apart rfl)) (by rfl)
    (ev_app5 (s := s) (c := cc) (inner := t.map enc) hi hsn (by rw [List.getElem?_set_self (by rw [lits_len]; exact hkl)]) (fun b => hasRow_open b us i hkl) (by simp; omega)) hs1 ?_
  rintro e c' K2 a2 w2 ⟨rfl, rfl⟩ hs2 hl2
  rw [List.take_length, Int.toNat_natCast, List.set_set] at hs2
  have hs3 := SRK.onlyT hs2 (del_apart (fam_apart rfl)) [1, 6, 8, 9, 49, 50] [80, 1056]
  obtain ⟨K4, v', hs4, hl4, _⟩ := nest_back (o := 80) (y := 1056) (k := i) (t' := t.map enc ++ [enc (clampE (s.getD i 0))]) (us := us) (T := TW T) (V := [(80, ⟨25, 1, .any, (lits us).set i [.osl 1056 1 ((t.map enc).length + 1)]⟩), (1056, ⟨3, 1, .pure, t.map enc ++ [enc (clampE (s.getD i 0))]⟩)]) hs3 (hl1.left hl2) rfl (by simp [TW]; omega) rfl (by simp) rfl (by decide) (fun j => hp _) rfl rfl (by decide)
  have e : (TW T).set i (t.map enc ++ [enc (clampE (s.getD i 0))]) = TW (T.set i (t ++ [clampE (s.getD i 0)])) := by simp [TW, List.map_set]
  rw [e] at hs4 hl4
  exact hQ K4 _ a2 w2 hs4 hl4 (by simp)
end Go.Abs.L38
namespace Go.Abs.L38
open Go Go.Abs Go.Proofs Go.Abs.Hung
set_option linter.unusedVariables false
set_option maxRecDepth 20000
/-! ### with one column more -/
theorem clamp_rng (x : Int) : -1 ≤ clampE x ∧ clampE x ≤ 1000 := by
  unfold clampE maxI minI
  split <;> split <;> omega
theorem chk_of {T : List (List Int)} {t0 : List Int} (R : TabR T t0) : chkE T = 0 := by
  have hn := R.n
  have hm := R.m
  have hh := R.head
  cases T with
  | nil => simp at hn
  | cons a T =>
    have ha : a = t0 := by simpa using hh
    subst ha
    have h1 : ((a :: T).any fun t => decide (t.length ≠ a.length)) = false := by
      rw [List.any_eq_false]
      intro t ht
      have := R.len t ht
      simpa using this
    have h2 : ((a :: T).any fun t => t.any badC) = false := by
      rw [List.any_eq_false]
      intro t ht
      rw [Bool.not_eq_true, List.any_eq_false]
      intro c hc
      have := R.rng t ht c hc
      simp [badC]; omega
    rw [chkE, if_neg (by rintro rfl; simp at hm), if_neg (by omega), if_neg (by rw [h1]; simp), if_neg (by rw [h2]; simp)]
theorem wide_tab {T : List (List Int)} {t0 s : List Int} (R : TabR T t0) (hm : t0.length < 16) : TabR (wid T s T.length) (t0 ++ [clampE (s.getD 0 0)]) := by
  have hn := R.n
  have hl := wid_len T s T.length
  have row : ∀ t ∈ wid T s T.length, ∃ j, j < T.length ∧ t = T.getD j [] ++ [clampE (s.getD j 0)] := by
    intro t ht
    obtain ⟨j, hj, e⟩ := List.mem_iff_getElem.1 ht
    have hj' : j < T.length := by omega
    refine ⟨j, hj', ?_⟩
    have := wid_get T s T.length j hj'
    rw [if_pos hj', List.getD_eq_getElem?_getD, List.getElem?_eq_getElem hj, Option.getD_some, e] at this
    exact this
  have mem : ∀ j, j < T.length → T.getD j [] ∈ T := by
    intro j hj
    rw [List.getD_eq_getElem?_getD, List.getElem?_eq_getElem hj]; simp
  refine ⟨?_, by omega, by simp; omega, fun t ht => ?_, fun t ht c hc => ?_⟩
  · have := wid_get T s T.length 0 (by omega)
    have h0 : T.getD 0 [] = t0 := by rw [List.getD_eq_getElem?_getD, R.head]; rfl
    rw [if_pos (by omega), h0, List.getD_eq_getElem?_getD, List.getElem?_eq_getElem (by omega), Option.getD_some] at this
    rw [List.getElem?_eq_getElem (by omega), this]
  · obtain ⟨j, hj, rfl⟩ := row t ht
    rw [List.length_append, List.length_append, R.len _ (mem j hj)]; rfl
  · obtain ⟨j, hj, rfl⟩ := row t ht
    rcases List.mem_append.1 hc with h | h
    · exact R.rng _ (mem j hj) c h
    · rw [List.mem_singleton] at h
      rw [h]; exact clamp_rng _
theorem wide_law {T : List (List Int)} {t0 s : List Int} (R : TabR T t0) (he : prvE T = 0) (hm : t0.length < 16) : prvE (wid T s T.length) = 0 ∧ chpC (wid T s T.length) ≤ chpC T := by
  have hn := R.n
  have R' := wide_tab (s := s) R hm
  have hc' := chk_of R'
  have hl := wid_len T s T.length
  obtain ⟨g, C⟩ := chp_spec he R
  have hf := feas_free.1 C.feas
  have at' : ∀ i, i < T.length → ((wid T s T.length).getD i []).getD (g i) 0 = (T.getD i []).getD (g i) 0 := by
    intro i hi
    have hgi := C.feas.asg.lt i hi
    have hTi : T.getD i [] ∈ T := by rw [List.getD_eq_getElem?_getD, List.getElem?_eq_getElem hi]; simp
    have := R.len _ hTi
    rw [wid_get T s T.length i hi, if_pos hi, List.getD_eq_getElem?_getD, List.getElem?_append_left (by omega), ← List.getD_eq_getElem?_getD]
  have hF : Feas (wid T s T.length) (freeL (wid T s T.length)) (wid T s T.length).length (t0 ++ [clampE (s.getD 0 0)]).length g := by
    refine feas_free.2 ⟨⟨fun i hi => ?_, fun i j hi hj h => ?_⟩, fun i hi => ?_⟩
    · have := hf.1.lt i (by omega)
      simp; omega
    · exact hf.1.inj i j (by omega) (by omega) h
    · rw [at' i (by omega)]; exact hf.2 i (by omega)
  have tb' := tb_of R' (F := freeL (wid T s T.length)) (by simp)
  obtain ⟨h1, h2⟩ := feas_ok tb' hF
  have hp : prvE (wid T s T.length) = 0 := (prv_of hc' R').1.2 h1
  refine ⟨hp, ?_⟩
  have eH : colsN (wid T s T.length) = (t0 ++ [clampE (s.getD 0 0)]).length := by rw [colsN, headD_of R']
  have e1 : chpC (wid T s T.length) = (finP (wid T s T.length) (freeL (wid T s T.length)) (wid T s T.length).length (t0 ++ [clampE (s.getD 0 0)]).length).2 := by rw [chpC, if_neg (by rw [hp]; simp), eH]
  have e2 : costT (wid T s T.length) (wid T s T.length).length g = costT T T.length g := by
    rw [costT, costT, hl]
    exact sm_congr fun i hi => at' i (List.mem_range.1 hi)
  rw [e1, ← C.cost, ← e2]
  exact h2
end Go.Abs.L38
