import Derived.Test.YtjpcpnakcapojaaC38k
namespace Go.Abs.L38
open Go Go.Abs Go.Proofs Go.Abs.Hung
set_option linter.unusedVariables false
set_option maxRecDepth 20000
/-! ### the columns one after the other -/
def fixL (T : List (List Int)) (best : Int) (n m i : Nat) : Nat → Nat → List Int → List Int
  | 0, _, F => F
  | q + 1, k, F => if okP T (F.set i (k : Int)) n m = true ∧ (finP T (F.set i (k : Int)) n m).2 = best then F.set i (k : Int) else fixL T best n m i q (k + 1) (F.set i (k : Int))
def fixE (T : List (List Int)) (best : Int) (n m : Nat) : Nat → Nat → List Int → List Int
  | 0, _, F => F
  | q + 1, i, F => fixE T best n m q (i + 1) (fixL T best n m i m 0 F)
theorem fixL_len (T : List (List Int)) (best : Int) (n m i : Nat) : ∀ (q k : Nat) (F : List Int), (fixL T best n m i q k F).length = F.length
  | 0, k, F => rfl
  | q + 1, k, F => by
    unfold fixL
    split
    · simp
    · rw [fixL_len T best n m i q]; simp
theorem fixE_len (T : List (List Int)) (best : Int) (n m : Nat) : ∀ (q i : Nat) (F : List Int), (fixE T best n m q i F).length = F.length
  | 0, i, F => rfl
  | q + 1, i, F => by rw [fixE, fixE_len T best n m q, fixL_len]
abbrev clo32 (T : List (List Int)) (P : List AV) : AV := .func 32 [.rptr [AA T] 0, .ovar 2 0, .rptr P 0, .ovar 6 0]
abbrev args32 (T : List (List Int)) (P : List AV) (i : Nat) : List AV := [I i, .rptr [AA T] 0, .ovar 2 0, .rptr P 0, .ovar 6 0]
abbrev F32 (T : List (List Int)) (P : List AV) (i : Nat) : List (Nat × AV) := [(0, I i), (1, .rptr [AA T] 0), (2, .ovar 2 0), (3, .rptr P 0), (4, .ovar 6 0)]
abbrev OV (T : List (List Int)) (P : List AV) (F : List Int) : List (Nat × OBlk) := [(2, ⟨25, 1, .any, [[.osl 1808 1 F.length]]⟩), (1808, ⟨3, 1, .pure, F.map enc⟩), (6, ⟨51, 1, .any, [[clo32 T P]]⟩)]
abbrev plan4 (x y z : List Int) (best : Int) : List AV := [A x, A y, A z, I best]
abbrev ks32 : List Nat := [0, 1, 2, 3, 4, 6, 7, 8, 12, 17, 18, 19, 38]
theorem W32 {E : Env} (hN : E.N = 44) {K : KM} {fr : List (Nat × AV)} {V : List (Nat × OBlk)} {a : Act} {w : World} {code : Code} {Q : Ex → Cfg → Prop} {Q' : Exit → Act → World → Prop} (hs : SRK E K ⟨fr, V⟩ a w) (hd : drawsOK code = true)
    (h : ev Try.prog tt 44 ks32 code ⟨fr, V⟩ Q) (hQ : ∀ e c' K' a' w', Q e c' → SRK E K' c' a' w' → Q' e.toExit a' w') : code.wp Try.prog Q' a w := by
  refine wp_ev (Tl := []) tabOK tabOne mixed hN TailOK.nil (Apart.nil _) hd h (by rw [List.append_nil]; exact hs) ?_
  intro e c' K' a' w' q h' _
  rw [List.append_nil] at h'
  exact hQ e c' K' a' w' q h'
def col32 : Code → Code
  | .seq _ (.seq c _) => c
  | c => c
theorem ev_col {T : List (List Int)} {x y z : List Int} {best : Int} {n m i : Nat} {F : List Int} (tb : Tb T (List.replicate n 0) n m) (hi : i < n) (lF : F.length = n) :
    ev Try.prog tt 44 ks32 (col32 (body Try.f32)) ⟨F32 T (plan4 x y z best) i, OV T (plan4 x y z best) F⟩ fun e c => e = .normal ∧ ∃ fr O', c = ⟨F32 T (plan4 x y z best) i ++ fr, OV T (plan4 x y z best) (fixL T best n m i m 0 F) ++ O'⟩ := by
  have hn := tb.h1
  have hm := tb.h2
  have htn := tb.hn
  have ri := rowT_at (T := T) (i := i) (by omega)
  have hil : (T.getD i []).length = m := by
    have h1 : i < T.length := by omega
    rw [List.getD_eq_getElem?_getD, List.getElem?_eq_getElem h1]
    exact tb.hT _ (List.getElem_mem h1)
  have tbF : ∀ G : List Int, G.length = n → Tb T G n m := fun G hG => ⟨htn, hG, tb.hT, tb.hc, tb.h1, tb.h2⟩
  refine ⟨⟨by omega, by omega⟩, _, ri, ?_⟩
  refine ⟨fun q c => ∃ (k : Nat) (F' : List Int), k ≤ m ∧ q = m - k ∧ F'.length = n ∧ fixL T best n m i (m - k) k F' = fixL T best n m i m 0 F ∧ c = ⟨F32 T (plan4 x y z best) i ++ [(17, I m), (18, I k)], OV T (plan4 x y z best) F'⟩, ⟨_, _, Wk.keep [0, 1, 2, 3, 4, 17, 18] [2, 1808, 6], 0, F, by omega, rfl, lF, rfl, by rw [← hil]; rfl⟩, ?_⟩
  rintro q c ⟨k, F', hk, rfl, lF', hI, rfl⟩
  refine ⟨fun h => ?_, fun h => ?_⟩
  · have hkm : k < m := by have := of_decide_eq_true h; omega
    clear h
    rw [show m - k = (m - (k + 1)) + 1 by omega, fixL] at hI
    have rF := row_at (l := F') (i := i) (by omega)
    have eF : (F'.map enc).set ((i : Nat) : Int).toNat [I (k : Int)] = (F'.set i (k : Int)).map enc := row_set
    have lS : (F'.set i (k : Int)).length = n := by rw [List.length_set]; exact lF'
    have k30 := k30t (tbF (F'.set i (k : Int)) lS)
    have k30' : Fn Try.prog 30 [AA T, .rsl 1 F'.length (((F'.map enc).set ((i : Nat) : Int).toNat [I (k : Int)]).take F'.length)] (.tup [.agg [.top, .top, .top, I (finP T (F'.set i (k : Int)) n m).2], .bool (okP T (F'.set i (k : Int)) n m)]) := by
      rw [eF, List.take_of_length_le (by rw [List.length_map, List.length_set]; exact Nat.le_refl _)]
      rw [show F'.length = (F'.set i (k : Int)).length by rw [List.length_set]]
      exact k30
    refine ⟨⟨by omega, by omega⟩, _, rF, _, k30', ?_⟩
    have eO : ∀ G : List (Nat × OBlk), G = [(2, (⟨25, 1, .any, [[.osl 1808 1 F'.length]]⟩ : OBlk)), (1808, (⟨3, 1, .pure, (F'.map enc).set ((i : Nat) : Int).toNat [I (k : Int)]⟩ : OBlk)), (6, (⟨51, 1, .any, [[clo32 T (plan4 x y z best)]]⟩ : OBlk))] → OV T (plan4 x y z best) (F'.set i (k : Int)) = G := by
      rintro G rfl
      rw [eF, OV, List.length_set]
    by_cases ho : okP T (F'.set i (k : Int)) n m = true
    · rw [ho]
      refine ⟨[(1, true)], rfl, fun hz => ?_, fun hz => ?_⟩
      · have hz : (finP T (F'.set i (k : Int)) n m).2 = best := by
          have hz : ((finP T (F'.set i (k : Int)) n m).2 == best) = true := hz
          simpa using hz
        rw [if_pos ⟨ho, hz⟩] at hI
        rw [← hI, eO _ rfl]
        exact ⟨rfl, _, _, rfl⟩
      · have hz : ¬ (finP T (F'.set i (k : Int)) n m).2 = best := by
          have hz : ((finP T (F'.set i (k : Int)) n m).2 == best) = false := hz
          simpa using hz
        rw [if_neg (fun h => hz h.2)] at hI
        refine ⟨((k + 1 : Nat) : Int), wrapTo (by omega) (by omega) (by omega), ?_⟩
        refine ⟨_, _, Wk.keep [0, 1, 2, 3, 4, 17, 18] [2, 1808, 6], by omega, k + 1, F'.set i (k : Int), by omega, rfl, lS, hI, ?_⟩
        rw [eO _ rfl]; rfl
    · have ho : okP T (F'.set i (k : Int)) n m = false := by simpa using ho
      rw [if_neg (by rw [ho]; simp)] at hI
      rw [ho]
      refine ⟨[(1, false)], rfl, fun hz => (by cases hz), fun _ => ?_⟩
      refine ⟨((k + 1 : Nat) : Int), wrapTo (by omega) (by omega) (by omega), ?_⟩
      refine ⟨_, _, Wk.keep [0, 1, 2, 3, 4, 17, 18] [2, 1808, 6], by omega, k + 1, F'.set i (k : Int), by omega, rfl, lS, hI, ?_⟩
      rw [eO _ rfl]; rfl
  · have hk : k = m := by have := of_decide_eq_false h; omega
    subst hk
    rw [Nat.sub_self, fixL] at hI
    rw [← hI]
    exact ⟨rfl, [_, _, _], [], rfl⟩
def FixC (T : List (List Int)) (x y z : List Int) (best : Int) (n m q i : Nat) (F : List Int) : Prop :=
  FnV Try.prog 32 (args32 T (plan4 x y z best) i) (OV T (plan4 x y z best) F) [2, 6] (fun _ _ => True) (fun w K O => O = OV T (plan4 x y z best) (fixE T best n m q i F))
theorem pins32 {T : List (List Int)} {P : List AV} {F : List Int} {b : Nat} (hb : memN b [2, 6] = true) : Nat.ble 2 (b % 16) = true ∧ (olk (OV T P F) b).isSome = true := by
  simp only [memN] at hb
  split at hb
  · rename_i h; have := beq_true h; subst this; exact ⟨rfl, rfl⟩
  · split at hb
    · rename_i h; have := beq_true h; subst this; exact ⟨rfl, rfl⟩
    · cases hb
theorem c32 {T : List (List Int)} {x y z : List Int} {best : Int} {n m : Nat} (tb : Tb T (List.replicate n 0) n m) : ∀ (q i : Nat) (F : List Int), i + q = n → F.length = n → FixC T x y z best n m q i F := by
  have hn := tb.h1
  have htn := tb.hn
  intro q
  induction q with
  | zero =>
    intro i F hi lF
    refine fnV_of (N := 44) Try.func32 rfl (by kernel_rfl) rfl rfl rfl (fun b hb => pins32 hb) ?_
    intro E K a w hN hp hs _
    change (Code.seq _ _).wp _ _ _ _
    refine wp_seq (W32 hN hs (Q := fun e c' => e = .ret ∧ c' = _) rfl ⟨fun _ => ⟨rfl, rfl⟩, fun h => ?_⟩ ?_)
    · have h : (((i : Nat) : Int) == (T.length : Int)) = false := h
      simp at h; omega
    rintro e c1 K1 a1 w1 ⟨rfl, rfl⟩ hs1
    exact ⟨.inr rfl, K1, _, hs1, rfl⟩
  | succ q ih =>
    intro i F hi lF
    refine fnV_of (N := 44) Try.func32 rfl (by kernel_rfl) rfl rfl rfl (fun b hb => pins32 hb) ?_
    intro E K a w hN hp hs _
    change (Code.seq _ _).wp _ _ _ _
    refine wp_seq (W32 hN hs (Q := fun e c' => e = .normal ∧ c' = _) rfl ⟨fun h => ?_, fun _ => ⟨rfl, rfl⟩⟩ ?_)
    · have h : (((i : Nat) : Int) == (T.length : Int)) = true := h
      simp at h; omega
    rintro e c1 K1 a1 w1 ⟨rfl, rfl⟩ hs1
    have hs2 : SRK E K1 ⟨F32 T (plan4 x y z best) i, OV T (plan4 x y z best) F⟩ a1 w1 := SRK.only hs1 [0, 1, 2, 3, 4] [2, 1808, 6]
    change (Code.seq _ _).wp _ _ _ _
    refine wp_seq (W32 hN hs2 rfl (ev_col tb (by omega) lF) ?_)
    rintro e c1 K2 a2 w2 ⟨rfl, fr, O', rfl⟩ hs3
    have hs4 : SRK E K2 ⟨F32 T (plan4 x y z best) i, OV T (plan4 x y z best) (fixL T best n m i m 0 F)⟩ a2 w2 := SRK.only hs3 [0, 1, 2, 3, 4] [2, 1808, 6]
    clear hs hs1 hs2 hs3
    change (Code.region _ _ _).wp _ _ _ _
    refine wp_region ?_
    change wpOps _ _ _ (List.range' 0 3 ++ [3]) _ _
    refine wp_evOpsN (Tl := []) (dm := []) tabOK tabOne hN (fr := F32 T (plan4 x y z best) i) (V := OV T (plan4 x y z best) (fixL T best n m i m 0 F)) hs4 TailOK.nil (Apart.nil _) ⟨⟨[], []⟩, [], []⟩ 0 3 rfl (Kk := fun c' => c' = _) ⟨((i + 1 : Nat) : Int), wrapTo (by omega) (by omega) (by omega), rfl⟩ ?_
    rintro c1 K3 a3 w3 rfl hs5 _
    rw [wpOps_cons]
    have hfx := ih (i + 1) (fixL T best n m i m 0 F) (by omega) (by rw [fixL_len]; exact lF)
    refine wpOp_callV rfl rfl (wanted_no' rfl) hs5 hfx trivial rfl rfl (noOptL_get rfl) (inPF_lk rfl) hp (by rw [hN]; rfl) ?_
    rintro K4 O2 v w4 rfl hs6
    exact ⟨.inl rfl, K4, _, hs6, rfl⟩
end Go.Abs.L38
