import Derived.Test.YtjpcpnakcapojaaC38m
namespace Go.Abs.L38
open Go Go.Abs Go.Proofs Go.Abs.Hung
set_option linter.unusedVariables false
set_option maxRecDepth 20000
def chpC (T : List (List Int)) : Int := if prvE T ≠ 0 then 0 else (finP T (freeL T) T.length (colsN T)).2
def chpL (T : List (List Int)) : List Int := if prvE T ≠ 0 then [] else fixE T (finP T (freeL T) T.length (colsN T)).2 T.length (colsN T) T.length 0 (freeL T)
abbrev ks13 : List Nat := [0, 1, 2, 3, 4, 5, 6, 7, 8, 11, 21]
theorem W13 {E : Env} (hN : E.N = 31) {K : KM} {fr : List (Nat × AV)} {V : List (Nat × OBlk)} {a : Act} {w : World} {code : Code} {Q : Ex → Cfg → Prop} {Q' : Exit → Act → World → Prop} (hs : SRK E K ⟨fr, V⟩ a w) (hd : drawsOK code = true)
    (h : ev Try.prog tt 31 ks13 code ⟨fr, V⟩ Q) (hQ : ∀ e c' K' a' w', Q e c' → SRK E K' c' a' w' → Q' e.toExit a' w') : code.wp Try.prog Q' a w := by
  refine wp_ev (Tl := []) tabOK tabOne mixed hN TailOK.nil (Apart.nil _) hd h (by rw [List.append_nil]; exact hs) ?_
  intro e c' K' a' w' q h' _
  rw [List.append_nil] at h'
  exact hQ e c' K' a' w' q h'
theorem c13 (T : List (List Int)) (hT : T.length ≤ 9223372036854775807) (hTb : ∀ b ∈ T, b.length ≤ 9223372036854775807) : Fn Try.prog 13 [AA T] (.tup [fA (chpL T), I (chpC T), I (prvE T)]) := by
  by_cases hc : chkE T ≠ 0
  · have e : prvE T = 1 := by rw [prvE, if_pos hc]
    rw [chpL, chpC, e]
    simp only [ne_eq, Int.reduceEq, not_false_eq_true, if_true]
    refine mk13 rfl ⟨_, c24 T hT hTb, fun _ => ?_, fun h => ?_⟩
    · exact ⟨_, _, rfl, .inr ⟨_, _, _, rfl⟩, rfl, rfl, rfl, rfl, trivial⟩
    · simp at h; exact absurd h hc
  have hc : chkE T = 0 := by simpa using hc
  obtain ⟨t0, R⟩ := chk_ok hc
  have hn := R.n
  have hm := R.m
  have tb := tb_of R (F := freeL T) (by simp)
  have eH : colsN T = t0.length := by rw [colsN, headD_of R]
  have k := k30 tb
  have k31 := c31 T.length hn.1 (by omega)
  have kc := c24 T hT hTb
  rw [hc] at kc
  by_cases ho : okP T (freeL T) T.length (colsN T) = true
  case neg =>
    have e : prvE T = 24 := by rw [prvE, if_neg (by rw [hc]; simp), if_neg ho]
    rw [chpL, chpC, e]
    simp only [ne_eq, Int.reduceEq, not_false_eq_true, if_true]
    have ho : okP T (freeL T) T.length (colsN T) = false := by simpa using ho
    rw [eH] at ho
    rw [ho] at k
    refine mk13 rfl ⟨_, kc, fun h => (by cases h), fun _ => ⟨_, k31, true, _, k, fun _ => ?_, fun h => (by cases h)⟩⟩
    exact ⟨_, _, rfl, .inr ⟨_, _, _, rfl⟩, rfl, rfl, rfl, rfl, trivial⟩
  have e : prvE T = 0 := by rw [prvE, if_neg (by rw [hc]; simp), if_pos ho]
  rw [chpL, chpC, e]
  simp only [ne_eq, not_true_eq_false, if_false]
  rw [eH] at ho ⊢
  rw [ho] at k
  have tb0 : Tb T (List.replicate T.length 0) T.length t0.length := tb_of R (by simp)
  have hfx := c32 (x := (finP T (freeL T) T.length t0.length).1) (y := duU T (freeL T) T.length t0.length) (z := duV T (freeL T) T.length t0.length) (best := (finP T (freeL T) T.length t0.length).2) tb0 T.length 0 (freeL T) (by omega) (by simp)
  have lfx := fixE_len T (finP T (freeL T) T.length t0.length).2 T.length t0.length T.length 0 (freeL T)
  refine fn_ofW (N := 31) [.tmp 2, .tmp 3, .tmp 4] tabOK Try.func13 rfl (by kernel_rfl) rfl rfl rfl ?_
  intro E K a w hN hp hs
  change (Code.seq _ _).wp _ _ _ _
  refine wp_seq (W13 hN hs (Q := fun e c' => e = .normal ∧ c' = _) rfl ⟨rfl, rfl⟩ ?_)
  rintro e c1 K1 a1 w1 ⟨rfl, rfl⟩ hs1
  change (Code.seq _ _).wp _ _ _ _
  refine wp_seq (W13 hN hs1 (Q := fun e c' => e = .normal ∧ c' = _) rfl ⟨_, kc, fun h => (by cases h), fun _ => ⟨rfl, rfl⟩⟩ ?_)
  rintro e c1 K2 a2 w2 ⟨rfl, rfl⟩ hs2
  change (Code.seq _ _).wp _ _ _ _
  refine wp_seq (W13 hN hs2 (Q := fun e c' => e = .normal ∧ c' = _) rfl ⟨_, k31, true, _, k, rfl, rfl⟩ ?_)
  rintro e c1 K3 a3 w3 ⟨rfl, rfl⟩ hs3
  change (Code.seq _ _).wp _ _ _ _
  refine wp_seq (W13 hN hs3 (Q := fun e c' => e = .normal ∧ c' = _) rfl ⟨fun h => (by cases h), fun _ => ⟨rfl, rfl⟩⟩ ?_)
  rintro e c1 K4 a4 w4 ⟨rfl, rfl⟩ hs4
  change (Code.seq _ _).wp _ _ _ _
  refine wp_seq (W13 hN hs4 (Q := fun e c' => e = .normal ∧ c' = _) rfl ⟨_, k31, false, rfl, rfl⟩ ?_)
  rintro e c1 K5 a5 w5 ⟨rfl, rfl⟩ hs5
  change (Code.seq _ _).wp _ _ _ _
  refine wp_seq (W13 hN hs5 (Q := fun e c' => e = .normal ∧ c' = _) rfl ⟨rfl, rfl⟩ ?_)
  rintro e c1 K6 a6 w6 ⟨rfl, rfl⟩ hs6
  change (Code.seq _ _).wp _ _ _ _
  refine wp_seq (W13 hN hs6 (Q := fun e c' => e = .normal ∧ c' = _) rfl ⟨rfl, rfl⟩ ?_)
  rintro e c1 K7 a7 w7 ⟨rfl, rfl⟩ hs7
  have hs8 := SRK.only hs7 [5, 7, 8] [16, 80, 112, 384, 128]
  have hs9 : SRK E K7 ⟨[(5, .ovar 80 0), (7, .ovar 112 0), (8, .ovar 128 0)], O13 T (plan4 (finP T (freeL T) T.length t0.length).1 (duU T (freeL T) T.length t0.length) (duV T (freeL T) T.length t0.length) (finP T (freeL T) T.length t0.length).2) (freeL T)⟩ a7 w7 := hs8
  obtain ⟨K8, hs10⟩ := toOV hp (by simp; omega) hs9
  clear hs hs1 hs2 hs3 hs4 hs5 hs6 hs7 hs8 hs9
  change (Code.seq _ _).wp _ _ _ _
  refine wp_seq (wp_region ?_)
  change wpOps _ _ _ (List.range' 0 1 ++ [1]) _ _
  refine wp_evOpsN (Tl := []) (dm := []) tabOK tabOne hN (fr := [(5, .rptr (plan4 (finP T (freeL T) T.length t0.length).1 (duU T (freeL T) T.length t0.length) (duV T (freeL T) T.length t0.length) (finP T (freeL T) T.length t0.length).2) 0), (7, .ovar 2 0), (8, .ovar 6 0)]) (V := OV T (plan4 (finP T (freeL T) T.length t0.length).1 (duU T (freeL T) T.length t0.length) (duV T (freeL T) T.length t0.length) (finP T (freeL T) T.length t0.length).2) (freeL T)) hs10 TailOK.nil (Apart.nil _) ⟨⟨[], []⟩, [], []⟩ 0 1 rfl (Kk := fun c' => c' = _) rfl ?_
  rintro c1 K9 a9 w9 rfl hs11 _
  rw [wpOps_cons]
  refine wpOp_callV rfl rfl (wanted_no' rfl) hs11 hfx trivial rfl rfl (noOptL_get rfl) (inPF_lk rfl) (fun b _ => hp b) (by rw [hN]; rfl) ?_
  rintro K10 O2 v w10 rfl hs12
  have hs13 := SRK.only hs12 [5, 7] [2, 1808, 6]
  change (Code.seq _ _).wp _ _ _ _
  refine wp_seq (W13 hN (fr := [(5, .rptr (plan4 (finP T (freeL T) T.length t0.length).1 (duU T (freeL T) T.length t0.length) (duV T (freeL T) T.length t0.length) (finP T (freeL T) T.length t0.length).2) 0), (7, .ovar 2 0)]) (V := OV T (plan4 (finP T (freeL T) T.length t0.length).1 (duU T (freeL T) T.length t0.length) (duV T (freeL T) T.length t0.length) (finP T (freeL T) T.length t0.length).2) (fixE T (finP T (freeL T) T.length t0.length).2 T.length t0.length T.length 0 (freeL T))) hs13 (Q := fun e c' => e = .normal ∧ c' = _) rfl ⟨rfl, rfl⟩ ?_)
  rintro e c1 K11 a11 w11 ⟨rfl, rfl⟩ hs14
  change Code.ret.wp _ _ _ _
  exact wp_ret ⟨.inr rfl, K11, _, hs14, _, _, rfl, ⟨_, rfl, rfl, by simp, .inl ⟨rfl, rfl⟩⟩, rfl, rfl, rfl, rfl, trivial⟩
end Go.Abs.L38
