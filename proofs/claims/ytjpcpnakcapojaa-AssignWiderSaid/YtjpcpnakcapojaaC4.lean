import Derived.Test.YtjpcpnakcapojaaC3
import Derived.Test.YtjpcpnakcapojaaC38i
import Derived.Test.YtjpcpnakcapojaaN3
namespace Go.Abs
open Go.RowKit
set_option linter.unusedVariables false
/-- the nil slice in a slot, as a reading -/
theorem SRK.nil_rsl {E : Env} {K : KM} {fr : List (Nat × AV)} {O : List (Nat × OBlk)} {a : Act} {w : World} (hs : SRK E K ⟨fr, O⟩ a w) {s sz : Nat} (h : lk fr s = .nilsl) : SRK E K ⟨(s, .rsl sz 0 []) :: fr, O⟩ a w := by
  refine ⟨hs.size, hs.defers, hs.ext, fun t => ?_, hs.rows, hs.own, hs.inj, hs.mine, hs.pin⟩
  show FV w _ K _ (lk ((s, _) :: fr) t) _
  rw [lk_cons]
  split
  · rename_i e; subst e
    have hv := hs.fr s
    rw [show lk (Cfg.fr ⟨fr, O⟩) s = .nilsl from h] at hv
    exact .of (by
      rw [VR.nilsl_inv (hv.vr (by rintro _ _ _ h; cases h))]
      exact VR.rsl (cs := []) (by simp) (by simp) (Nat.le_refl _) (fun _ => rfl) (by simp) (by simp) (by simp) (by simp))
  · exact hs.fr t
end Go.Abs
namespace Go.Abs.L38
open Go Go.Abs Go.Proofs
set_option linter.unusedVariables false
set_option maxRecDepth 20000
abbrev ON (M : List Nat) : List (Nat × OBlk) := [(64, ⟨56, 1, .any, [[AU M]]⟩), (80, ⟨25, 1, .any, [[.nilsl]]⟩), (96, ⟨58, 1, .any, [[.func 38 [.ovar 80 0, .ovar 64 0, .ovar 96 0]]]⟩)]
/-- the captured variables, as extend knows them -/
theorem toOX {E : Env} (hp : ∀ b, E.pin b = none) {M : List Nat} {n : Int} {K : KM} {a : Act} {w : World}
    (hs : SRK E K ⟨[(2, .nilsl), (3, I 0), (5, .ovar 80 0), (6, .ovar 96 0), (15, I n), (16, I 0)], ON M⟩ a w) :
    ∃ K', SRK E K' ⟨[(2, .nilsl), (3, I 0), (5, .ovar 2 0), (6, .ovar 6 0), (15, I n), (16, I 0)], OX M 0 []⟩ a w := by
  have one : ∀ {b e : Nat} {u : AV}, olk (ON M) b = some ⟨e, 1, .any, [[u]]⟩ → ∃ g cur x, K b = some (some g, 1) ∧ w.heap[g]? = some (.cells cur e (0, 0)) ∧ cur[0]? = some x ∧ x.oneCell' = true ∧ VR w (XX E K (ON M)) K u x := by
    intro b e u hb
    rcases hs.own b _ hb with ⟨_, h2⟩ | ⟨g, h1, cur, hc, hu⟩
    · cases h2
    · obtain ⟨x, hx, h3, h4⟩ := hu 0 u (by simp)
      exact ⟨g, cur, x, h1, hc, hx, h3, h4⟩
  obtain ⟨g1, cur1, x1, k1, c1, y1, o1, v1⟩ := one (b := 80) rfl
  obtain ⟨g3, cur3, x3, k3, c3, y3, o3, v3⟩ := one (b := 96) rfl
  let K' : KM := fun b => if b = 2 then some (some g1, 1) else if b = 6 then some (some g3, 1) else if b = 1808 then some (none, 0) else none
  have e2 : K' 2 = some (some g1, 1) := by simp [K']
  have e6 : K' 6 = some (some g3, 1) := by simp [K']
  have e8 : K' 1808 = some (none, 0) := by simp [K']
  have hdom : ∀ {b x}, olk (OX M 0 []) b = some x → b = 2 ∨ b = 1808 ∨ b = 6 := by
    intro b x h
    simp only [olk_cons] at h
    repeat' split at h
    · omega
    · omega
    · omega
    · simp [olk] at h
  have hlive : ∀ b g, (olk (OX M 0 []) b).isSome = true → blkOf K' b = some g → (b = 2 ∧ g = g1) ∨ (b = 6 ∧ g = g3) := by
    intro b g hb hk
    obtain ⟨x, hx⟩ := Option.isSome_iff_exists.1 hb
    rcases hdom hx with rfl | rfl | rfl
    · rw [blkOf_of e2] at hk; injection hk with hk; exact .inl ⟨rfl, hk.symm⟩
    · simp [blkOf, e8] at hk
    · rw [blkOf_of e6] at hk; injection hk with hk; exact .inr ⟨rfl, hk.symm⟩
  have hX : ∀ g, XX E K' (OX M 0 []) g → XX E K (ON M) g := by
    rintro g (⟨b, hb, hk⟩ | h)
    · rcases hlive b g hb hk with ⟨_, rfl⟩ | ⟨_, rfl⟩
      · exact .inl ⟨80, rfl, blkOf_of k1⟩
      · exact .inl ⟨96, rfl, blkOf_of k3⟩
    · exact .inr h
  have hnot : ∀ {b : Nat} {g : Nat}, (olk (ON M) b).isSome = true → blkOf K b = some g → b ≠ 80 → b ≠ 96 → ¬ XX E K' (OX M 0 []) g := by
    rintro b g hb hk n1 n3 (⟨b', hb', hk'⟩ | ⟨h1, h2⟩)
    · rcases hlive b' g hb' hk' with ⟨_, rfl⟩ | ⟨_, rfl⟩
      · exact n1 (hs.inj b 80 _ hb rfl hk (blkOf_of k1))
      · exact n3 (hs.inj b 96 _ hb rfl hk (blkOf_of k3))
    · rcases hs.mine b g hb hk with h | h
      · exact E.hxf g h1 h
      · omega
  have hclo : VR w (XX E K' (OX M 0 [])) K' (cloX M) x3 := by
    obtain ⟨vs, rfl, hlen, hvs⟩ := VR.func_inv v3
    refine .func hlen fun j u x hu hx => ?_
    have rd : ∀ {b : Nat} {row : List AV} {e : Nat}, olk (ON M) b = some ⟨e, 1, .any, [row]⟩ → AV.idlessL row = true → b ≠ 80 → b ≠ 96 → VR w (XX E K (ON M)) K (.ovar b 0) x → VR w (XX E K' (OX M 0 [])) K' (.rptr row 0) x := by
      intro b row e hb hrow n1 n3 hv
      exact (hs.rptr_of (c := ⟨_, ON M⟩) hb hrow hv (fun g _ => hX g) fun g hg => hnot (by rw [hb]; rfl) hg n1 n3).any K'
    have ov : ∀ {b b' g : Nat}, K b = some (some g, 1) → K' b' = some (some g, 1) → VR w (XX E K (ON M)) K (.ovar b 0) x → VR w (XX E K' (OX M 0 [])) K' (.ovar b' 0) x := by
      intro b b' g hk hk' hv
      obtain ⟨g', h1, rfl⟩ := VR.ovar_inv hv
      rw [blkOf_of hk] at h1; injection h1 with h1; subst h1
      exact .ovar (blkOf_of hk')
    match j with
    | 0 => simp at hu; subst hu; exact ov k1 e2 (hvs 0 _ x rfl hx)
    | 1 => simp at hu; subst hu; exact rd (b := 64) rfl rfl (by decide) (by decide) (hvs 1 _ x rfl hx)
    | 2 => simp at hu; subst hu; exact ov k3 e6 (hvs 2 _ x rfl hx)
    | j + 3 => simp at hu
  have cells1 : ∀ {cur : Array Value} {x : Value} {u : AV}, cur[0]? = some x → x.oneCell' = true → VR w (XX E K' (OX M 0 [])) K' u x →
      ∀ (j : Nat) u', ([[u]] : List (List AV)).flatten[j]? = some u' → ∃ c, cur[j]? = some c ∧ c.oneCell' = true ∧ VR w (XX E K' (OX M 0 [])) K' u' c := by
    intro cur x u hx h1 hv j u' hj
    cases j with
    | zero => simp at hj; subst hj; exact ⟨x, hx, h1, hv⟩
    | succ j => simp at hj
  refine ⟨K', hs.size, hs.defers, hs.ext, fun t => ?_, fun b x hb => ?_, fun b x hb => ?_, fun b b' g h1 h2 q1 q2 => ?_, fun b g h1 q1 => ?_, fun b x hx => by rw [hp b] at hx; cases hx⟩
  · have h2 := hs.fr 2
    have h3 := hs.fr 3
    have h5 := hs.fr 5
    have h6 := hs.fr 6
    have h15 := hs.fr 15
    have h16 := hs.fr 16
    show FV w _ K' _ (lk [(2, .nilsl), (3, I 0), (5, .ovar 2 0), (6, .ovar 6 0), (15, I n), (16, I 0)] t) _
    simp only [lk_cons]
    repeat' split
    · rename_i h; subst h; rw [VR.nilsl_inv h2]; exact VR.nilsl
    · rename_i h; subst h; rw [VR.int_inv h3]; exact VR.int
    · rename_i h; subst h
      obtain ⟨g, q1, q2⟩ := VR.ovar_inv h5
      rw [blkOf_of k1] at q1; injection q1 with q1; subst q1
      rw [q2]; exact VR.ovar (blkOf_of e2)
    · rename_i h; subst h
      obtain ⟨g, q1, q2⟩ := VR.ovar_inv h6
      rw [blkOf_of k3] at q1; injection q1 with q1; subst q1
      rw [q2]; exact VR.ovar (blkOf_of e6)
    · rename_i h; subst h; rw [VR.int_inv h15]; exact VR.int
    · rename_i h; subst h; rw [VR.int_inv h16]; exact VR.int
    · exact VR.top
  · rcases hdom hb with rfl | rfl | rfl <;> injection hb with hb <;> subst hb <;> simp
  · rcases hdom hb with rfl | rfl | rfl <;> injection hb with hb <;> subst hb
    · refine .inr ⟨g1, e2, cur1, c1, cells1 y1 o1 ?_⟩
      rw [VR.nilsl_inv v1]; exact .oslnil e8
    · exact .inl ⟨e8, rfl⟩
    · exact .inr ⟨g3, e6, cur3, c3, cells1 y3 o3 hclo⟩
  · have n13 : g1 ≠ g3 := by
      intro h; subst h
      have := hs.inj 80 96 g1 rfl rfl (blkOf_of k1) (blkOf_of k3)
      cases this
    rcases hlive b g h1 q1 with ⟨rfl, rfl⟩ | ⟨rfl, rfl⟩ <;> rcases hlive b' _ h2 q2 with ⟨rfl, h⟩ | ⟨rfl, h⟩ <;> first | rfl | exact absurd h n13 | exact absurd h.symm n13
  · rcases hlive b g h1 q1 with ⟨rfl, rfl⟩ | ⟨rfl, rfl⟩
    · exact hs.mine 80 _ rfl (blkOf_of k1)
    · exact hs.mine 96 _ rfl (blkOf_of k3)
end Go.Abs.L38
namespace Go.Abs.L38
open Go Go.Abs Go.Proofs
set_option linter.unusedVariables false
set_option maxRecDepth 20000
abbrev ks20 : List Nat := [0, 2, 3, 4, 5, 6, 7, 10, 15, 16, 17, 22]
theorem W20 {E : Env} (hN : E.N = 25) {K : KM} {fr : List (Nat × AV)} {V : List (Nat × OBlk)} {a : Act} {w : World} {code : Code} {Q : Ex → Cfg → Prop} {Q' : Exit → Act → World → Prop} (hs : SRK E K ⟨fr, V⟩ a w) (hd : drawsOK code = true)
    (h : ev Try.prog tt 25 ks20 code ⟨fr, V⟩ Q) (hQ : ∀ e c' K' a' w', Q e c' → SRK E K' c' a' w' → Q' e.toExit a' w') : code.wp Try.prog Q' a w := by
  refine wp_ev (Tl := []) tabOK tabOne mixed hN TailOK.nil (Apart.nil _) hd h (by rw [List.append_nil]; exact hs) ?_
  intro e c' K' a' w' q h' _
  rw [List.append_nil] at h'
  exact hQ e c' K' a' w' q h'
def narS (T : List (List Int)) : Option (List Int) := (List.range (masksL T).length).findSome? fun k => extE (masksL T) (k + 1) 0 0 []
def narE (T : List (List Int)) : List Int × Int := if chkE T ≠ 0 then ([], 1) else match narS T with | some S => (S, 0) | none => ([], 11)
theorem range_drop {m k : Nat} (h : k < m) : (List.range m).drop k = k :: (List.range m).drop (k + 1) := by
  rw [List.drop_eq_getElem_cons (by simpa using h)]; simp
theorem c20 (T : List (List Int)) (hT : T.length ≤ 9223372036854775807) (hTb : ∀ b ∈ T, b.length ≤ 9223372036854775807) : Fn Try.prog 20 [AA T] (.tup [A (narE T).1, I (narE T).2]) := by
  by_cases hc : chkE T ≠ 0
  · rw [narE, if_pos hc]
    refine fn_nil_rsl (mk20 rfl ⟨_, c24 T hT hTb, fun h => ⟨_, _, rfl, .inl rfl, rfl, rfl, trivial⟩, fun h => ?_⟩)
    simp at h; exact absurd h hc
  have hc : chkE T = 0 := by simpa using hc
  rw [narE, if_neg (by rw [hc]; simp)]
  obtain ⟨t0, R⟩ := chk_ok hc
  have hn := R.n
  have hm := R.m
  have kc := c24 T hT hTb
  rw [hc] at kc
  have hl16 : ∀ b ∈ T, b.length ≤ 16 := fun b hb => by have := R.len b hb; omega
  have km := c37 T (by omega) hl16
  have hMl : (masksL T).length = T.length := by simp [masksL]
  have hMx : ∀ x ∈ masksL T, x < 65536 := by
    intro x hx
    obtain ⟨b, hb, rfl⟩ := List.mem_map.1 hx
    have := maskTo_lt b b.length
    have hp := Nat.pow_le_pow_right (n := 2) (by omega) (hl16 b hb)
    omega
  unfold narS
  generalize masksL T = M at *
  refine fn_ofW (N := 25) [.tmp 2, .tmp 3] tabOK Try.func20 rfl (by kernel_rfl) rfl rfl rfl ?_
  intro E K a w hN hp hs
  change (Code.seq _ _).wp _ _ _ _
  refine wp_seq (W20 hN hs (Q := fun e c' => e = .normal ∧ c' = _) rfl ⟨rfl, rfl⟩ ?_)
  rintro e c1 K1 a1 w1 ⟨rfl, rfl⟩ hs1
  change (Code.seq _ _).wp _ _ _ _
  refine wp_seq (W20 hN hs1 (Q := fun e c' => e = .normal ∧ c' = _) rfl ⟨_, kc, fun h => (by cases h), fun _ => ⟨rfl, rfl⟩⟩ ?_)
  rintro e c1 K2 a2 w2 ⟨rfl, rfl⟩ hs2
  change (Code.seq _ _).wp _ _ _ _
  refine wp_seq (W20 hN hs2 (Q := fun e c' => e = .normal ∧ c' = _) rfl ⟨_, km, true, rfl, rfl⟩ ?_)
  rintro e c1 K3 a3 w3 ⟨rfl, rfl⟩ hs3
  change (Code.seq _ _).wp _ _ _ _
  refine wp_seq (W20 hN hs3 (Q := fun e c' => e = .normal ∧ c' = _) rfl ⟨rfl, rfl⟩ ?_)
  rintro e c1 K4 a4 w4 ⟨rfl, rfl⟩ hs4
  change (Code.seq _ _).wp _ _ _ _
  refine wp_seq (W20 hN hs4 (Q := fun e c' => e = .normal ∧ c' = _) rfl ⟨rfl, rfl⟩ ?_)
  rintro e c1 K5 a5 w5 ⟨rfl, rfl⟩ hs5
  change (Code.seq _ _).wp _ _ _ _
  refine wp_seq (W20 hN hs5 (Q := fun e c' => e = .normal ∧ c' = _) rfl ⟨rfl, rfl⟩ ?_)
  rintro e c1 K6 a6 w6 ⟨rfl, rfl⟩ hs6
  change (Code.seq (Code.seq _ _) _).wp _ _ _ _
  refine wp_seq (wp_seq (W20 hN hs6 (Q := fun e c' => e = .normal ∧ c' = _) rfl ⟨rfl, rfl⟩ ?_))
  rintro e c1 K7 a7 w7 ⟨rfl, rfl⟩ hs7
  have hs8 := SRK.only hs7 [2, 3, 5, 6, 15, 16] [64, 80, 96]
  have hs9 : SRK E K7 ⟨[(2, .nilsl), (3, I 0), (5, .ovar 80 0), (6, .ovar 96 0), (15, I M.length), (16, I 0)], ON M⟩ a7 w7 := hs8
  obtain ⟨K8, hs10⟩ := toOX hp hs9
  clear hs hs1 hs2 hs3 hs4 hs5 hs6 hs7 hs8 hs9
  change (Code.block _ _).wp _ _ _ _
  refine wp_block (wp_loop_ghost (fun q a w => ∃ k : Nat, q = M.length - k ∧ k ≤ M.length ∧ (∃ K gs, SRK E K ⟨[(2, .nilsl), (3, I 0), (5, .ovar 2 0), (6, .ovar 6 0), (15, I M.length), (16, I k)], OX M 0 ((([] : List Int) ++ gs).map enc)⟩ a w) ∧ ((List.range M.length).drop k).findSome? (fun k => extE M (k + 1) 0 0 []) = (List.range M.length).findSome? (fun k => extE M (k + 1) 0 0 [])) M.length ⟨0, by omega, by omega, ⟨K8, [], hs10⟩, rfl⟩ ?_)
  clear hs10
  rintro q a w ⟨k, rfl, hk, ⟨K, gs, hs⟩, hf⟩
  refine wp_seq (W20 hN hs (Q := fun e c' => e = .normal ∧ c' = _) rfl ⟨rfl, rfl⟩ ?_)
  rintro e c1 K1 a1 w1 ⟨rfl, rfl⟩ hs1
  change (Code.seq _ _).wp _ _ _ _
  by_cases hlt : k < M.length
  · have hd : decide ((k : Int) < (M.length : Int)) = true := by simp; omega
    refine wp_seq (W20 hN hs1 (Q := fun e c' => e = .normal ∧ c' = _) rfl ⟨fun _ => ⟨rfl, rfl⟩, fun h => (by rw [show _ = true from hd] at h; cases h)⟩ ?_)
    rintro e c2 K2 a2 w2 ⟨rfl, rfl⟩ hs2
    rw [range_drop hlt, List.findSome?_cons] at hf
    change (Code.seq _ _).wp _ _ _ _
    refine wp_seq (wp_block ?_)
    change (Code.seq _ _).wp _ _ _ _
    refine wp_seq (W20 hN hs2 (Q := fun e c' => e = .normal ∧ c' = _) rfl ⟨rfl, rfl⟩ ?_)
    rintro e c3 K3 a3 w3 ⟨rfl, rfl⟩ hs3
    change (Code.seq _ _).wp _ _ _ _
    refine wp_seq (wp_region ?_)
    change wpOps _ _ _ (List.range' 0 3 ++ [3]) _ _
    refine wp_evOpsN (Tl := []) (dm := []) tabOK tabOne hN (fr := [(2, .nilsl), (3, I 0), (5, .ovar 2 0), (6, .ovar 6 0), (7, I k), (15, I M.length), (16, I k), (17, .bool (decide ((k : Int) < (M.length : Int))))]) (V := OX M 0 ((([] : List Int) ++ gs).map enc)) hs3 TailOK.nil (Apart.nil _) ⟨⟨[], []⟩, [], []⟩ 0 3 rfl (Kk := fun c' => c' = _) ⟨((k + 1 : Nat) : Int), wrapTo (by omega) (by omega) (by omega), rfl⟩ ?_
    rintro c1 K4 a4 w4 rfl hs4 _
    rw [wpOps_cons]
    refine wpOp_callT rfl rfl (wanted_no' rfl) hs4 (ext_all (by omega) hMx (k + 1) 0 0 [] (by omega) (by omega) (by omega) (by simp; omega) gs) trivial rfl rfl (noOptL_get rfl) (inPF_lk rfl) (fun b _ => hp b) (by rw [hN]; rfl) ?_
    rintro K5 O5 res v w5 ⟨rfl, gs5, rfl⟩ _ hs5
    have hs6 := SRK.only hs5 [2, 3, 5, 6, 15, 16, 22] [2, 1808, 6]
    change (Code.cond _ _ _).wp _ _ _ _
    cases hres : extE M (k + 1) 0 0 [] with
    | some S =>
      rw [hres] at hs6 hf
      have hs7 := hs6.freezeVar (bv := 2) (b := 1808) (i := 0) rfl rfl rfl
      have e : ((S ++ gs5).map enc).take S.length = S.map enc := by rw [List.map_append, List.take_append_of_le_length (by simp), List.take_of_length_le (by simp)]
      have hs8 : SRK E K5 ⟨[(2, .nilsl), (3, I 0), (5, .ovar 2 0), (6, .ovar 6 0), (15, I M.length), (16, I k), (22, .bool true)], [(2, ⟨25, 1, .any, [[.rsl 1 S.length (((S ++ gs5).map enc).take S.length)]]⟩), (6, ⟨58, 1, .any, [[cloX M]]⟩)]⟩ _ w5 := hs7
      rw [e] at hs8
      refine W20 hN hs8 (Q := fun e c' => e = .ret ∧ c' = _) rfl ⟨fun _ => ⟨rfl, rfl⟩, fun h => (by cases h)⟩ ?_
      rintro e c6 K6 a6 w6 ⟨rfl, rfl⟩ hs9
      refine ⟨.inr rfl, K6, _, hs9, _, _, rfl, ?_, ?_⟩
      · rw [← hf]; exact ⟨rfl, rfl⟩
      · rw [← hf]; exact ⟨rfl, rfl, trivial⟩
    | none =>
      rw [hres] at hs6 hf
      refine W20 hN hs6 (Q := fun e c' => e = .normal ∧ c' = _) rfl ⟨fun h => (by cases h), fun _ => ⟨rfl, rfl⟩⟩ ?_
      rintro e c6 K6 a6 w6 ⟨rfl, rfl⟩ hs7
      refine W20 hN hs7 (Q := fun e c' => e = .normal ∧ c' = _) rfl ⟨((k + 1 : Nat) : Int), wrapTo (by omega) (by omega) (by omega), rfl, rfl⟩ ?_
      rintro e c9 K9 a9 w9 ⟨rfl, rfl⟩ hs9
      have hs10 := SRK.only hs9 [2, 3, 5, 6, 15, 16] [2, 1808, 6]
      exact ⟨M.length - (k + 1), by omega, k + 1, rfl, by omega, ⟨K9, gs5, hs10⟩, hf⟩
  · have hkm : k = M.length := by omega
    subst hkm
    have hno : (List.range M.length).findSome? (fun k => extE M (k + 1) 0 0 []) = none := by
      rw [← hf, List.drop_of_length_le (by simp)]; rfl
    have hd : decide ((M.length : Int) < (M.length : Int)) = false := by simp
    refine wp_seq (W20 hN hs1 (Q := fun e c' => e = .exit 0 ∧ c' = _) rfl ⟨fun h => (by rw [show _ = false from hd] at h; cases h), fun _ => ⟨rfl, rfl⟩⟩ ?_)
    rintro e c2 K2 a2 w2 ⟨rfl, rfl⟩ hs2
    refine W20 hN hs2 (Q := fun e c' => e = .ret ∧ c' = _) rfl ⟨rfl, rfl⟩ ?_
    rintro e c4 K4 a4 w4 ⟨rfl, rfl⟩ hs4
    have hs5 := hs4.nil_rsl (s := 2) (sz := 1) rfl
    refine ⟨.inr rfl, K4, _, hs5, _, _, rfl, ?_, ?_⟩
    · rw [hno]; exact ⟨rfl, rfl⟩
    · rw [hno]; exact ⟨rfl, rfl, trivial⟩
end Go.Abs.L38
namespace Go.Abs.L38
open Go Go.Abs Go.Proofs
set_option linter.unusedVariables false
set_option maxRecDepth 100000
def T1 : List (List Int) := [[4, 1, 3], [2, 0, 5], [3, 2, 2]]
def T2 : List (List Int) := [[-1, 1, -1], [-1, 0, -1], [3, 2, 2]]
theorem w_prvE : prvE T1 = 0 := by decide +kernel
theorem w_chpL : chpL T1 = [1, 0, 2] := by decide +kernel
theorem w_chpC : chpC T1 = 5 := by decide +kernel
theorem w_nar : narE T2 = ([0, 1], 0) := by decide +kernel
theorem w_bndE : bndE T1 [3, 2, 2] [0, -2, 0] = 5 := by decide +kernel
theorem w_bndC : bndC T1 [3, 2, 2] [0, -2, 0] = 0 := by decide +kernel
theorem w_bndE2 : bndE T1 (prvU T1) (prvV T1) = 5 := by decide +kernel
theorem w_bndC2 : bndC T1 (prvU T1) (prvV T1) = 0 := by decide +kernel
theorem k13 : Fn Try.prog 13 [AA T1] (.tup [fA [1, 0, 2], I 5, I 0]) := by
  have := c13 T1 (by decide) (by decide)
  rw [w_chpL, w_chpC, w_prvE] at this
  exact this
theorem k17 : Fn Try.prog 17 [AA T1, .agg [A [3, 2, 2], A [0, -2, 0]]] (.tup [I 5, I 0]) := by
  have := c17 T1 (by decide) (by decide) [3, 2, 2] [0, -2, 0]
  rw [w_bndE, w_bndC] at this
  exact this
theorem k17b : Fn Try.prog 17 [AA T1, .agg [A (prvU T1), A (prvV T1)]] (.tup [I 5, I 0]) := by
  have := c17 T1 (by decide) (by decide) (prvU T1) (prvV T1)
  rw [w_bndE2, w_bndC2] at this
  exact this
theorem k28 : Fn Try.prog 28 [AA T1] (.tup [.agg [A (prvU T1), A (prvV T1)], I 0]) := by
  have := c28 T1 (by decide) (by decide)
  rw [w_prvE] at this
  exact this
theorem k20 : Fn Try.prog 20 [AA T2] (.tup [A [0, 1], I 0]) := by
  have := c20 T2 (by decide) (by decide)
  rw [w_nar] at this
  exact this
end Go.Abs.L38
namespace Go.Abs
open Go.RowKit
set_option linter.unusedVariables false
/-- a row of a slice of slices is written no more -/
theorem SRK.freezeRow {E : Env} {K : KM} {a : Act} {w : World} {fr : List (Nat × AV)} {O : List (Nat × OBlk)} {o b eo i e sz n : Nat} {R rows : List (List AV)} (hs : SRK E K ⟨fr, O⟩ a w) (ho : olk O o = some ⟨eo, 1, .any, R⟩) (hb : olk O b = some ⟨e, sz, .pure, rows⟩) (hi : R[i]? = some [.osl b sz n]) :
    SRK E K ⟨fr, setO o ⟨eo, 1, .any, R.set i [.rsl sz n (rows.take n)]⟩ (delO b O)⟩ a w := by
  have hne : b ≠ o := by
    rintro rfl
    rw [hb] at ho; cases ho
  have h1 := hs.del b
  have ho' : olk (delO b O) o = some ⟨eo, 1, .any, R⟩ := by rw [olk_delO, if_neg hne]; exact ho
  have hrl := hs.rows o _ ho
  have hrl' : ∀ row ∈ R.set i [.rsl sz n (rows.take n)], row.length = 1 := by
    intro r hr
    rcases List.mem_or_eq_of_mem_set hr with h | rfl
    · exact hrl r h
    · rfl
  refine h1.recast (c := ⟨fr, delO b O⟩) ho' (by rintro h; simp only at h; rw [h] at hi; cases hi) (by simp) hrl' (fun g _ hB => ?_)
  obtain ⟨cur, hc, hu⟩ := hB
  refine ⟨cur, hc, fun j u hj => ?_⟩
  have hj2 := (one_flat hrl').1 hj
  rw [List.getElem?_set] at hj2
  by_cases e1 : i = j
  · subst e1
    rw [if_pos rfl] at hj2
    have hil := (List.getElem?_eq_some_iff.1 hi).1
    rw [if_pos hil] at hj2
    injection hj2 with hj2
    injection hj2 with hj2 _
    subst hj2
    obtain ⟨x, hx, h3, h4⟩ := hu i _ ((one_flat hrl).2 hi)
    refine ⟨x, hx, h3, ?_⟩
    have hv : VR w (XX E K (Cfg.O ⟨fr, O⟩)) K (.osl b sz n) x := by
      rcases VR.osl_inv h4 with ⟨q1, rfl, rfl⟩ | ⟨g', cap, cur', e', mm, hK, hnm, rfl, hc', hnc, hmx, hcur⟩
      · exact .oslnil q1
      · exact .osl hK hnm hc' hnc hmx hcur
    exact (hs.freeze (blk := ⟨e, sz, .pure, rows⟩) hb rfl hv).any K
  · rw [if_neg e1] at hj2
    exact hu j u ((one_flat hrl).2 hj2)
/-- readings alone -/
theorem SRK.flat {E : Env} {K : KM} {a : Act} {w : World} {fr : List (Nat × AV)} {O : List (Nat × OBlk)} {o eo sz : Nat} {R : List (List AV)} (hs : SRK E K ⟨fr, O⟩ a w) (ho : olk O o = some ⟨eo, sz, .any, R⟩) (hi : AV.idlessL R.flatten = true) :
    SRK E K ⟨fr, setO o ⟨eo, sz, .flat, R⟩ O⟩ a w := by
  refine hs.recastK (c := ⟨fr, O⟩) ho rfl rfl fun g hB => ?_
  obtain ⟨cur, hc, hu⟩ := hB
  refine ⟨cur, hc, fun j u hj => ?_⟩
  obtain ⟨x, h1, h2, h3⟩ := hu j u hj
  exact ⟨x, h1, h2, idless_sound h3 (idlessL_get hi hj) _⟩
theorem SRK.unflat {E : Env} {K : KM} {a : Act} {w : World} {fr : List (Nat × AV)} {O : List (Nat × OBlk)} {o eo sz : Nat} {R : List (List AV)} (hs : SRK E K ⟨fr, O⟩ a w) (ho : olk O o = some ⟨eo, sz, .flat, R⟩) :
    SRK E K ⟨fr, setO o ⟨eo, sz, .any, R⟩ O⟩ a w := by
  refine hs.recastK (c := ⟨fr, O⟩) ho rfl rfl fun g hB => ?_
  obtain ⟨cur, hc, hu⟩ := hB
  refine ⟨cur, hc, fun j u hj => ?_⟩
  obtain ⟨x, h1, h2, h3⟩ := hu j u hj
  exact ⟨x, h1, h2, h3.any K⟩
end Go.Abs
namespace Go.Abs.L38
open Go Go.Abs Go.Proofs
set_option linter.unusedVariables false
set_option maxRecDepth 100000
abbrev ks11 : List Nat := [0, 1, 2, 3, 4, 5, 6, 7, 8, 9, 10, 11, 12]
theorem W11 {E : Env} (hN : E.N = 90) {K : KM} {fr : List (Nat × AV)} {V : List (Nat × OBlk)} {a : Act} {w : World} {code : Code} {Q : Ex → Cfg → Prop} {Q' : Exit → Act → World → Prop} (hs : SRK E K ⟨fr, V⟩ a w) (hd : drawsOK code = true)
    (h : ev Try.prog tt 90 ks11 code ⟨fr, V⟩ Q) (hQ : ∀ e c' K' a' w', Q e c' → SRK E K' c' a' w' → Q' e.toExit a' w') : code.wp Try.prog Q' a w := by
  refine wp_ev (Tl := []) tabOK tabOne mixed hN TailOK.nil (Apart.nil _) hd h (by rw [List.append_nil]; exact hs) ?_
  intro e c' K' a' w' q h' _
  rw [List.append_nil] at h'
  exact hQ e c' K' a' w' q h'
abbrev bA : List (Nat × OBlk) := [(208, ⟨3, 1, .pure, [4, 1, 3].map enc⟩), (224, ⟨3, 1, .pure, [2, 0, 5].map enc⟩), (240, ⟨3, 1, .pure, [3, 2, 2].map enc⟩), (256, ⟨25, 1, .any, [[.osl 208 1 3], [.osl 224 1 3], [.osl 240 1 3]]⟩)]
abbrev bB (k : Kd) (T : List (List Int)) : List (Nat × OBlk) := [(256, ⟨25, 1, k, T.map encT⟩)]
abbrev fA1 : List (Nat × AV) := [(0, .bool false), (1, .osl 256 1 3)]
abbrev gA1 : List (Nat × AV) := [(0, .bool false), (1, AA T1)]
abbrev gB1 : List (Nat × AV) := gA1 ++ [(2, .osl 320 1 3), (3, I 5), (4, I 0)]
abbrev gC1 : List (Nat × AV) := gB1 ++ [(5, I 5), (6, I 0)]
abbrev gD1 : List (Nat × AV) := gC1 ++ [(7, .ovar 112 0), (8, I 0)]
abbrev gE1 : List (Nat × AV) := [(0, .bool false), (2, .osl 320 1 3), (3, I 5), (4, I 0), (5, I 5), (6, I 0), (8, I 0), (9, I 5), (10, I 0)]
abbrev gF1 : List (Nat × AV) := [(0, .bool false), (1, .osl 256 1 3), (2, .osl 320 1 3), (3, I 5), (4, I 0), (5, I 5), (6, I 0), (8, I 0), (9, I 5), (10, I 0)]
abbrev oB : List (Nat × OBlk) := [(320, ⟨3, 1, .pure, [1, 0, 2].map enc⟩)]
abbrev oD : List (Nat × OBlk) := oB ++ [(112, ⟨32, 2, .any, [[A (prvU T1), A (prvV T1)]]⟩)]
/-- the regions behind -/
def rg11 : Nat → Code → Code
  | 0, .seq c _ => c
  | n + 1, .seq _ c => rg11 n c
  | _, c => c
theorem reg11 {E : Env} (hN : E.N = 90) {K : KM} {c c' : Cfg} {a : Act} {w : World} {ops : Array Oper} {id : Nat} {dr : Bool} {dm : List (Nat × Bool)} {Q' : Exit → Act → World → Prop} (hs : SRK E K c a w) (hd : dstsOK 1 ops = true) (hdr : (!dr || drawSt ops) = true)
    (h : evOps dr Try.prog tt 90 dm ops ⟨c, [], []⟩ 0 ops.toList c fun c1 => endK ks11 c1 (fun c2 => c2 = c'))
    (hQ : ∀ K' a' w', SRK E K' c' a' w' → a'.tmps.getD 1 undef = a.tmps.getD 1 undef → Q' .normal a' w') : (Code.region id ops dr).wp Try.prog Q' a w := by
  refine region_stays tabOK tabOne hN mixed hd hdr h ⟨K, hs⟩ ?_
  rintro c1 a1 w1 hk hs1 hx
  have hk2 := endK_iff.1 hk
  obtain ⟨K2, hs2⟩ := SR.endK (ks := ks11) hs1
  rw [hk2] at hs2
  exact hQ K2 a1 w1 hs2 hx
def tail11 : Code → Code
  | .seq _ (.seq _ (.seq _ (.seq _ (.seq _ (.seq _ c))))) => c
  | c => c
theorem k11b {E : Env} (hN : E.N = 90) (hp : ∀ b, E.pin b = none) {K7 : KM} {a6 : Act} {w6 : World} (hs7 : SRK E K7 ⟨(1, .osl 256 1 3) :: gE1, bB .any T1 ++ oB⟩ a6 w6) : (tail11 (body Try.f11)).wp Try.prog (EndW tt [.tmp 0] (.bool true) E) a6 w6 := by
  change (Code.seq _ _).wp _ _ _ _
  refine wp_seq (W11 (fr := (1, .osl 256 1 3) :: gE1) (V := bB .any T1 ++ oB) hN hs7 (Q := fun e c' => e = .normal ∧ c' = _) rfl ⟨⟨by omega, by omega⟩, _, rfl, ⟨by omega, by omega⟩, _, rfl, rfl, rfl⟩ ?_)
  rintro e c1 K8 a8 w8 ⟨rfl, rfl⟩ hs8
  replace hs8 := SRK.only hs8 [0, 1, 2, 3, 4, 5, 6, 8, 9, 10] [256, 320, 768, 784]
  replace hs8 : SRK E K8 ⟨gF1, [(256, ⟨25, 1, .any, [[.osl 768 1 3], [.osl 784 1 3], [A [3, 2, 2]]]⟩)] ++ oB ++ [(768, ⟨3, 1, .pure, [-1, 1, -1].map enc⟩), (784, ⟨3, 1, .pure, [-1, 0, -1].map enc⟩)]⟩ a8 w8 := hs8
  replace hs8 := hs8.freezeRow (o := 256) (b := 768) (i := 0) rfl rfl rfl
  replace hs8 := hs8.freezeRow (o := 256) (b := 784) (i := 1) rfl rfl rfl
  replace hs8 := hs8.flat (o := 256) rfl rfl
  replace hs8 := hs8.freezeF (s := 1) (b := 256) (n := 3) rfl rfl rfl
  replace hs8 : SRK E K8 ⟨(1, AA T2) :: gF1, oB⟩ a8 w8 := hs8
  change (Code.seq _ _).wp _ _ _ _
  refine wp_seq (W11 (fr := (1, AA T2) :: gF1) (V := oB) hN hs8 (Q := fun e c' => e = .normal ∧ c' = _) rfl ⟨_, c14 T2 (by decide) (by decide), true, _, k20, rfl, rfl⟩ ?_)
  rintro e c1 K9 a9 w9 ⟨rfl, rfl⟩ hs9
  replace hs9 := SRK.only hs9 [0, 2, 3, 4, 5, 6, 8, 9, 10, 11, 12] [320]
  replace hs9 : SRK E K9 ⟨[(0, .bool false), (2, .osl 320 1 3), (3, I 5), (4, I 0), (5, I 5), (6, I 0), (8, I 0), (9, I 5), (10, I 0), (11, A [0, 1]), (12, I 0)], oB⟩ a9 w9 := hs9
  change (Code.seq _ _).wp _ _ _ _
  refine wp_seq (W11 hN hs9 (Q := fun e c' => e = .normal ∧ lk c'.fr 0 = .bool true) rfl ⟨[(3, true), (7, true), (11, true), (15, true), (20, true)], _, c16 [1, 0, 2] [1, 0, 2] (by decide), rfl, rfl, rfl, rfl, _, c16 [0, 1] [0, 1] (by decide), rfl, 0, rfl, 0, rfl, 0, rfl, 0, rfl, rfl, rfl⟩ ?_)
  rintro e c1 K10 a10 w10 ⟨rfl, hq⟩ hs10
  change Code.ret.wp _ _ _ _
  refine wp_ret ⟨.inr rfl, K10, c1, hs10, rfl, ?_⟩
  change ret1 c1 (lk c1.fr 0) (.bool true)
  rw [hq]
  exact ⟨rfl, rfl⟩
theorem k11 : Fn Try.prog 11 [] (.bool true) := by
  refine fn_ofW (N := 90) [.tmp 0] tabOK Try.func11 rfl (by kernel_rfl) rfl rfl rfl ?_
  intro E K a w hN hp hs
  change (Code.seq _ _).wp _ _ _ _
  refine wp_seq (W11 hN hs (Q := fun e c' => e = .normal ∧ c' = _) rfl ⟨rfl, rfl⟩ ?_)
  rintro e c1 K1 a1 w1 ⟨rfl, rfl⟩ hs
  change (Code.seq _ _).wp _ _ _ _
  refine wp_seq (W11 hN hs (Q := fun e c' => e = .normal ∧ c' = _) rfl ⟨rfl, rfl⟩ ?_)
  rintro e c1 K2 a2 w2 ⟨rfl, rfl⟩ hs
  replace hs : SRK E K2 ⟨fA1, bA⟩ a2 w2 := hs
  replace hs := hs.freezeRow (o := 256) (b := 208) (i := 0) rfl rfl rfl
  replace hs := hs.freezeRow (o := 256) (b := 224) (i := 1) rfl rfl rfl
  replace hs := hs.freezeRow (o := 256) (b := 240) (i := 2) rfl rfl rfl
  replace hs := hs.flat (o := 256) rfl rfl
  replace hs : SRK E K2 ⟨fA1, bB .flat T1⟩ a2 w2 := hs
  change (Code.seq _ _).wp _ _ _ _
  have hv := view_sound hs (u := .osl 256 1 3) (u' := AA T1) rfl ((hs.fr 1).vr (by rintro _ _ _ h; cases h))
  have hin := hs.goIn (fr := gA1) (fun t => by
    simp only [lk_cons]
    split
    · rename_i h; subst h
      exact scalar_sound rfl ((hs.fr 0).vr (by rintro _ _ _ h; cases h)) _ _
    · split
      · rename_i h; subst h; exact hv
      · exact VR.top)
  have hN' : (innerE E w2 fun w' hx => E.hwi w' (ext_in hs hx)).N = 90 := hN
  generalize hI : (innerE E w2 fun w' hx => E.hwi w' (ext_in hs hx)) = E' at hin hN'
  change (Code.seq _ _).wp _ _ _ _
  refine wp_seq (reg11 (c' := ⟨gB1, oB⟩) (dm := []) hN' hin rfl rfl ⟨_, c14 T1 (by decide) (by decide), true, _, k13, false, rfl⟩ fun K3 a3 w3 h3 x3 => ?_)
  change (Code.seq _ _).wp _ _ _ _
  refine wp_seq (reg11 (c' := _) (dm := []) hN' h3 rfl rfl ⟨_, c14 T1 (by decide) (by decide), true, _, k17, rfl⟩ fun K4 a4 w4 h4 x4 => ?_)
  have h4 := SRK.only h4 [0, 1, 2, 3, 4, 5, 6] [320]
  replace h4 : SRK E' K4 ⟨gC1, oB⟩ a4 w4 := h4
  change (Code.seq _ _).wp _ _ _ _
  refine wp_seq (reg11 (c' := _) (dm := []) hN' h4 rfl rfl ⟨_, c14 T1 (by decide) (by decide), true, _, k28, rfl⟩ fun K5 a5 w5 h5 x5 => ?_)
  have h5 := SRK.only h5 [0, 1, 2, 3, 4, 5, 6, 7, 8] [320, 112]
  replace h5 : SRK E' K5 ⟨gD1, oD⟩ a5 w5 := h5
  change (Code.seq _ _).wp _ _ _ _
  refine wp_seq (reg11 (c' := _) (dm := []) hN' h5 rfl rfl ⟨_, c14 T1 (by decide) (by decide), true, _, k17b, rfl⟩ fun K6 a6 w6 h6 x6 => ?_)
  have h6 := SRK.only h6 [0, 2, 3, 4, 5, 6, 8, 9, 10] [320]
  replace h6 : SRK E' K6 ⟨gE1, oB⟩ a6 w6 := h6
  subst hI
  obtain ⟨K7, hs7⟩ := hs.goOut (b := 256) (s := 1) (n := 3) (by intro h; cases h) hp rfl h6 (x6.trans (x5.trans (x4.trans x3))) rfl (fun i x hi => by
    simp only [olk_cons] at hi
    split at hi
    · injection hi with hi; subst hi; rfl
    · cases hi) (outF_lk rfl)
  replace hs7 : SRK E K7 ⟨(1, .osl 256 1 3) :: gE1, bB .flat T1 ++ oB⟩ a6 w6 := hs7
  exact k11b hN hp (hs7.unflat (o := 256) rfl)
end Go.Abs.L38
