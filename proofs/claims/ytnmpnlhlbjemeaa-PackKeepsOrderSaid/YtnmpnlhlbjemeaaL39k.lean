import Derived.Test.YtnmpnlhlbjemeaaL39i
import Derived.Test.YtnmpnlhlbjemeaaP39f
namespace Go.Abs.L39
open Go Go.Abs Go.Proofs
set_option linter.unusedVariables false
set_option maxRecDepth 20000
def loopCode9 : Code → Code
  | .seq _ (.seq _ (.seq _ (.seq _ (.seq _ (.seq _ (.seq _ (.seq _ (.seq _ (.seq (.seq _ (.block _ (.loop (.seq _ (.seq _ (.seq (.block _ c) _)))))) _))))))))) => c
  | c => c
def app9 (c : Code) : Code := match loopCode9 c with | .seq _ (.seq _ c) => c | c => c
def new9 (c : Code) : Code := match loopCode9 c with | .seq _ (.seq c _) => c | c => c
abbrev ks9 : List Nat := [0, 1, 2, 6, 7, 8, 9, 11, 13, 14, 15, 17, 25, 34, 38, 39, 40, 41, 44, 45, 46, 47, 52, 69, 71, 72, 73, 81]
abbrev F9 (l : List Int) (room : Int) (cuts : List Int) (X : List (List Int)) (m : Nat) (i : Nat) : List (Nat × AV) := [(0, A l), (1, I room), (2, A cuts), (7, AA X), (14, .osl 1344 1 m), (15, I i), (71, I l.length), (72, I i)]
abbrev G9 (l : List Int) (room : Int) (cuts : List Int) (X : List (List Int)) (m : Nat) (i : Nat) : List (Nat × AV) := [(0, A l), (1, I room), (2, A cuts), (7, AA X), (14, .osl 1344 1 m), (71, I l.length), (72, I i)]
theorem ev9 (l : List Int) (room : Int) (cuts : List Int) (X : List (List Int)) (i : Nat) (kk m : Nat) (inner : List (List AV)) (R : List (List AV)) (hm : m = kk + 1) (hRk : R[kk]? = some [.osl 1504 1 inner.length]) (hRh : ∀ b, hasRow b R = (1504 == b)) (hi : inner.length ≤ 100000) (hRp : (purgeR 1504 R)[kk]? = some [.top]) (hmm : m ≤ 10000) :
    ev Try.prog tt 114 ks9 (app9 (body Try.f9)) ⟨F9 l room cuts X m i, [(1504, ⟨3, 1, .pure, inner⟩), (1344, ⟨22, 1, .any, R⟩)]⟩
      fun e c => e = .normal ∧ c = ⟨F9 l room cuts X m i, [(1504, ⟨3, 1, .pure, inner.take inner.length ++ [enc i]⟩), (1344, ⟨22, 1, .any, (purgeR 1504 R).set (((m : Nat) : Int) - 1).toNat [.osl 1504 1 (inner.length + 1)]⟩), (1536, ⟨3, 1, .pure, [enc i]⟩)]⟩ := by
  subst hm
  have hj : ((((kk + 1 : Nat) : Int) - 1)).toNat = kk := by omega
  refine ⟨_, wrap64 (by omega) (by omega), _, wrap64 (by omega) (by omega), ⟨by omega, by omega⟩, [.osl 1504 1 inner.length], by rw [hj]; exact hRk, ?_⟩
  conv => whnf
  refine mtrue ?_ ?_
  · refine chk3 ?_ rfl rfl
    exact freshD_new rfl (freshO_pure rfl (freshO_any rfl (hRh _) rfl)) rfl
  refine ⟨⟨by show (inner.length + 1) * 8 ≤ 140737488355328; omega, by omega⟩, ⟨by omega, by omega⟩, [.top], ?_, ?_⟩
  · show (purgeR 1504 R)[(((kk + 1 : Nat) : Int) - 1).toNat]? = some [.top]
    rw [hj]
    exact hRp
  · exact ⟨rfl, rfl⟩
theorem W9 {E : Env} (hN : E.N = 114) {K : KM} {fr : List (Nat × AV)} {V Tl : List (Nat × OBlk)} {a : Act} {w : World} {code : Code} {Q : Ex → Cfg → Prop} {Q' : Exit → Act → World → Prop} (hs : SRK E K ⟨fr, V ++ Tl⟩ a w) (htl : TailOK Tl) (hap : Apart V Tl) (hd : drawsOK code = true)
    (h : ev Try.prog tt 114 ks9 code ⟨fr, V⟩ Q) (hQ : ∀ e c' K' a' w', Q e c' → SRK E K' ⟨c'.fr, c'.O ++ Tl⟩ a' w' → Left K V w K' w' → Q' e.toExit a' w') : code.wp Try.prog Q' a w :=
  wp_ev tabOK tabOne mixed hN htl hap hd h hs hQ
theorem wpApp9 {E : Env} (hN : E.N = 114) (hp : ∀ b, E.pin b = none) {l : List Int} {room : Int} {cuts : List Int} {X : List (List Int)} {i : Nat} {T : List (List Int)} {t : List Int} {us : List Value} {kk : Nat} {K : KM} {a : Act} {w : World} {Q : Exit → Act → World → Prop}
    (hs : SRK E K ⟨F9 l room cuts X T.length i, [(1344, ⟨22, 1, .pure, lits us⟩)] ++ fam 3 1 (TT T)⟩ a w) (hl : LitF w K 1 us (TT T)) (hm : T.length = kk + 1) (ht : T[kk]? = some t) (hti : t.length ≤ 2000) (hmm : T.length ≤ 10000)
    (hQ : ∀ K' us' a' w', SRK E K' ⟨F9 l room cuts X T.length i, [(1344, ⟨22, 1, .pure, lits us'⟩)] ++ fam 3 1 (TT (T.set kk (t ++ [(i : Int)])))⟩ a' w' → LitF w' K' 1 us' (TT (T.set kk (t ++ [(i : Int)]))) → us'.length = us.length → Q .normal a' w') : (app9 (body Try.f9)).wp Try.prog Q a w := by
  have ht' : (TT T)[kk]? = some (t.map enc) := by simp [TT, ht]
  have hkl : kk < us.length := by
    have := hl.len
    simp [TT] at this; omega
  obtain ⟨K1, hs1, hl1, _⟩ := nest_open (x := 1504) (k := kk) (o := 1344) hs hl rfl rfl rfl (hp _) (by decide) (fun s => freshF_lk s rfl) (fun i y h hk => (freshO_olk (b := 1504) (O := [(1344, ⟨22, 1, .pure, lits us⟩)]) rfl h).2 hk) ht'
  refine wp_ev (fr := F9 l room cuts X T.length i) (V := [(1504, ⟨3, 1, .pure, t.map enc⟩), (1344, ⟨22, 1, .any, (lits us).set kk [.osl 1504 1 (t.map enc).length]⟩)]) (Tl := delO (fid kk) (fam 3 1 (TT T))) tabOK tabOne mixed hN (del_ok fam_ok) (del_apart (fam_apart rfl)) (by rfl)
    (ev9 l room cuts X i kk T.length (t.map enc) _ hm (by rw [List.getElem?_set_self (by rw [lits_len]; exact hkl)]) (fun b => hasRow_open b us kk hkl) (by simp; omega) (by rw [purge_open us kk hkl, List.getElem?_set_self (by rw [lits_len]; exact hkl)]) hmm) hs1 ?_
  rintro e c' K2 a2 w2 ⟨rfl, rfl⟩ hs2 hl2
  have hj : (((T.length : Nat) : Int) - 1).toNat = kk := by omega
  rw [List.take_length, hj, purge_open us kk hkl, List.set_set] at hs2
  have hs3 := SRK.onlyT hs2 (del_apart (fam_apart rfl)) [0, 1, 2, 7, 14, 15, 71, 72] [1504, 1344]
  obtain ⟨K4, v', hs4, hl4, _⟩ := nest_back (o := 1344) (y := 1504) (k := kk) (t' := t.map enc ++ [enc i]) (us := us) (T := TT T) (V := [(1504, ⟨3, 1, .pure, t.map enc ++ [enc i]⟩), (1344, ⟨22, 1, .any, (lits us).set kk [.osl 1504 1 ((t.map enc).length + 1)]⟩)]) hs3 (hl1.left hl2) rfl (by simp [TT]; omega) rfl (by simp) rfl (by decide) (fun j => hp _) rfl rfl (by decide)
  rw [← TT_app] at hs4 hl4
  exact hQ K4 _ a2 w2 hs4 hl4 (by simp)
/-- a new box, where it is cut -/
theorem wpNew9 {E : Env} (hN : E.N = 114) (hp : ∀ b, E.pin b = none) {l : List Int} {room : Int} {cuts : List Int} {X : List (List Int)} {i : Nat} {T : List (List Int)} {us : List Value} {K : KM} {a : Act} {w : World} {Q : Exit → Act → World → Prop} (hcl : cuts.length ≤ 60)
    (hs : SRK E K ⟨F9 l room cuts X T.length i, [(1344, ⟨22, 1, .pure, lits us⟩)] ++ fam 3 1 (TT T)⟩ a w) (hl : LitF w K 1 us (TT T)) (hus : us.length = T.length) (hmm : T.length ≤ 10000)
    (hQ : ∀ K' us' a' w', SRK E K' ⟨F9 l room cuts X (if cutB cuts i = true then T ++ [[]] else T).length i, [(1344, ⟨22, 1, .pure, lits us'⟩)] ++ fam 3 1 (TT (if cutB cuts i = true then T ++ [[]] else T))⟩ a' w' → LitF w' K' 1 us' (TT (if cutB cuts i = true then T ++ [[]] else T)) → us'.length = (if cutB cuts i = true then T ++ [[]] else T).length → Q .normal a' w') :
    (new9 (body Try.f9)).wp Try.prog Q a w := by
  change (Code.seq _ _).wp _ _ _ _
  have h30 := c30 cuts (by omega) (i : Int)
  have hcut : ∃ b : Bool, b = cutB cuts i := ⟨_, rfl⟩
  obtain ⟨cb, hcb⟩ := hcut
  have hreg : ∀ Q' : Exit → Act → World → Prop, (∀ K1 a1 w1 (v : Bool), v = cutB cuts i → SRK E K1 ⟨F9 l room cuts X T.length i ++ [(81, .bool v)], [(1344, ⟨22, 1, .pure, lits us⟩)] ++ fam 3 1 (TT T)⟩ a1 w1 → LitF w1 K1 1 us (TT T) → Q' .normal a1 w1) → (match new9 (body Try.f9) with | .seq r _ => r | c => c).wp Try.prog Q' a w := by
    intro Q' hk
    by_cases h0 : i = 0
    · refine W9 hN hs fam_ok (fam_apart rfl) (Q := fun e c' => e = .normal ∧ c' = _) rfl ⟨[(2, true)], by simp [h0], rfl, rfl⟩ ?_
      rintro e c1 K1 a1 w1 ⟨rfl, rfl⟩ hs1 hl1
      exact hk K1 a1 w1 true (by simp [cutB, h0]) hs1 (hl.left hl1)
    · refine W9 hN hs fam_ok (fam_apart rfl) (Q := fun e c' => e = .normal ∧ c' = _) rfl ⟨[(2, false)], by simp; omega, _, h30, rfl, rfl⟩ ?_
      rintro e c1 K1 a1 w1 ⟨rfl, rfl⟩ hs1 hl1
      exact hk K1 a1 w1 _ (by simp [cutB, h0]) hs1 (hl.left hl1)
  refine wp_seq (hreg _ ?_)
  clear hreg hs hl
  intro K1 a1 w1 v hv hs1 hlf
  rw [← hv] at hQ
  change (Code.cond _ _ _).wp _ _ _ _
  cases v with
  | true =>
    rw [if_pos rfl] at hQ
    refine W9 hN hs1 fam_ok (fam_apart rfl) (Q := fun e c' => e = .normal ∧ c' = _) rfl ⟨fun _ => ⟨⟨by show (T.length + 1) * 24 ≤ _; omega, by omega⟩, ⟨rfl, rfl⟩⟩, fun h => (by cases h)⟩ ?_
    rintro e c2 K2 a2 w2 ⟨rfl, rfl⟩ hs2 hl2
    have hlf2 := hlf.left hl2
    have hs3 := SRK.onlyT hs2 (fam_apart rfl) [0, 1, 2, 7, 14, 15, 71, 72] [1344]
    have htk : (lits us).take T.length = lits us := List.take_of_length_le (by rw [lits_len]; omega)
    have hs4 := SRK.lits (o := 1344) (eo := 22) (rows := (lits us).take T.length ++ [[.nilsl]]) hs3 rfl (fun row hr => by
      rw [htk] at hr
      rcases List.mem_append.1 hr with h | h
      · exact lits_ok us row h
      · simp at h; subst h; rfl)
    rw [htk, List.map_append, lits_toLit] at hs4
    obtain ⟨K5, hs5, hl5, _⟩ := nest_nil (V := [(1344, ⟨22, 1, .pure, lits (us ++ [nilS])⟩)]) hs4 (hlf2.app [nilS]) rfl (hp _) (noFF_lk _ rfl) (noFO_all rfl rfl _) (by simp [TT, hus])
    rw [show TT T ++ [[]] = TT (T ++ [[]]) by simp [TT]] at hs5 hl5
    exact hQ K5 _ a2 w2 (by rw [List.length_append]; exact hs5) hl5 (by simp [hus])
  | false =>
    rw [if_neg (by simp)] at hQ
    refine W9 hN hs1 fam_ok (fam_apart rfl) (Q := fun e c' => e = .normal ∧ c' = _) rfl ⟨fun h => (by cases h), fun _ => ⟨rfl, rfl⟩⟩ ?_
    rintro e c2 K2 a2 w2 ⟨rfl, rfl⟩ hs2 hl2
    exact hQ K2 us a2 w2 (SRK.onlyT hs2 (fam_apart rfl) [0, 1, 2, 7, 14, 15, 71, 72] [1344]) (hlf.left hl2) hus
end Go.Abs.L39
