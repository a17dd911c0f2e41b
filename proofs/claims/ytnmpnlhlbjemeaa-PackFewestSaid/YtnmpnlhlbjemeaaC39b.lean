import Derived.Test.YtnmpnlhlbjemeaaC39a
import Derived.Test.YtnmpnlhlbjemeaaNst4
namespace Go.Abs.L39
open Go Go.Abs Go.Proofs
set_option linter.unusedVariables false
set_option maxRecDepth 20000
abbrev TT (T : List (List Int)) : List (List (List AV)) := T.map fun t => t.map enc
/-- the code of a function's loop -/
def loopCode12 : Code → Code
  | .seq _ (.seq _ (.seq _ (.seq _ (.seq (.seq _ (.block _ (.loop (.seq _ (.seq _ (.seq (.block _ c) _)))))) _)))) => c
  | c => c
def app12 (c : Code) : Code := match loopCode12 c with | .seq _ (.seq _ (.seq _ c)) => c | c => c
abbrev ks12 : List Nat := [0, 1, 4, 5, 6, 7, 8, 9, 13, 14, 15, 16, 17, 23]
theorem ev12 (l : List Int) (room left i n k : Int) (kk m : Nat) (inner : List (List AV)) (R : List (List AV)) (hm : m = kk + 1) (hRk : R[kk]? = some [.osl 768 1 inner.length]) (hRh : ∀ b, hasRow b R = (768 == b)) (hi : inner.length ≤ 100000) (hRp : (purgeR 768 R)[kk]? = some [.top]) (hmm : m ≤ 10000) :
    ev Try.prog tt 47 ks12 (app12 (body Try.f12)) ⟨[(0, A l), (1, I room), (4, .nilsl), (5, I 0), (6, .osl 752 1 m), (7, I left), (8, I i), (9, I n), (14, A l), (15, I l.length), (16, I k)], [(768, ⟨3, 1, .pure, inner⟩), (752, ⟨22, 1, .any, R⟩)]⟩
      fun e c => e = .normal ∧ c = ⟨[(0, A l), (1, I room), (4, .nilsl), (5, I 0), (6, .osl 752 1 m), (7, I left), (8, I i), (9, I n), (14, A l), (15, I l.length), (16, I k)], [(768, ⟨3, 1, .pure, inner.take inner.length ++ [enc i]⟩), (752, ⟨22, 1, .any, (purgeR 768 R).set (((m : Nat) : Int) - 1).toNat [.osl 768 1 (inner.length + 1)]⟩), (672, ⟨3, 1, .pure, [enc i]⟩)]⟩ := by
  subst hm
  have hj : ((((kk + 1 : Nat) : Int) - 1)).toNat = kk := by omega
  refine ⟨_, wrap64 (by omega) (by omega), _, wrap64 (by omega) (by omega), ⟨by omega, by omega⟩, [.osl 768 1 inner.length], by rw [hj]; exact hRk, ?_⟩
  conv => whnf
  refine mtrue ?_ ?_
  · refine chk3 ?_ rfl rfl
    exact freshD_new rfl (freshO_pure rfl (freshO_any rfl (hRh _) rfl)) rfl
  refine ⟨⟨by show (inner.length + 1) * 8 ≤ 140737488355328; omega, by omega⟩, ⟨by omega, by omega⟩, [.top], ?_, ?_⟩
  · show (purgeR 768 R)[(((kk + 1 : Nat) : Int) - 1).toNat]? = some [.top]
    rw [hj]
    exact hRp
  · exact ⟨rfl, rfl⟩
abbrev F12 (l : List Int) (room : Int) (m : Nat) (left i n k : Int) : List (Nat × AV) := [(0, A l), (1, I room), (4, .nilsl), (5, I 0), (6, .osl 752 1 m), (7, I left), (8, I i), (9, I n), (14, A l), (15, I l.length), (16, I k)]
theorem TT_set (T : List (List Int)) (k : Nat) (t : List Int) : TT (T.set k t) = (TT T).set k (t.map enc) := by simp [TT, List.map_set]
theorem TT_app (T : List (List Int)) (k : Nat) (t : List Int) (i : Int) : TT (T.set k (t ++ [i])) = (TT T).set k (t.map enc ++ [enc i]) := by simp [TT, List.map_set]
theorem wpApp12 {E : Env} (hN : E.N = 47) (hp : ∀ b, E.pin b = none) {l : List Int} {room left i n k : Int} {T : List (List Int)} {t : List Int} {us : List Value} {kk : Nat} {K : KM} {a : Act} {w : World} {Q : Exit → Act → World → Prop}
    (hs : SRK E K ⟨F12 l room T.length left i n k, [(752, ⟨22, 1, .pure, lits us⟩)] ++ fam 3 1 (TT T)⟩ a w) (hl : LitF w K 1 us (TT T)) (hm : T.length = kk + 1) (ht : T[kk]? = some t) (hti : t.length ≤ 2000) (hmm : T.length ≤ 10000)
    (hQ : ∀ K' us' a' w', SRK E K' ⟨F12 l room T.length left i n k, [(752, ⟨22, 1, .pure, lits us'⟩)] ++ fam 3 1 (TT (T.set kk (t ++ [i])))⟩ a' w' → LitF w' K' 1 us' (TT (T.set kk (t ++ [i]))) → us'.length = us.length → Q .normal a' w') : (app12 (body Try.f12)).wp Try.prog Q a w := by
  have ht' : (TT T)[kk]? = some (t.map enc) := by simp [TT, ht]
  have hkl : kk < us.length := by
    have := hl.len
    simp [TT] at this; omega
  obtain ⟨K1, hs1, hl1, _⟩ := nest_open (x := 768) (k := kk) (o := 752) hs hl rfl rfl rfl (hp _) (by decide) (fun s => freshF_lk s rfl) (fun i y h hk => (freshO_olk (b := 768) (O := [(752, ⟨22, 1, .pure, lits us⟩)]) rfl h).2 hk) ht'
  refine wp_ev (fr := F12 l room T.length left i n k) (V := [(768, ⟨3, 1, .pure, t.map enc⟩), (752, ⟨22, 1, .any, (lits us).set kk [.osl 768 1 (t.map enc).length]⟩)]) (Tl := delO (fid kk) (fam 3 1 (TT T))) tabOK tabOne mixed hN (del_ok fam_ok) (del_apart (fam_apart rfl)) (by rfl)
    (ev12 l room left i n k kk T.length (t.map enc) _ hm (by rw [List.getElem?_set_self (by rw [lits_len]; exact hkl)]) (fun b => hasRow_open b us kk hkl) (by simp; omega) (by rw [purge_open us kk hkl, List.getElem?_set_self (by rw [lits_len]; exact hkl)]) hmm) hs1 ?_
  rintro e c' K2 a2 w2 ⟨rfl, rfl⟩ hs2 hl2
  have hj : (((T.length : Nat) : Int) - 1).toNat = kk := by omega
  rw [List.take_length, hj, purge_open us kk hkl, List.set_set] at hs2
  have hs3 := SRK.onlyT hs2 (del_apart (fam_apart rfl)) [0, 1, 4, 5, 6, 7, 8, 9, 14, 15, 16] [768, 752]
  obtain ⟨K4, v', hs4, hl4, _⟩ := nest_back (o := 752) (y := 768) (k := kk) (t' := t.map enc ++ [enc i]) (us := us) (T := TT T) (V := [(768, ⟨3, 1, .pure, t.map enc ++ [enc i]⟩), (752, ⟨22, 1, .any, (lits us).set kk [.osl 768 1 ((t.map enc).length + 1)]⟩)]) hs3 (hl1.left hl2) rfl (by simp [TT]; omega) rfl (by simp) rfl (by decide) (fun j => hp _) rfl rfl (by decide)
  rw [← TT_app] at hs4 hl4
  exact hQ K4 _ a2 w2 hs4 hl4 (by simp)
end Go.Abs.L39
