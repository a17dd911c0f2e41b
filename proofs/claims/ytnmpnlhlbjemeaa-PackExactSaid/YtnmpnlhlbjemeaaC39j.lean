import Derived.Test.YtnmpnlhlbjemeaaC39i
namespace Go.Abs.L39
open Go Go.Abs Go.Proofs
set_option linter.unusedVariables false
set_option maxRecDepth 20000
theorem P10 {E : Env} (hN : E.N = 113) (hp : ∀ b, memN b [2, 4, 6] = false → E.pin b = none) {l : List Int} {room least : Int} {i k : Nat} {T : List (List Int)} {S : List Int} {t : List Int} {s z y : Int} {a : Act} {w : World} {Q : Exit → Act → World → Prop}
    (hs : St E l room least (H33 l room least i T.length k) T S a w) (hS : S.length = T.length) (ht : T[k]? = some (t ++ [y])) (hsk : S[k]? = some s) (hz : l[i]? = some z) (hl : l.length ≤ 100) (hTl : T.length ≤ 100) (htl : t.length ≤ 100) (hs0 : 0 ≤ s ∧ s ≤ 20000) (hz0 : 0 ≤ z ∧ z ≤ 10000)
    (hQ : ∀ a' w', St E l room least (H33 l room least i T.length k) (T.set k t) (S.set k (s - z)) a' w' → Q .normal a' w') : (r10 (body Try.f33)).wp Try.prog Q a w := by
  obtain ⟨K, us, gs, hs, hlf⟩ := hs
  have hk : k < T.length := (List.getElem?_eq_some_iff.1 ht).1
  have hkS : k < S.length := by omega
  have hlen : ((t ++ [y]).map enc).length = t.length + 1 := by simp
  have ht' : (TT T)[k]? = some ((t ++ [y]).map enc) := by simp [TT, ht]
  have hkl : k < us.length := by have := hlf.len; simp [TT] at this; omega
  have hSV : ((S ++ gs).map enc)[k]? = some [I s] := by
    rw [List.getElem?_map, List.getElem?_append_left hkS, hsk]; rfl
  obtain ⟨K1, hs1, hl1, _⟩ := nest_open (x := 1840) (k := k) (o := 1808) hs hlf rfl rfl rfl (hp _ rfl) (by decide) (fun s => freshF_lk s rfl) (fun i y h hk => (freshO_olk (b := 1840) (O := OP l room least T.length ⟨22, 1, .pure, lits us⟩ ((S ++ gs).map enc)) rfl h).2 hk) ht'
  rw [hlen] at hs1
  refine W33 (fr := H33 l room least i T.length k) (V := (1840, ⟨3, 1, .pure, (t ++ [y]).map enc⟩) :: OP l room least T.length ⟨22, 1, .any, (lits us).set k [.osl 1840 1 (t.length + 1)]⟩ ((S ++ gs).map enc)) (Tl := delO (fid k) (fam 3 1 (TT T))) hN hs1 (del_ok fam_ok) (del_apart (fam_apart rfl)) rfl
    (ev10 l room least i T.length k t.length ((t ++ [y]).map enc) _ _ s z (by omega) hk hTl (by omega) hz (by omega) (by rw [List.getElem?_set_self (by rw [lits_len]; exact hkl)]) hSV (by omega) (by omega)) ?_
  rintro e c' K2 a2 w2 ⟨rfl, rfl⟩ hs2 hl2
  rw [List.set_set] at hs2
  obtain ⟨K4, v', hs4, hl4, _⟩ := nest_backT (o := 1808) (y := 1840) (k := k) (n := t.length) (tt := (t ++ [y]).map enc) (us := us) (T := TT T)
    (V := (1840, ⟨3, 1, .pure, (t ++ [y]).map enc⟩) :: OP l room least T.length ⟨22, 1, .any, (lits us).set k [.osl 1840 1 t.length]⟩ (((S ++ gs).map enc).set k [I (s - z)])) hs2 (hl1.left hl2) rfl (by simp [TT]; omega) rfl rfl rfl (by omega) (by decide) (fun j => pinF hp j) rfl rfl (by decide)
  have hT : (TT T).set k (((t ++ [y]).map enc).take t.length) = TT (T.set k t) := by
    rw [TT_set]
    congr 1
    rw [List.map_append, List.take_append_of_le_length (by simp), List.take_of_length_le (by simp)]
  rw [hT] at hs4 hl4
  refine hQ a2 w2 ⟨K4, us.set k v', gs, ?_, hl4⟩
  rw [List.length_set, ← set_app hkS, show ((S ++ gs).set k (s - z)).map enc = ((S ++ gs).map enc).set k [I (s - z)] by simp [List.map_set, enc]]
  exact hs4
theorem J33_H (l : List Int) (room least : Int) (i : Nat) : (J33 l room least i) = F33 l room least i ++ [(8, .bool false)] := rfl
/-- a new box is put away -/
theorem P17 {E : Env} (hN : E.N = 113) {l : List Int} {room least : Int} {i : Nat} {T : List (List Int)} {S t : List Int} {b : List Int} {a : Act} {w : World} {Q : Exit → Act → World → Prop}
    (hs : St E l room least (J33 l room least i) (T ++ [b]) (S ++ t) a w) (hTl : T.length ≤ 100)
    (hQ : ∀ a' w', St E l room least (J33 l room least i) T S a' w' → Q .normal a' w') : (r17 (body Try.f33)).wp Try.prog Q a w := by
  obtain ⟨K, us, gs, hs, hlf⟩ := hs
  rw [List.length_append] at hs
  refine W33 (fr := J33 l room least i) hN hs fam_ok (fam_apart rfl) rfl (ev17 l room least i T.length (lits us) (((S ++ t) ++ gs).map enc) hTl) ?_
  rintro e c' K2 a2 w2 ⟨rfl, rfl⟩ hs2 hl2
  have hlf2 := hlf.left hl2
  have hTT : TT (T ++ [b]) = TT T ++ [b.map enc] := by simp [TT]
  refine hQ a2 w2 ⟨K2, us, t ++ gs, ?_, fun j s hj => hlf2 j s ?_⟩
  · rw [← List.append_assoc]
    refine hs2.weak (fun _ => .inl rfl) fun x y hx => ?_
    rcases olk_app_inv hx with hx | ⟨hn, hx⟩
    · exact olk_app_l hx
    · obtain ⟨j, s, rfl, h1, rfl⟩ := fam_inv hx
      show olk (_ ++ fam 3 1 (TT (T ++ [b]))) (fid j) = _
      rw [olk_app_r (noFid_get rfl j), fam_at, hTT, List.getElem?_append_left (List.getElem?_eq_some_iff.1 h1).1, h1]; rfl
  · rw [hTT, List.getElem?_append_left (List.getElem?_eq_some_iff.1 hj).1]; exact hj
/-- a new box -/
theorem P14 {E : Env} (hN : E.N = 113) (hp : ∀ b, memN b [2, 4, 6] = false → E.pin b = none) {l : List Int} {room least : Int} {i : Nat} {T : List (List Int)} {S : List Int} {z : Int} {a : Act} {w : World} {Q : Exit → Act → World → Prop}
    (hs : St E l room least (J33 l room least i) T S a w) (hS : S.length = T.length) (hz : l[i]? = some z) (hl : l.length ≤ 100) (hTl : T.length ≤ 100)
    (hQ : ∀ a' w', St E l room least (J33 l room least i) (T ++ [[(i : Int)]]) (S ++ [z]) a' w' → Q .normal a' w') : (r14 (body Try.f33)).wp Try.prog Q a w := by
  obtain ⟨K, us, gs, hs, hlf⟩ := hs
  -- the outer slice's rows may hold ids now
  have hs1 : SRK E K ⟨J33 l room least i, OP l room least T.length ⟨22, 1, .any, lits us⟩ ((S ++ gs).map enc) ++ fam 3 1 (TT T)⟩ a w := hs.litsAny (o := 1808) rfl
  refine W33 hN hs1 fam_ok (fam_apart rfl) rfl (evP14 l room least i T.length (lits us) ((S ++ gs).map enc) z hTl hz (by omega) (fun b => hasRow_lits b us)) ?_
  rintro e c' K2 a2 w2 ⟨rfl, rfl⟩ hs2 hl2
  have hlf2 := hlf.left hl2
  have hs3 := SRK.onlyT hs2 (fam_apart rfl) [0, 1, 2, 3, 4, 5, 6, 8] [2, 4, 6, 1424, 1456, 1568]
  have hTl2 : (TT T).length = T.length := by simp [TT]
  obtain ⟨K4, v', hs4, hl4, _⟩ := nest_push (o := 1456) (y := 1424) (t' := [enc i]) (us := us) (T := TT T) (V := [(2, ⟨25, 1, .any, [[.osl 1456 1 (T.length + 1)]]⟩), (4, ⟨22, 1, .any, [[.osl 1568 1 (T.length + 1)]]⟩), (6, ⟨46, 1, .any, [[clo l room least]]⟩), (1424, ⟨3, 1, .pure, [enc i]⟩), (1456, ⟨22, 1, .any, (lits us).take T.length ++ [[.osl 1424 1 1]]⟩), (1568, ⟨3, 1, .pure, ((S ++ gs).map enc).take T.length ++ [enc z]⟩)])
    hs3 hlf2 rfl rfl (by rw [hTl2]; rfl) rfl (by decide) (fun j => pinF hp j) rfl rfl (by decide)
  obtain ⟨K5, hs5, hK5⟩ := SRK.revarT (bv := 2) (b := 1456) (b' := 1808) (V := [(2, _), (4, _), (6, _), (1456, _), (1568, _)]) hs4 (hp _ rfl) rfl rfl rfl (by decide) (by decide) (by decide) rfl rfl
  obtain ⟨K6, hs6, hK6⟩ := SRK.revarT (bv := 4) (b := 1568) (b' := 1824) (V := [(2, _), (4, _), (6, _), (1568, _), (1808, _)]) hs5 (hp _ rfl) rfl rfl rfl (by decide) (by decide) (by decide) rfl rfl
  have hl6 : LitF w2 K6 1 (us.take (TT T).length ++ [v']) (TT T ++ [[enc i]]) := (hl4.keepK fun j => hK5 _ (by unfold fid; omega)).keepK fun j => hK6 _ (by unfold fid; omega)
  have hTT : TT (T ++ [[(i : Int)]]) = TT T ++ [[enc i]] := by simp [TT]
  have hSV : ((S ++ gs).map enc).take T.length ++ [enc z] = ((S ++ [z]) ++ []).map enc := by
    rw [← hS, List.append_nil, List.map_append, List.take_append_of_le_length (by simp), List.take_of_length_le (by simp)]; simp
  rw [← hTT] at hs6 hl6
  refine hQ a2 w2 ⟨K6, _, [], ?_, hl6⟩
  rw [← hSV, List.length_append]
  refine hs6.congrO fun b => ?_
  rw [olk_cat, olk_cat]
  congr 1
  show olk (OP l room least (T.length + 1) _ _) b = olk [(2, _), (4, _), (6, _), (1808, _), (1824, _)] b
  simp only [olk_cons]
  by_cases e1 : 2 = b
  · rw [if_pos e1, if_pos e1]
  · rw [if_neg e1, if_neg e1]
    by_cases e2 : 4 = b
    · subst e2; rfl
    · rw [if_neg e2, if_neg e2]
      by_cases e3 : 6 = b
      · subst e3; rfl
      · rw [if_neg e3, if_neg e3]
end Go.Abs.L39
