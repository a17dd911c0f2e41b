import Derived.Test.YtnmpnlhlbjemeaaB39
import Derived.Test.YtnmpnlhlbjemeaaN3
namespace Go.Abs.L39
open Go Go.Abs Go.Proofs
set_option linter.unusedVariables false
set_option maxRecDepth 20000
abbrev I (n : Int) : AV := .int .i64 n
def enc (n : Int) : List AV := [.int .i64 n]
abbrev A (l : List Int) : AV := .rsl 1 l.length (l.map enc)
abbrev fA (l : List Int) : AV := .fsl true 3 1 l.length (l.map enc)
def encT (l : List Int) : List AV := [.rsl 1 l.length (l.map enc)]
abbrev AA (T : List (List Int)) : AV := .rsl 1 T.length (T.map encT)
theorem scal (l : List Int) : Scal (l.map enc) := by
  intro row hr u hu
  simp only [List.mem_map] at hr
  obtain ⟨a, _, rfl⟩ := hr
  simp only [enc, List.mem_cons, List.not_mem_nil, or_false] at hu
  subst hu; rfl
theorem c11 (l : List Int) : Fn Try.prog 11 [A l] (.bool (decide ((l.length : Int) ≤ 60))) := mk11 rfl ⟨rfl, rfl, rfl⟩
theorem c13n : Fn Try.prog 13 [.nilsl] (fA []) := mk13 rfl ⟨fun _ => ⟨rfl, .inr ⟨_, _, _, rfl⟩⟩, fun h => by cases h⟩
theorem c13e : Fn Try.prog 13 [.esl] (fA []) := mk13 rfl ⟨fun h => (by cases h), fun _ => ⟨by decide, rfl, _, rfl, rfl, rfl, .inl ⟨rfl, rfl⟩⟩⟩
theorem c13 (l : List Int) (h : l.length ≤ 10000) : Fn Try.prog 13 [A l] (fA l) := by
  cases l with
  | nil => exact fn_empty c13n c13e
  | cons a l =>
    refine mk13 rfl ⟨by simp, fun h => (by cases h), fun _ => ?_⟩
    exact ⟨⟨by simp at h ⊢; omega, by simp at h ⊢; omega⟩, scal (a :: l), rfl, _, rfl, rfl, by simp, .inl ⟨rfl, by simp⟩⟩
def badB (room n : Int) : Bool := decide (n < 1) || decide (n > room)
theorem c43 (n room : Int) : Fn Try.prog 43 [I n, .rptr [I room] 0] (.bool (badB room n)) := by
  by_cases h : n < 1
  · rw [show badB room n = true by simp [badB, h]]
    exact mk43 rfl ⟨[(2, true)], by simpa using h, rfl, rfl, rfl⟩
  · rw [show badB room n = decide (n > room) by simp [badB, h]]
    exact mk43 rfl ⟨[(2, false)], by simpa using h, rfl, rfl, rfl⟩
theorem c45a (l : List Int) (hl : l.length ≤ 9223372036854775807) (p : Int → Bool) (g : FuncId) (xs : List AV) (hp : ∀ a ∈ l, Fn Try.prog g [I a, .rptr xs 0] (.bool (p a))) : Fn Try.prog 45 [A l, .func g [.rptr xs 0]] (I (idxF p 0 l)) := by
  refine mk45 rfl ?_
  refine ⟨fun n c => ∃ i : Nat, i ≤ l.length ∧ n = l.length - i ∧ c = ⟨[(0, A l), (1, .func g [.rptr xs 0]), (4, I 0), (7, I l.length), (8, I i)], []⟩ ∧ idxF p i (l.drop i) = idxF p 0 l, ⟨_, _, Wk.keep [0, 1, 4, 7, 8] [], 0, by omega, rfl, rfl, by simp⟩, ?_⟩
  rintro n c ⟨i, hi, rfl, rfl, hI⟩
  refine ⟨fun h => ?_, fun h => ?_⟩
  · simp at h
    obtain ⟨a, ha, hd, _⟩ := drop_cons h
    rw [hd, idxF] at hI
    refine ⟨⟨by omega, by omega⟩, enc a, by simp [ha], _, hp a (List.mem_of_getElem? ha), fun hf => ?_, fun hf => ?_⟩
    · rw [if_pos hf] at hI
      exact ⟨rfl, rfl, by rw [← hI]; rfl⟩
    · rw [if_neg (by simp [hf])] at hI
      refine ⟨_, wrap64 (by omega) (by omega), ?_⟩
      exact ⟨_, _, Wk.keep [0, 1, 4, 7, 8] [], by omega, i + 1, by omega, rfl, rfl, hI⟩
  · simp at h
    have : i = l.length := by omega
    subst this
    simp [idxF] at hI
    exact ⟨rfl, rfl, by rw [← hI]; rfl⟩
theorem c42 (l : List Int) (hl : l.length ≤ 9223372036854775807) (room : Int) : Fn Try.prog 42 [A l, .func 43 [.rptr [I room] 0]] (.bool (l.any (badB room))) :=
  mk42 rfl ⟨_, c45a l hl (badB room) 43 [I room] fun a _ => c43 a room, rfl, rfl, by rw [← idxF_any]; rfl⟩
def chkE (l : List Int) (room : Int) : Int := if room < 1 ∨ room > 10000 then 2 else if l.length > 1024 then 8 else if l.any (badB room) = true then 2 else 0
theorem c31 (l : List Int) (hl : l.length ≤ 9223372036854775807) (room : Int) : Fn Try.prog 31 [A l, I room] (I (chkE l room)) := by
  by_cases h1 : room < 1
  · refine mk31 rfl ⟨[(2, true)], by simpa using h1, fun _ => ?_, fun h => by cases h⟩
    rw [chkE, if_pos (.inl h1)]; exact ⟨rfl, rfl, rfl⟩
  · refine mk31 rfl ⟨[(2, false)], by simpa using h1, fun h => ?_, fun h => ?_⟩
    · have h : room > 10000 := by simpa using h
      rw [chkE, if_pos (.inr h)]; exact ⟨rfl, rfl, rfl⟩
    · have h : ¬ room > 10000 := by simpa using h
      rw [chkE, if_neg (by omega)]
      refine ⟨fun h => ?_, fun h => ?_⟩
      · have h : l.length > 1024 := by simp at h; omega
        rw [if_pos h]; exact ⟨rfl, rfl, rfl⟩
      · have h : ¬ l.length > 1024 := by simp at h; omega
        rw [if_neg h]
        refine ⟨_, c42 l hl room, fun h => ?_, fun h => ?_⟩
        · rw [if_pos h]; exact ⟨rfl, rfl, rfl⟩
        · rw [if_neg (by simp [h])]; exact ⟨rfl, rfl, rfl⟩
theorem c32 (l : List Int) (hl : l.length ≤ 9223372036854775807) (room : Int) : Fn Try.prog 32 [A l, I room] (I (chkE l room)) := by
  by_cases h1 : room < 1
  · refine mk32 rfl ⟨[(2, true)], by simpa using h1, fun _ => ?_, fun h => by cases h⟩
    rw [chkE, if_pos (.inl h1)]; exact ⟨rfl, rfl, rfl⟩
  · refine mk32 rfl ⟨[(2, false)], by simpa using h1, fun h => ?_, fun h => ?_⟩
    · have h : room > 10000 := by simpa using h
      rw [chkE, if_pos (.inr h)]; exact ⟨rfl, rfl, rfl⟩
    · have h : ¬ room > 10000 := by simpa using h
      rw [chkE, if_neg (by omega)]
      refine ⟨fun h => ?_, fun h => ?_⟩
      · have h : l.length > 1024 := by simp at h; omega
        rw [if_pos h]; exact ⟨rfl, rfl, rfl⟩
      · have h : ¬ l.length > 1024 := by simp at h; omega
        rw [if_neg h]
        refine ⟨fun n c => ∃ i : Nat, i ≤ l.length ∧ n = l.length - i ∧ c = ⟨[(0, A l), (1, I room), (4, I 0), (16, A l), (17, I l.length), (18, I i)], []⟩ ∧ (l.drop i).any (badB room) = l.any (badB room), ⟨_, _, Wk.keep [0, 1, 4, 16, 17, 18] [], 0, by omega, rfl, rfl, by simp⟩, ?_⟩
        rintro n c ⟨i, hi, rfl, rfl, hI⟩
        refine ⟨fun h => ?_, fun h => ?_⟩
        · simp at h
          obtain ⟨a, ha, hd, _⟩ := drop_cons h
          rw [hd, List.any_cons] at hI
          refine ⟨⟨by omega, by omega⟩, enc a, by simp [ha], ?_⟩
          by_cases ha1 : a < 1
          · have : badB room a = true := by simp [badB, ha1]
            rw [this, Bool.true_or] at hI
            rw [if_pos hI.symm]
            exact ⟨[(2, true)], by simpa using ha1, fun _ => ⟨rfl, rfl, rfl⟩, fun h => (by cases h)⟩
          · refine ⟨[(2, false)], by simpa using ha1, fun h => ?_, fun h => ?_⟩
            · have : badB room a = true := by
                have h : a > room := by simpa using h
                simp [badB, h]
              rw [this, Bool.true_or] at hI
              rw [if_pos hI.symm]; exact ⟨rfl, rfl, rfl⟩
            · have : badB room a = false := by
                have h : ¬ a > room := by simpa using h
                simp [badB, ha1]; omega
              rw [this, Bool.false_or] at hI
              refine ⟨_, wrap64 (by omega) (by omega), ?_⟩
              exact ⟨_, _, Wk.keep [0, 1, 4, 16, 17, 18] [], by omega, i + 1, by omega, rfl, rfl, hI⟩
        · simp at h
          have : i = l.length := by omega
          subst this
          simp only [List.drop_length, List.any_nil] at hI
          rw [if_neg (by rw [← hI]; simp)]
          exact ⟨rfl, rfl, rfl⟩
end Go.Abs.L39
namespace Go.Abs.L39
open Go Go.Abs Go.Proofs
set_option linter.unusedVariables false
set_option maxRecDepth 20000
abbrev TT (T : List (List Int)) : List (List (List AV)) := T.map fun t => t.map enc
/-- the code of a function's loop -/
def loopCode12 : Code → Code
  | .seq _ (.seq _ (.seq _ (.seq _ (.seq (.seq _ (.block _ (.loop (.seq _ (.seq _ (.seq (.block _ c) _)))))) _)))) => c
  | c => c
def app12 (c : Code) : Code := match loopCode12 c with | .seq _ (.seq _ (.seq _ c)) => c | c => c
abbrev ks12 : List Nat := [0, 1, 4, 5, 6, 7, 8, 9, 13, 14, 15, 16, 17, 23]
theorem ev12 (l : List Int) (room left i n k : Int) (kk m : Nat) (inner : List (List AV)) (R : List (List AV)) (hm : m = kk + 1) (hRk : R[kk]? = some [.osl 768 1 inner.length]) (hRh : ∀ b, hasRow b R = (768 == b)) (hi : inner.length ≤ 100000) (hRp : (purgeR 768 R)[kk]? = some [.top]) (hmm : m ≤ 10000) :
    ev Try.prog tt 47 ks12 (app12 (body Try.f12)) ⟨[(0, A l), (1, I room), (4, .nilsl), (5, I 0), (6, .osl 752 1 m), (7, I left), (8, I i), (9, I n), (14, A l), (15, I l.length), (16, I k)], [(768, ⟨3, 1, .pure, inner⟩), (752, ⟨22, 1, .any, R⟩)]⟩
      fun e c => e = .normal ∧ c = ⟨[(0, A l), (1, I room), (4, .nilsl), (5, I 0), (6, .osl 752 1 m), (7, I left), (8, I i), (9, I n), (14, A l), (15, I l.length), (16, I k)], [(768, ⟨3, 1, .pure, inner.take inner.length ++ [enc i]⟩), (752, ⟨22, 1, .any, (purgeR 768 R).set (((m : Nat) : Int) - 1).toNat [.osl 768 1 (inner.length + 1)]⟩), (672, ⟨3, 1, .pure, [enc i]⟩)]⟩ := by
  subst hm
  have hj : ((((kk + 1 : Nat) : Int) - 1)).toNat = kk := by omega
  refine ⟨_, wrap64 (by omega) (by omega), _, wrap64 (by omega) (by omega), ⟨by omega, by omega⟩, [.osl 768 1 inner.length], by rw [hj]; exact hRk, ?_⟩
  conv => whnf
  refine mtrue ?_ ?_
  · refine chk3 ?_ rfl rfl
    exact freshD_new rfl (freshO_pure rfl (freshO_any rfl (hRh _) rfl)) rfl
  refine ⟨⟨by show (inner.length + 1) * 8 ≤ 140737488355328; omega, by omega⟩, ⟨by omega, by omega⟩, [.top], ?_, ?_⟩
  · show (purgeR 768 R)[(((kk + 1 : Nat) : Int) - 1).toNat]? = some [.top]
    rw [hj]
    exact hRp
  · exact ⟨rfl, rfl⟩
abbrev F12 (l : List Int) (room : Int) (m : Nat) (left i n k : Int) : List (Nat × AV) := [(0, A l), (1, I room), (4, .nilsl), (5, I 0), (6, .osl 752 1 m), (7, I left), (8, I i), (9, I n), (14, A l), (15, I l.length), (16, I k)]
theorem TT_set (T : List (List Int)) (k : Nat) (t : List Int) : TT (T.set k t) = (TT T).set k (t.map enc) := by simp [TT, List.map_set]
theorem TT_app (T : List (List Int)) (k : Nat) (t : List Int) (i : Int) : TT (T.set k (t ++ [i])) = (TT T).set k (t.map enc ++ [enc i]) := by simp [TT, List.map_set]
theorem wpApp12 {E : Env} (hN : E.N = 47) (hp : ∀ b, E.pin b = none) {l : List Int} {room left i n k : Int} {T : List (List Int)} {t : List Int} {us : List Value} {kk : Nat} {K : KM} {a : Act} {w : World} {Q : Exit → Act → World → Prop}
    (hs : SRK E K ⟨F12 l room T.length left i n k, [(752, ⟨22, 1, .pure, lits us⟩)] ++ fam 3 1 (TT T)⟩ a w) (hl : LitF w K 1 us (TT T)) (hm : T.length = kk + 1) (ht : T[kk]? = some t) (hti : t.length ≤ 2000) (hmm : T.length ≤ 10000)
    (hQ : ∀ K' us' a' w', SRK E K' ⟨F12 l room T.length left i n k, [(752, ⟨22, 1, .pure, lits us'⟩)] ++ fam 3 1 (TT (T.set kk (t ++ [i])))⟩ a' w' → LitF w' K' 1 us' (TT (T.set kk (t ++ [i]))) → us'.length = us.length → Q .normal a' w') : (app12 (body Try.f12)).wp Try.prog Q a w := by
  have ht' : (TT T)[kk]? = some (t.map enc) := by simp [TT, ht]
  have hkl : kk < us.length := by
    have := hl.len
    simp [TT] at this; omega
  obtain ⟨K1, hs1, hl1, _⟩ := nest_open (x := 768) (k := kk) (o := 752) hs hl rfl rfl rfl (hp _) (by decide) (fun s => freshF_lk s rfl) (fun i y h hk => (freshO_olk (b := 768) (O := [(752, ⟨22, 1, .pure, lits us⟩)]) rfl h).2 hk) ht'
  refine wp_ev (fr := F12 l room T.length left i n k) (V := [(768, ⟨3, 1, .pure, t.map enc⟩), (752, ⟨22, 1, .any, (lits us).set kk [.osl 768 1 (t.map enc).length]⟩)]) (Tl := delO (fid kk) (fam 3 1 (TT T))) tabOK tabOne mixed hN (del_ok fam_ok) (del_apart (fam_apart rfl)) (by rfl)
    (ev12 l room left i n k kk T.length (t.map enc) _ hm (by rw [List.getElem?_set_self (by rw [lits_len]; exact hkl)]) (fun b => hasRow_open b us kk hkl) (by simp; omega) (by rw [purge_open us kk hkl, List.getElem?_set_self (by rw [lits_len]; exact hkl)]) hmm) hs1 ?_
  rintro e c' K2 a2 w2 ⟨rfl, rfl⟩ hs2 hl2
  have hj : (((T.length : Nat) : Int) - 1).toNat = kk := by omega
  rw [List.take_length, hj, purge_open us kk hkl, List.set_set] at hs2
  have hs3 := SRK.onlyT hs2 (del_apart (fam_apart rfl)) [0, 1, 4, 5, 6, 7, 8, 9, 14, 15, 16] [768, 752]
  obtain ⟨K4, v', hs4, hl4, _⟩ := nest_back (o := 752) (y := 768) (k := kk) (t' := t.map enc ++ [enc i]) (us := us) (T := TT T) (V := [(768, ⟨3, 1, .pure, t.map enc ++ [enc i]⟩), (752, ⟨22, 1, .any, (lits us).set kk [.osl 768 1 ((t.map enc).length + 1)]⟩)]) hs3 (hl1.left hl2) rfl (by simp [TT]; omega) rfl (by simp) rfl (by decide) (fun j => hp _) rfl rfl (by decide)
  rw [← TT_app] at hs4 hl4
  exact hQ K4 _ a2 w2 hs4 hl4 (by simp)
end Go.Abs.L39
namespace Go.Abs.L39
open Go Go.Abs Go.Proofs
set_option linter.unusedVariables false
set_option maxRecDepth 20000
/-- the packing in order -/
def ordE (room : Int) : List Int → Nat → List (List Int) → Int → List (List Int)
  | [], _, T, _ => T
  | n :: r, i, T, left =>
    let T' := if n > left then T ++ [[]] else T
    ordE room r (i + 1) (T'.set (T'.length - 1) (T'.getD (T'.length - 1) [] ++ [(i : Int)])) ((if n > left then room else left) - n)
theorem chk_ok {l : List Int} {room : Int} (h : chkE l room = 0) : 1 ≤ room ∧ room ≤ 10000 ∧ l.length ≤ 1024 ∧ ∀ n ∈ l, 1 ≤ n ∧ n ≤ room := by
  unfold chkE at h
  split at h
  · cases h
  · split at h
    · cases h
    · split at h
      · cases h
      · rename_i h1 h2 h3
        refine ⟨by omega, by omega, by omega, fun n hn => ?_⟩
        have h3 : l.any (badB room) = false := by simpa using h3
        rw [List.any_eq_false] at h3
        have := h3 n hn
        simp [badB] at this
        omega
/-- one round -/
def round12 (c : Code) : Code := loopCode12 c
theorem W12 {E : Env} (hN : E.N = 47) {K : KM} {fr : List (Nat × AV)} {V Tl : List (Nat × OBlk)} {a : Act} {w : World} {code : Code} {Q : Ex → Cfg → Prop} {Q' : Exit → Act → World → Prop} (hs : SRK E K ⟨fr, V ++ Tl⟩ a w) (htl : TailOK Tl) (hap : Apart V Tl) (hd : drawsOK code = true)
    (h : ev Try.prog tt 47 ks12 code ⟨fr, V⟩ Q) (hQ : ∀ e c' K' a' w', Q e c' → SRK E K' ⟨c'.fr, c'.O ++ Tl⟩ a' w' → Left K V w K' w' → Q' e.toExit a' w') : code.wp Try.prog Q' a w :=
  wp_ev tabOK tabOne mixed hN htl hap hd h hs hQ
abbrev G12 (l : List Int) (room : Int) (m : Nat) (left : Int) (i : Nat) : List (Nat × AV) := [(0, A l), (1, I room), (4, .nilsl), (5, I 0), (6, .osl 752 1 m), (7, I left), (14, A l), (15, I l.length), (16, I i)]
/-- a new box, if the piece does not fit -/
theorem wpNew12 {E : Env} (hN : E.N = 47) (hp : ∀ b, E.pin b = none) {l : List Int} {room left n : Int} {i : Nat} {T : List (List Int)} {us : List Value} {K : KM} {a : Act} {w : World} {Q : Exit → Act → World → Prop}
    (hs : SRK E K ⟨F12 l room T.length left i n i, [(752, ⟨22, 1, .pure, lits us⟩)] ++ fam 3 1 (TT T)⟩ a w) (hl : LitF w K 1 us (TT T)) (hus : us.length = T.length) (hmm : T.length ≤ 10000)
    (hQ : ∀ K' us' a' w', SRK E K' ⟨F12 l room (if n > left then T ++ [[]] else T).length (if n > left then room else left) i n i, [(752, ⟨22, 1, .pure, lits us'⟩)] ++ fam 3 1 (TT (if n > left then T ++ [[]] else T))⟩ a' w' → LitF w' K' 1 us' (TT (if n > left then T ++ [[]] else T)) → us'.length = (if n > left then T ++ [[]] else T).length → Q .normal a' w') :
    ∀ c, (match round12 (body Try.f12) with | .seq _ (.seq c _) => c | c => c) = c → c.wp Try.prog Q a w := by
  rintro _ rfl
  change (Code.seq _ _).wp _ _ _ _
  refine wp_seq (W12 hN hs fam_ok (fam_apart rfl) (Q := fun e c' => e = .normal ∧ c' = _) rfl ⟨rfl, rfl⟩ ?_)
  rintro e c1 K1 a1 w1 ⟨rfl, rfl⟩ hs1 hl1
  have hlf := hl.left hl1
  change (Code.cond _ _ _).wp _ _ _ _
  by_cases hnl : n > left
  · rw [if_pos hnl, if_pos hnl] at hQ
    refine W12 hN hs1 fam_ok (fam_apart rfl) (Q := fun e c' => e = .normal ∧ c' = _) rfl ⟨fun _ => ⟨⟨by show (T.length + 1) * 24 ≤ _; omega, by omega⟩, ⟨rfl, rfl⟩⟩, fun h => ?_⟩ ?_
    · simp at h; omega
    · rintro e c2 K2 a2 w2 ⟨rfl, rfl⟩ hs2 hl2
      have hlf2 := hlf.left hl2
      have hs3 := SRK.onlyT hs2 (fam_apart rfl) [0, 1, 4, 5, 6, 7, 8, 9, 14, 15, 16] [752]
      have htk : (lits us).take T.length = lits us := List.take_of_length_le (by rw [lits_len]; omega)
      have hs4 := SRK.lits (o := 752) (eo := 22) (rows := (lits us).take T.length ++ [[.nilsl]]) hs3 rfl (fun row hr => by
        rw [htk] at hr
        rcases List.mem_append.1 hr with h | h
        · exact lits_ok us row h
        · simp at h; subst h; rfl)
      rw [htk, List.map_append, lits_toLit] at hs4
      obtain ⟨K5, hs5, hl5, _⟩ := nest_nil (V := [(752, ⟨22, 1, .pure, lits (us ++ [nilS])⟩)]) hs4 (hlf2.app [nilS]) rfl (hp _) (noFF_lk _ rfl) (noFO_all rfl rfl _) (by simp [TT, hus])
      rw [show TT T ++ [[]] = TT (T ++ [[]]) by simp [TT]] at hs5 hl5
      exact hQ K5 _ a2 w2 (by rw [List.length_append]; exact hs5) hl5 (by simp [hus])
  · rw [if_neg hnl, if_neg hnl] at hQ
    refine W12 hN hs1 fam_ok (fam_apart rfl) (Q := fun e c' => e = .normal ∧ c' = _) rfl ⟨fun h => ?_, fun _ => ⟨rfl, rfl⟩⟩ ?_
    · simp at h; omega
    · rintro e c2 K2 a2 w2 ⟨rfl, rfl⟩ hs2 hl2
      exact hQ K2 us a2 w2 (SRK.onlyT hs2 (fam_apart rfl) [0, 1, 4, 5, 6, 7, 8, 9, 14, 15, 16] [752]) (hlf.left hl2) hus
end Go.Abs.L39
namespace Go.Abs.L39
open Go Go.Abs Go.Proofs
set_option linter.unusedVariables false
set_option maxRecDepth 20000
def ordR (l : List Int) (room : Int) : List (List Int) × Int := if chkE l room ≠ 0 then ([], 1) else (ordE room l 0 [] 0, 0)
/-- what is known ahead of a round -/
structure Ord12 (l : List Int) (room : Int) (T : List (List Int)) (left : Int) (i : Nat) : Prop where
  hi : i ≤ l.length
  len : T.length ≤ i
  inner : ∀ t ∈ T, t.length ≤ i
  lo : 0 ≤ left
  hi' : left ≤ room
  nil : T = [] → left = 0
  eq : ordE room (l.drop i) i T left = ordE room l 0 [] 0
theorem Ord12.step {l : List Int} {room left n : Int} {T : List (List Int)} {i : Nat} (h : Ord12 l room T left i) (hc : chkE l room = 0) (hn : l[i]? = some n) :
    ∃ kk t, (if n > left then T ++ [[]] else T).length = kk + 1 ∧ (if n > left then T ++ [[]] else T)[kk]? = some t ∧ t.length ≤ i ∧ (if n > left then T ++ [[]] else T).length ≤ i + 1 ∧
      0 ≤ (if n > left then room else left) - n ∧ (if n > left then room else left) - n ≤ room ∧ Ord12 l room ((if n > left then T ++ [[]] else T).set kk (t ++ [(i : Int)])) ((if n > left then room else left) - n) (i + 1) := by
  obtain ⟨h1, h2, h3, h4⟩ := chk_ok hc
  obtain ⟨hn1, hn2⟩ := h4 n (List.mem_of_getElem? hn)
  have hil := (List.getElem?_eq_some_iff.1 hn).1
  have hne : (if n > left then T ++ [[]] else T) ≠ [] := by
    split
    · simp
    · rename_i hx
      intro e
      have := h.nil e
      omega
  generalize hT : (if n > left then T ++ [[]] else T) = T' at *
  have hle : T'.length ≤ i + 1 := by
    rw [← hT]; have := h.len
    split
    · simp; omega
    · omega
  have hin : ∀ t ∈ T', t.length ≤ i := by
    intro t ht
    rw [← hT] at ht
    split at ht
    · rcases List.mem_append.1 ht with h' | h'
      · exact h.inner t h'
      · simp at h'; subst h'; simp
    · exact h.inner t ht
  have hpos : 0 < T'.length := List.length_pos_iff.2 hne
  obtain ⟨t, ht⟩ : ∃ t, T'[T'.length - 1]? = some t := ⟨T'[T'.length - 1], by simp⟩
  have hlft : 0 ≤ (if n > left then room else left) - n ∧ (if n > left then room else left) - n ≤ room := by
    have := h.lo; have := h.hi'
    split <;> omega
  refine ⟨T'.length - 1, t, by omega, ht, hin t (List.mem_of_getElem? ht), hle, hlft.1, hlft.2, by omega, by simp; omega, fun s hs => ?_, hlft.1, hlft.2, fun e => ?_, ?_⟩
  · rcases List.mem_or_eq_of_mem_set hs with hs | rfl
    · have := hin s hs; omega
    · have := hin t (List.mem_of_getElem? ht); simp; omega
  · have := congrArg List.length e
    rw [List.length_set, List.length_nil] at this
    omega
  · rw [← h.eq]
    obtain ⟨n', hn', hd, _⟩ := drop_cons hil
    rw [hn] at hn'; injection hn' with hn'; subst hn'
    rw [hd, ordE, hT]
    simp only [List.getD_eq_getElem?_getD, ht, Option.getD_some]
theorem c12 (l : List Int) (hl : l.length ≤ 9223372036854775807) (room : Int) : Fn Try.prog 12 [A l, I room] (.tup [AA (ordR l room).1, I (ordR l room).2]) := by
  by_cases hc : chkE l room ≠ 0
  · rw [ordR, if_pos hc]
    refine fn_nil_rsl (mk12 rfl ⟨_, c31 l hl room, fun h => ⟨_, _, rfl, .inl rfl, rfl, rfl, trivial⟩, fun h => ?_⟩)
    simp at h; exact absurd h hc
  have hc : chkE l room = 0 := by simpa using hc
  obtain ⟨hr1, hr2, hlen, hsz⟩ := chk_ok hc
  rw [ordR, if_neg (by simp [hc])]
  refine fn_ofW (N := 47) [.tmp 4, .tmp 5] tabOK Try.func12 rfl (by kernel_rfl) rfl rfl rfl ?_
  intro E K a w hN hp hs
  change (Code.seq _ _).wp _ _ _ _
  refine wp_seq (W12 (V := []) (Tl := []) hN hs TailOK.nil (Apart.nil _) (Q := fun e c' => e = .normal ∧ c' = _) rfl ⟨rfl, rfl⟩ ?_)
  rintro e c1 K1 a1 w1 ⟨rfl, rfl⟩ hs1 _
  change (Code.seq _ _).wp _ _ _ _
  refine wp_seq (W12 (V := []) (Tl := []) hN hs1 TailOK.nil (Apart.nil _) (Q := fun e c' => e = .normal ∧ c' = _) rfl ⟨_, c31 l hl room, fun h => (by simp [hc] at h), fun _ => ⟨rfl, rfl⟩⟩ ?_)
  rintro e c1 K2 a2 w2 ⟨rfl, rfl⟩ hs2 _
  change (Code.seq _ _).wp _ _ _ _
  refine wp_seq (W12 (V := []) (Tl := []) hN hs2 TailOK.nil (Apart.nil _) (Q := fun e c' => e = .normal ∧ c' = _) rfl ⟨rfl, rfl⟩ ?_)
  rintro e c1 K3 a3 w3 ⟨rfl, rfl⟩ hs3 _
  change (Code.seq _ _).wp _ _ _ _
  refine wp_seq (W12 (V := []) (Tl := []) hN hs3 TailOK.nil (Apart.nil _) (Q := fun e c' => e = .normal ∧ c' = _) rfl ⟨rfl, rfl⟩ ?_)
  rintro e c1 K4 a4 w4 ⟨rfl, rfl⟩ hs4 _
  change (Code.seq _ _).wp _ _ _ _
  refine wp_seq (wp_seq (W12 (V := []) (Tl := []) hN hs4 TailOK.nil (Apart.nil _) (Q := fun e c' => e = .normal ∧ c' = _) rfl ⟨rfl, rfl⟩ ?_))
  rintro e c1 K5 a5 w5 ⟨rfl, rfl⟩ hs5 _
  obtain ⟨K6, hs6⟩ := (Wk.nilKeep 6 752 ⟨22, 1, .pure, []⟩ [0, 1, 4, 5, 6, 7, 14, 15, 16] [752] rfl rfl rfl) E a5 w5 ⟨K5, hs5⟩
  have hs7 : SRK E K6 ⟨[(0, A l), (1, I room), (4, .nilsl), (5, I 0), (6, .osl 752 1 0), (7, I 0), (14, A l), (15, I l.length), (16, I 0)], [(752, (⟨22, 1, .pure, []⟩ : OBlk))]⟩ a5 w5 := hs6
  have hs8 : SRK E K6 ⟨G12 l room 0 0 0, [(752, (⟨22, 1, .pure, []⟩ : OBlk))]⟩ a5 w5 := hs7
  have hs9 : SRK E K6 ⟨G12 l room 0 0 0, [(752, (⟨22, 1, .pure, lits []⟩ : OBlk))] ++ fam 3 1 (TT [])⟩ a5 w5 := hs8
  clear hs hs1 hs2 hs3 hs4 hs5
  change (Code.block _ _).wp _ _ _ _
  refine wp_block (wp_loop_ghost (fun n a w => ∃ K us T left i, n = l.length - i ∧ SRK E K ⟨G12 l room T.length left i, [(752, (⟨22, 1, .pure, lits us⟩ : OBlk))] ++ fam 3 1 (TT T)⟩ a w ∧ LitF w K 1 us (TT T) ∧ us.length = T.length ∧ Ord12 l room T left i) l.length
    ⟨K6, [], [], 0, 0, by omega, hs9, fun j t h => by simp [TT] at h, rfl, by omega, by simp, by simp, by omega, by omega, fun _ => rfl, rfl⟩ ?_)
  rintro n a w ⟨K, us, T, left, i, rfl, hs, hlf, hus, ho⟩
  refine wp_seq (W12 hN hs fam_ok (fam_apart rfl) (Q := fun e c' => e = .normal ∧ c' = _) rfl ⟨rfl, rfl⟩ ?_)
  rintro e c1 K1 a1 w1 ⟨rfl, rfl⟩ hs1 hl1
  replace hlf := hlf.left hl1
  clear hs hl1
  change (Code.seq _ _).wp _ _ _ _
  by_cases hlt : i < l.length
  · obtain ⟨n, hn, _, _⟩ := drop_cons hlt
    have hd : decide ((i : Int) < (l.length : Int)) = true := by simp; omega
    obtain ⟨kk, t, hm, ht, hti, hTi, hb1, hb2, ho'⟩ := ho.step hc hn
    have hil := ho.hi
    have hTl := ho.len
    refine wp_seq (W12 hN hs1 fam_ok (fam_apart rfl) (Q := fun e c' => e = .normal ∧ c' = _) rfl ⟨fun _ => ⟨rfl, rfl⟩, fun h => (by rw [show _ = true from hd] at h; cases h)⟩ ?_)
    rintro e c1 K2 a2 w2 ⟨rfl, rfl⟩ hs2 hl2
    replace hlf := hlf.left hl2
    clear hs1 hl2
    change (Code.seq _ _).wp _ _ _ _
    refine wp_seq (wp_block ?_)
    refine wp_seq (W12 hN hs2 fam_ok (fam_apart rfl) (Q := fun e c' => e = .normal ∧ c' = _) rfl ⟨⟨by omega, by omega⟩, enc n, get_map hn, rfl, rfl⟩ ?_)
    rintro e c1 K3 a3 w3 ⟨rfl, rfl⟩ hs3 hl3
    replace hlf := hlf.left hl3
    have hs3' := SRK.onlyT hs3 (fam_apart rfl) [0, 1, 4, 5, 6, 7, 8, 9, 14, 15, 16] [752]
    clear hs2 hl3 hs3
    change (Code.seq _ _).wp _ _ _ _
    refine wp_seq (wpNew12 hN hp hs3' hlf hus (by omega) ?_ _ rfl)
    intro K4 us4 a4 w4 hs4 hl4 hu4
    change (Code.seq _ _).wp _ _ _ _
    generalize (if n > left then T ++ [[]] else T) = T' at *
    generalize (if n > left then room else left) = left' at *
    refine wp_seq (W12 hN hs4 fam_ok (fam_apart rfl) (Q := fun e c' => e = .normal ∧ c' = _) rfl ⟨_, wrap64 (by omega) (by omega), rfl, rfl⟩ ?_)
    rintro e c1 K5 a5 w5 ⟨rfl, rfl⟩ hs5 hl5
    have hs5' := SRK.onlyT hs5 (fam_apart rfl) [0, 1, 4, 5, 6, 7, 8, 9, 14, 15, 16] [752]
    refine wpApp12 hN hp hs5' (hl4.left hl5) hm ht (by omega) (by omega) ?_
    intro K6 us6 a6 w6 hs6 hl6 hu6
    change (Code.region _ _ _).wp _ _ _ _
    refine W12 hN hs6 fam_ok (fam_apart rfl) (Q := fun e c' => e = .normal ∧ c' = _) rfl ⟨_, wrap64 (by omega) (by omega), rfl, rfl⟩ ?_
    rintro e c1 K7 a7 w7 ⟨rfl, rfl⟩ hs7 hl7
    have hs7' := SRK.onlyT hs7 (fam_apart rfl) [0, 1, 4, 5, 6, 7, 14, 15, 16] [752]
    refine ⟨l.length - (i + 1), by omega, K7, us6, T'.set kk (t ++ [(i : Int)]), left' - n, i + 1, rfl, ?_, hl6.left hl7, by rw [hu6, hu4, List.length_set], ho'⟩
    rw [List.length_set]; exact hs7'
  · have hd : decide ((i : Int) < (l.length : Int)) = false := by simp; omega
    refine wp_seq (W12 hN hs1 fam_ok (fam_apart rfl) (Q := fun e c' => e = .exit 0 ∧ c' = _) rfl ⟨fun h => (by rw [show _ = false from hd] at h; cases h), fun _ => ⟨rfl, rfl⟩⟩ ?_)
    rintro e c1 K2 a2 w2 ⟨rfl, rfl⟩ hs2 hl2
    replace hlf := hlf.left hl2
    have hie : i = l.length := by have := ho.hi; omega
    have heq := ho.eq
    rw [hie, List.drop_length, ordE] at heq
    rw [← heq]
    have hlen' : (TT T).length = T.length := by simp [TT]
    have hs3 := nest_freezeS (o := 752) (s := 6) hs2 hlf rfl rfl (by rw [hlen']; rfl)
    change (Code.seq _ _).wp _ _ _ _
    refine wp_seq (W12 (V := []) (Tl := []) hN hs3 TailOK.nil (Apart.nil _) (Q := fun e c' => e = .normal ∧ c' = _) rfl ⟨rfl, rfl⟩ ?_)
    rintro e c1 K3 a3 w3 ⟨rfl, rfl⟩ hs4 _
    change Code.ret.wp _ _ _ _
    refine wp_ret ⟨.inr rfl, K3, _, hs4, _, _, rfl, ⟨rfl, ?_⟩, rfl, rfl, trivial⟩
    show AA T = .rsl 1 (TT T).length ((TT T).map fun t => [.rsl 1 t.length t])
    rw [hlen', AA]
    congr 1
    rw [TT, List.map_map]
    refine List.map_congr_left fun t _ => ?_
    simp [encT]
end Go.Abs.L39
