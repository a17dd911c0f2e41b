import Derived.Test.YtjpcpnakcapojaaC38ac
import Derived.Test.YtjpcpnakcapojaaC38k
import Derived.Test.YtjpcpnakcapojaaH1
import Derived.Test.YtjpcpnakcapojaaC2
import Derived.Test.YtjpcpnakcapojaaP38e
namespace Go.Abs.L38
open Go Go.Abs Go.Proofs Go.Abs.Hung
set_option linter.unusedVariables false
set_option maxRecDepth 20000
/-! ### least (the reference) -/
abbrev ks34 : List Nat := [0, 2, 3, 4, 5, 6, 7, 8, 9, 10, 11, 12, 13, 14, 15, 16, 17, 18, 19, 20, 21, 22, 23, 24, 25, 26, 35, 50, 63, 64, 65, 75, 85, 91, 102, 119, 133, 141, 147, 174, 193, 200, 223]
theorem W34 {E : Env} (hN : E.N = 229) {K : KM} {fr : List (Nat × AV)} {V : List (Nat × OBlk)} {a : Act} {w : World} {code : Code} {Q : Ex → Cfg → Prop} {Q' : Exit → Act → World → Prop} (hs : SRK E K ⟨fr, V⟩ a w) (hd : drawsOK code = true)
    (h : ev Try.prog tt 229 ks34 code ⟨fr, V⟩ Q) (hQ : ∀ e c' K' a' w', Q e c' → SRK E K' c' a' w' → Q' e.toExit a' w') : code.wp Try.prog Q' a w := by
  refine wp_ev (Tl := []) tabOK tabOne mixed hN TailOK.nil (Apart.nil _) hd h (by rw [List.append_nil]; exact hs) ?_
  intro e c' K' a' w' q h' _
  rw [List.append_nil] at h'
  exact hQ e c' K' a' w' q h'
/-- the code of a phase, of one more column -/
def ph34 : Code → Code
  | .seq _ (.seq _ (.seq _ (.seq _ (.seq _ (.seq (.seq _ (.block _ (.loop (.seq _ (.seq (.block _ c) _))))) _))))) => c
  | c => c
def in34 (c : Code) : Code := match ph34 c with
  | .seq _ (.seq _ (.seq _ (.seq _ (.seq (.block _ (.loop (.seq _ (.block _ c)))) _)))) => c
  | c => c
def scan34 (c : Code) : Code := match in34 c with | .seq _ (.seq _ (.seq c _)) => c | c => c
def upd34 (c : Code) : Code := match in34 c with | .seq _ (.seq _ (.seq _ (.seq c _))) => c | c => c
abbrev OBR (u v : List Int) (row W : List Nat) : List (Nat × OBlk) := [(608, ⟨3, 1, .pure, u.map enc⟩), (656, ⟨3, 1, .pure, v.map enc⟩), (704, ⟨3, 1, .pure, (upN row).map enc⟩), (752, ⟨3, 1, .pure, (upN W).map enc⟩)]
abbrev OIR (u v : List Int) (row : List Nat) (L : List Int) (W : List Nat) (used : List Bool) : List (Nat × OBlk) := [(608, ⟨3, 1, .pure, u.map enc⟩), (656, ⟨3, 1, .pure, v.map enc⟩), (704, ⟨3, 1, .pure, (upN row).map enc⟩), (752, ⟨3, 1, .pure, (upN W).map enc⟩), (928, ⟨3, 1, .pure, L.map enc⟩), (976, ⟨4, 1, .pure, used.map encB⟩)]
abbrev FBR (T : List (List Int)) (n m p : Nat) : List (Nat × AV) := [(0, AA T), (5, I n), (6, I m), (7, .osl 608 1 (n + 1)), (8, .osl 656 1 (m + 1)), (9, .osl 704 1 (m + 1)), (10, .osl 752 1 (m + 1)), (11, I p)]
abbrev FPR (T : List (List Int)) (n m p here : Nat) : List (Nat × AV) := [(0, AA T), (5, I n), (6, I m), (7, .osl 608 1 (n + 1)), (8, .osl 656 1 (m + 1)), (9, .osl 704 1 (m + 1)), (10, .osl 752 1 (m + 1)), (11, I p), (12, I here), (13, .osl 928 1 (m + 1)), (14, .osl 976 1 (m + 1))]
abbrev FIR (T : List (List Int)) (n m p here r : Nat) (d : Int) (x : Nat) : List (Nat × AV) := [(0, AA T), (5, I n), (6, I m), (7, .osl 608 1 (n + 1)), (8, .osl 656 1 (m + 1)), (9, .osl 704 1 (m + 1)), (10, .osl 752 1 (m + 1)), (11, I p), (12, I here), (13, .osl 928 1 (m + 1)), (14, .osl 976 1 (m + 1)), (16, I r), (17, I d), (18, I x)]
abbrev FKR (T : List (List Int)) (n m p here r : Nat) (d : Int) (x k : Nat) : List (Nat × AV) := [(0, AA T), (5, I n), (6, I m), (7, .osl 608 1 (n + 1)), (8, .osl 656 1 (m + 1)), (9, .osl 704 1 (m + 1)), (10, .osl 752 1 (m + 1)), (11, I p), (12, I here), (13, .osl 928 1 (m + 1)), (14, .osl 976 1 (m + 1)), (16, I r), (17, I d), (18, I x), (19, I k)]
set_option maxHeartbeats 4000000 in
theorem ev_scanR {T : List (List Int)} {F u v : List Int} {row : List Nat} {L : List Int} {W : List Nat} {used : List Bool} {n m p here r : Nat} {d : Int} {x : Nat} {Y : List Int × List Nat × Int × Nat} (hn : T.length = n) (hF : F.length = n) (hfr : ∀ i, i < n → F.getD i 0 < 0) (hT : ∀ t ∈ T, t.length = m) (hm : m ≤ 1000) (hn1 : n ≤ 1000) (hr : 1 ≤ r ∧ r ≤ n) (lu : u.length = n + 1) (lv : v.length = m + 1) (lus : used.length = m + 1) (lL : L.length = m + 1) (lW : W.length = m + 1)
    (hb : ∀ k, 1 ≤ k → k ≤ m → 0 ≤ atE T F (r - 1) (k - 1) ∧ atE T F (r - 1) (k - 1) ≤ 1048576 ∧ -1099511627776 ≤ u.getD r 0 ∧ u.getD r 0 ≤ 1099511627776 ∧ -1099511627776 ≤ v.getD k 0 ∧ v.getD k 0 ≤ 1099511627776)
    (hY : scan (atE T F) used u v r here m 1 L W d x = Y) :
    ev Try.prog tt 229 ks34 (scan34 (body Try.f34)) ⟨FIR T n m p here r d x, OIR u v row L W used⟩ fun e c => e = .normal ∧ ∃ fr, c = ⟨FIR T n m p here r Y.2.2.1 Y.2.2.2 ++ fr, OIR u v row Y.1 Y.2.1 used⟩ := by
  refine ⟨fun q c => ∃ (k : Nat) (L' : List Int) (W' : List Nat) (d' : Int) (x' : Nat), 1 ≤ k ∧ k ≤ m + 1 ∧ q = m + 1 - k ∧ L'.length = m + 1 ∧ W'.length = m + 1 ∧ scan (atE T F) used u v r here (m + 1 - k) k L' W' d' x' = Y ∧ c = ⟨FKR T n m p here r d' x' k, OIR u v row L' W' used⟩, ⟨_, _, Wk.keep [0, 5, 6, 7, 8, 9, 10, 11, 12, 13, 14, 16, 17, 18, 19] [608, 656, 704, 752, 928, 976], 1, L, W, d, x, by omega, by omega, rfl, lL, lW, by rw [show m + 1 - 1 = m by omega]; exact hY, rfl⟩, ?_⟩
  rintro q c ⟨k, L, W, d, x, hk1, hk2, rfl, lL, lW, hS, rfl⟩
  refine ⟨fun h => ?_, fun h => ?_⟩
  · have hkm : k ≤ m := by simp at h; omega
    clear h
    rw [show m + 1 - k = (m - k) + 1 by omega, scan] at hS
    have rU := rowB_at (l := used) (i := k) (by omega)
    obtain ⟨b1, b2, b3, b4, b5, b6⟩ := hb k hk1 hkm
    refine ⟨⟨by omega, by omega⟩, _, rU, fun hu => ?_, fun hu => ?_⟩
    · have hu : used.getD k false = true := hu
      rw [if_pos hu] at hS
      refine ⟨((k + 1 : Nat) : Int), wrapTo (by omega) (by omega) (by omega), ?_⟩
      exact ⟨_, _, Wk.keep [0, 5, 6, 7, 8, 9, 10, 11, 12, 13, 14, 16, 17, 18, 19] [608, 656, 704, 752, 928, 976], by omega, k + 1, L, W, d, x, by omega, by omega, rfl, lL, lW, by rw [show m + 1 - (k + 1) = m - k by omega]; exact hS, rfl⟩
    have hu : used.getD k false = false := hu
    rw [if_neg (by rw [hu]; simp)] at hS
    have rT : (T.getD (r - 1) []).length = m := by
      have : T[r - 1]? = some T[r - 1] := by simp
      rw [List.getD_eq_getElem?_getD, this]
      exact hT _ (List.mem_of_getElem? this)
    have rT2 : (T.map encT)[((r - 1 : Nat) : Int).toNat]? = some (encT (T.getD (r - 1) [])) := rowT_at (by omega)
    have rC := row_at (l := T.getD (r - 1) []) (i := k - 1) (by omega)
    have hfree : F.getD (r - 1) 0 < 0 := hfr (r - 1) (by omega)
    have ru := row_at (l := u) (i := r) (by omega)
    have rv := row_at (l := v) (i := k) (by omega)
    have rL := row_at (l := L) (i := k) (by omega)
    refine ⟨((r - 1 : Nat) : Int), wrapTo (by omega) (by omega) (by omega), ⟨by omega, by omega⟩, _, rT2, ((k - 1 : Nat) : Int), wrapTo (by omega) (by omega) (by omega), ⟨by omega, by omega⟩, _, rC, fun hcc => ?_, fun hcc => ?_⟩
    · have hx : (1048576 : Int) = atE T F (r - 1) (k - 1) := by
        have hcc := of_decide_eq_true hcc
        rw [atE, if_neg (fun h => absurd h.1 (by omega))]
      refine ⟨⟨by omega, by omega⟩, _, ru, (atE T F (r - 1) (k - 1) - u.getD r 0), wrapTo (by rw [← hx]) (by omega) (by omega), ⟨by omega, by omega⟩, _, rv, (atE T F (r - 1) (k - 1) - u.getD r 0 - v.getD k 0), wrapTo rfl (by omega) (by omega), ⟨by omega, by omega⟩, _, rL, ?_⟩
      have rW := row_at (l := upN W) (i := k) (by rw [upN_len]; omega)
      have hS : (if (if atE T F (r - 1) (k - 1) - u.getD r 0 - v.getD k 0 < L.getD k 0 then L.set k (atE T F (r - 1) (k - 1) - u.getD r 0 - v.getD k 0) else L).getD k 0 < d then scan (atE T F) used u v r here (m - k) (k + 1) (if atE T F (r - 1) (k - 1) - u.getD r 0 - v.getD k 0 < L.getD k 0 then L.set k (atE T F (r - 1) (k - 1) - u.getD r 0 - v.getD k 0) else L) (if atE T F (r - 1) (k - 1) - u.getD r 0 - v.getD k 0 < L.getD k 0 then W.set k here else W) ((if atE T F (r - 1) (k - 1) - u.getD r 0 - v.getD k 0 < L.getD k 0 then L.set k (atE T F (r - 1) (k - 1) - u.getD r 0 - v.getD k 0) else L).getD k 0) k else scan (atE T F) used u v r here (m - k) (k + 1) (if atE T F (r - 1) (k - 1) - u.getD r 0 - v.getD k 0 < L.getD k 0 then L.set k (atE T F (r - 1) (k - 1) - u.getD r 0 - v.getD k 0) else L) (if atE T F (r - 1) (k - 1) - u.getD r 0 - v.getD k 0 < L.getD k 0 then W.set k here else W) d x) = Y := hS
      generalize atE T F (r - 1) (k - 1) - u.getD r 0 - v.getD k 0 = cc at hS ⊢
      by_cases hlt : cc < L.getD k 0
      · rw [if_pos hlt, if_pos hlt] at hS
        have eL : ((L.map enc).set ((k : Nat) : Int).toNat [I cc]) = (L.set k cc).map enc := row_set
        have eW : (((upN W).map enc).set ((k : Nat) : Int).toNat [I here]) = (upN (W.set k here)).map enc := by rw [row_set, upN_set]
        have gk : (L.set k cc).getD k 0 = cc := by rw [gset (by omega), if_pos rfl]
        have rL' : ((L.map enc).set ((k : Nat) : Int).toNat [I cc])[((k : Nat) : Int).toNat]? = some [I cc] := by
          rw [eL, row_at (by rw [List.length_set]; omega), gk]
        rw [gk] at hS
        refine ⟨fun _ => ?_, fun h => absurd hlt (of_decide_eq_false h)⟩
        refine ⟨⟨by omega, by omega⟩, _, rL, ⟨by omega, by omega⟩, _, rW, ⟨by omega, by omega⟩, _, rL', fun hd => ?_, fun hd => ?_⟩
        · have hd : cc < d := of_decide_eq_true hd
          rw [if_pos hd] at hS
          refine ⟨⟨by omega, by omega⟩, _, rL', ((k + 1 : Nat) : Int), wrapTo (by omega) (by omega) (by omega), ?_⟩
          refine ⟨_, _, Wk.keep [0, 5, 6, 7, 8, 9, 10, 11, 12, 13, 14, 16, 17, 18, 19] [608, 656, 704, 752, 928, 976], by omega, k + 1, L.set k cc, W.set k here, cc, k, by omega, by omega, rfl, by rw [List.length_set]; exact lL, by rw [List.length_set]; exact lW, by rw [show m + 1 - (k + 1) = m - k by omega]; exact hS, ?_⟩
          show _ = Cfg.mk _ [(608, _), (656, _), (704, _), (752, (⟨3, 1, .pure, (upN (W.set k here)).map enc⟩ : OBlk)), (928, (⟨3, 1, .pure, (L.set k cc).map enc⟩ : OBlk)), (976, _)]
          rw [← eL, ← eW]; rfl
        · have hd : ¬ cc < d := of_decide_eq_false hd
          rw [if_neg hd] at hS
          refine ⟨((k + 1 : Nat) : Int), wrapTo (by omega) (by omega) (by omega), ?_⟩
          refine ⟨_, _, Wk.keep [0, 5, 6, 7, 8, 9, 10, 11, 12, 13, 14, 16, 17, 18, 19] [608, 656, 704, 752, 928, 976], by omega, k + 1, L.set k cc, W.set k here, d, x, by omega, by omega, rfl, by rw [List.length_set]; exact lL, by rw [List.length_set]; exact lW, by rw [show m + 1 - (k + 1) = m - k by omega]; exact hS, ?_⟩
          show _ = Cfg.mk _ [(608, _), (656, _), (704, _), (752, (⟨3, 1, .pure, (upN (W.set k here)).map enc⟩ : OBlk)), (928, (⟨3, 1, .pure, (L.set k cc).map enc⟩ : OBlk)), (976, _)]
          rw [← eL, ← eW]; rfl
      · rw [if_neg hlt, if_neg hlt] at hS
        refine ⟨fun h => absurd (of_decide_eq_true h) hlt, fun _ => ?_⟩
        refine ⟨⟨by omega, by omega⟩, _, rL, fun hd => ?_, fun hd => ?_⟩
        · have hd : L.getD k 0 < d := of_decide_eq_true hd
          rw [if_pos hd] at hS
          refine ⟨⟨by omega, by omega⟩, _, rL, ((k + 1 : Nat) : Int), wrapTo (by omega) (by omega) (by omega), ?_⟩
          exact ⟨_, _, Wk.keep [0, 5, 6, 7, 8, 9, 10, 11, 12, 13, 14, 16, 17, 18, 19] [608, 656, 704, 752, 928, 976], by omega, k + 1, L, W, L.getD k 0, k, by omega, by omega, rfl, lL, lW, by rw [show m + 1 - (k + 1) = m - k by omega]; exact hS, rfl⟩
        · have hd : ¬ L.getD k 0 < d := of_decide_eq_false hd
          rw [if_neg hd] at hS
          refine ⟨((k + 1 : Nat) : Int), wrapTo (by omega) (by omega) (by omega), ?_⟩
          exact ⟨_, _, Wk.keep [0, 5, 6, 7, 8, 9, 10, 11, 12, 13, 14, 16, 17, 18, 19] [608, 656, 704, 752, 928, 976], by omega, k + 1, L, W, d, x, by omega, by omega, rfl, lL, lW, by rw [show m + 1 - (k + 1) = m - k by omega]; exact hS, rfl⟩
    · have hx : (T.getD (r - 1) []).getD (k - 1) 0 = atE T F (r - 1) (k - 1) := by
        have hcc := of_decide_eq_false hcc
        rw [atE, if_pos ⟨by omega, .inl hfree⟩]
      refine ⟨⟨by omega, by omega⟩, _, ru, (atE T F (r - 1) (k - 1) - u.getD r 0), wrapTo (by rw [← hx]) (by omega) (by omega), ⟨by omega, by omega⟩, _, rv, (atE T F (r - 1) (k - 1) - u.getD r 0 - v.getD k 0), wrapTo rfl (by omega) (by omega), ⟨by omega, by omega⟩, _, rL, ?_⟩
      have rW := row_at (l := upN W) (i := k) (by rw [upN_len]; omega)
      have hS : (if (if atE T F (r - 1) (k - 1) - u.getD r 0 - v.getD k 0 < L.getD k 0 then L.set k (atE T F (r - 1) (k - 1) - u.getD r 0 - v.getD k 0) else L).getD k 0 < d then scan (atE T F) used u v r here (m - k) (k + 1) (if atE T F (r - 1) (k - 1) - u.getD r 0 - v.getD k 0 < L.getD k 0 then L.set k (atE T F (r - 1) (k - 1) - u.getD r 0 - v.getD k 0) else L) (if atE T F (r - 1) (k - 1) - u.getD r 0 - v.getD k 0 < L.getD k 0 then W.set k here else W) ((if atE T F (r - 1) (k - 1) - u.getD r 0 - v.getD k 0 < L.getD k 0 then L.set k (atE T F (r - 1) (k - 1) - u.getD r 0 - v.getD k 0) else L).getD k 0) k else scan (atE T F) used u v r here (m - k) (k + 1) (if atE T F (r - 1) (k - 1) - u.getD r 0 - v.getD k 0 < L.getD k 0 then L.set k (atE T F (r - 1) (k - 1) - u.getD r 0 - v.getD k 0) else L) (if atE T F (r - 1) (k - 1) - u.getD r 0 - v.getD k 0 < L.getD k 0 then W.set k here else W) d x) = Y := hS
      generalize atE T F (r - 1) (k - 1) - u.getD r 0 - v.getD k 0 = cc at hS ⊢
      by_cases hlt : cc < L.getD k 0
      · rw [if_pos hlt, if_pos hlt] at hS
        have eL : ((L.map enc).set ((k : Nat) : Int).toNat [I cc]) = (L.set k cc).map enc := row_set
        have eW : (((upN W).map enc).set ((k : Nat) : Int).toNat [I here]) = (upN (W.set k here)).map enc := by rw [row_set, upN_set]
        have gk : (L.set k cc).getD k 0 = cc := by rw [gset (by omega), if_pos rfl]
        have rL' : ((L.map enc).set ((k : Nat) : Int).toNat [I cc])[((k : Nat) : Int).toNat]? = some [I cc] := by
          rw [eL, row_at (by rw [List.length_set]; omega), gk]
        rw [gk] at hS
        refine ⟨fun _ => ?_, fun h => absurd hlt (of_decide_eq_false h)⟩
        refine ⟨⟨by omega, by omega⟩, _, rL, ⟨by omega, by omega⟩, _, rW, ⟨by omega, by omega⟩, _, rL', fun hd => ?_, fun hd => ?_⟩
        · have hd : cc < d := of_decide_eq_true hd
          rw [if_pos hd] at hS
          refine ⟨⟨by omega, by omega⟩, _, rL', ((k + 1 : Nat) : Int), wrapTo (by omega) (by omega) (by omega), ?_⟩
          refine ⟨_, _, Wk.keep [0, 5, 6, 7, 8, 9, 10, 11, 12, 13, 14, 16, 17, 18, 19] [608, 656, 704, 752, 928, 976], by omega, k + 1, L.set k cc, W.set k here, cc, k, by omega, by omega, rfl, by rw [List.length_set]; exact lL, by rw [List.length_set]; exact lW, by rw [show m + 1 - (k + 1) = m - k by omega]; exact hS, ?_⟩
          show _ = Cfg.mk _ [(608, _), (656, _), (704, _), (752, (⟨3, 1, .pure, (upN (W.set k here)).map enc⟩ : OBlk)), (928, (⟨3, 1, .pure, (L.set k cc).map enc⟩ : OBlk)), (976, _)]
          rw [← eL, ← eW]; rfl
        · have hd : ¬ cc < d := of_decide_eq_false hd
          rw [if_neg hd] at hS
          refine ⟨((k + 1 : Nat) : Int), wrapTo (by omega) (by omega) (by omega), ?_⟩
          refine ⟨_, _, Wk.keep [0, 5, 6, 7, 8, 9, 10, 11, 12, 13, 14, 16, 17, 18, 19] [608, 656, 704, 752, 928, 976], by omega, k + 1, L.set k cc, W.set k here, d, x, by omega, by omega, rfl, by rw [List.length_set]; exact lL, by rw [List.length_set]; exact lW, by rw [show m + 1 - (k + 1) = m - k by omega]; exact hS, ?_⟩
          show _ = Cfg.mk _ [(608, _), (656, _), (704, _), (752, (⟨3, 1, .pure, (upN (W.set k here)).map enc⟩ : OBlk)), (928, (⟨3, 1, .pure, (L.set k cc).map enc⟩ : OBlk)), (976, _)]
          rw [← eL, ← eW]; rfl
      · rw [if_neg hlt, if_neg hlt] at hS
        refine ⟨fun h => absurd (of_decide_eq_true h) hlt, fun _ => ?_⟩
        refine ⟨⟨by omega, by omega⟩, _, rL, fun hd => ?_, fun hd => ?_⟩
        · have hd : L.getD k 0 < d := of_decide_eq_true hd
          rw [if_pos hd] at hS
          refine ⟨⟨by omega, by omega⟩, _, rL, ((k + 1 : Nat) : Int), wrapTo (by omega) (by omega) (by omega), ?_⟩
          exact ⟨_, _, Wk.keep [0, 5, 6, 7, 8, 9, 10, 11, 12, 13, 14, 16, 17, 18, 19] [608, 656, 704, 752, 928, 976], by omega, k + 1, L, W, L.getD k 0, k, by omega, by omega, rfl, lL, lW, by rw [show m + 1 - (k + 1) = m - k by omega]; exact hS, rfl⟩
        · have hd : ¬ L.getD k 0 < d := of_decide_eq_false hd
          rw [if_neg hd] at hS
          refine ⟨((k + 1 : Nat) : Int), wrapTo (by omega) (by omega) (by omega), ?_⟩
          exact ⟨_, _, Wk.keep [0, 5, 6, 7, 8, 9, 10, 11, 12, 13, 14, 16, 17, 18, 19] [608, 656, 704, 752, 928, 976], by omega, k + 1, L, W, d, x, by omega, by omega, rfl, lL, lW, by rw [show m + 1 - (k + 1) = m - k by omega]; exact hS, rfl⟩
  · have hk : k = m + 1 := by simp at h; omega
    subst hk
    rw [Nat.sub_self, scan] at hS
    subst hS
    exact ⟨rfl, _, rfl⟩
set_option maxHeartbeats 4000000 in
theorem ev_updR {T : List (List Int)} {u v : List Int} {row : List Nat} {L : List Int} {W : List Nat} {used : List Bool} {n m p here r : Nat} {d : Int} {x : Nat} {Z : List Int × List Int × List Int} (hm : m ≤ 1000) (lu : u.length = n + 1) (lv : v.length = m + 1) (lr : row.length = m + 1) (lus : used.length = m + 1) (lL : L.length = m + 1) (hrow : ∀ k, row.getD k 0 ≤ n)
    (hd : 0 ≤ d ∧ d ≤ 1099511627776) (hbu : ∀ i, -2199023255552 ≤ u.getD i 0 ∧ u.getD i 0 ≤ 2199023255552) (hbv : ∀ i, -2199023255552 ≤ v.getD i 0 ∧ v.getD i 0 ≤ 2199023255552) (hbL : ∀ k, k ≤ m → used.getD k false = false → -2199023255552 ≤ L.getD k 0 ∧ L.getD k 0 ≤ 2199023255552)
    (hZ : Hung.upd row used d (m + 1) 0 u v L = Z) :
    ev Try.prog tt 229 ks34 (upd34 (body Try.f34)) ⟨FIR T n m p here r d x, OIR u v row L W used⟩ fun e c => e = .normal ∧ ∃ fr, c = ⟨FIR T n m p here r d x ++ fr, OIR Z.1 Z.2.1 row Z.2.2 W used⟩ := by
  refine ⟨fun q c => ∃ (k : Nat) (u' v' L' : List Int), k ≤ m + 1 ∧ q = m + 1 - k ∧ u'.length = n + 1 ∧ v'.length = m + 1 ∧ L'.length = m + 1 ∧ (∀ i, -(2199023255552 + 1099511627776 * (k : Int)) ≤ u'.getD i 0 ∧ u'.getD i 0 ≤ 2199023255552 + 1099511627776 * (k : Int)) ∧ (∀ i, -(2199023255552 + 1099511627776 * (k : Int)) ≤ v'.getD i 0 ∧ v'.getD i 0 ≤ 2199023255552 + 1099511627776 * (k : Int)) ∧ (∀ j, k ≤ j → L'.getD j 0 = L.getD j 0) ∧ Hung.upd row used d (m + 1 - k) k u' v' L' = Z ∧
      c = ⟨FIR T n m p here r d x ++ [(22, I k)], OIR u' v' row L' W used⟩, ⟨_, _, Wk.keep [0, 5, 6, 7, 8, 9, 10, 11, 12, 13, 14, 16, 17, 18, 22] [608, 656, 704, 752, 928, 976], 0, u, v, L, by omega, rfl, lu, lv, lL, fun i => by have := hbu i; omega, fun i => by have := hbv i; omega, fun j _ => rfl, hZ, rfl⟩, ?_⟩
  rintro q c ⟨k, u, v, L', hk, rfl, lu, lv, lL, bu, bv, eL, hZ, rfl⟩
  refine ⟨fun h => ?_, fun h => ?_⟩
  · have hkm : k ≤ m := by simp at h; omega
    clear h
    have rU := rowB_at (l := used) (i := k) (by omega)
    rw [show m + 1 - k = (m - k) + 1 by omega, Hung.upd] at hZ
    refine ⟨⟨by omega, by omega⟩, _, rU, fun hu => ?_, fun hu => ?_⟩
    · have hu : used.getD k false = true := hu
      rw [if_pos hu] at hZ
      have hrk := hrow k
      have rR := row_at (l := upN row) (i := k) (by rw [upN_len]; omega)
      rw [upN_at] at rR
      have ru := row_at (l := u) (i := row.getD k 0) (by omega)
      have rv := row_at (l := v) (i := k) (by omega)
      have b1 := bu (row.getD k 0)
      have b2 := bv k
      generalize row.getD k 0 = rk at *
      have eu : (u.map enc).set ((rk : Nat) : Int).toNat [I (u.getD rk 0 + d)] = (u.set rk (u.getD rk 0 + d)).map enc := row_set
      have ev' : (v.map enc).set ((k : Nat) : Int).toNat [I (v.getD k 0 - d)] = (v.set k (v.getD k 0 - d)).map enc := row_set
      refine ⟨⟨by omega, by omega⟩, _, rR, ⟨by omega, by omega⟩, _, ru, _, wrap64 (by omega) (by omega), ⟨by omega, by omega⟩, _, ru, ⟨by omega, by omega⟩, _, rv, _, wrap64 (by omega) (by omega), ⟨by omega, by omega⟩, _, rv, ((k + 1 : Nat) : Int), wrapTo (by omega) (by omega) (by omega), ?_⟩
      refine ⟨_, _, Wk.keep [0, 5, 6, 7, 8, 9, 10, 11, 12, 13, 14, 16, 17, 18, 22] [608, 656, 704, 752, 928, 976], by omega, k + 1, u.set rk (u.getD rk 0 + d), v.set k (v.getD k 0 - d), L', by omega, rfl, by rw [List.length_set]; exact lu, by rw [List.length_set]; exact lv, lL, fun i => gset_le (fun j => by have := bu j; omega) (by omega) (by omega), fun i => gset_le (fun j => by have := bv j; omega) (by omega) (by omega), fun j hj => eL j (by omega), by rw [show m + 1 - (k + 1) = m - k by omega]; exact hZ, ?_⟩
      show _ = Cfg.mk _ [(608, (⟨3, 1, .pure, (u.set rk (u.getD rk 0 + d)).map enc⟩ : OBlk)), (656, (⟨3, 1, .pure, (v.set k (v.getD k 0 - d)).map enc⟩ : OBlk)), (704, _), (752, _), (928, _), (976, _)]
      rw [← eu, ← ev']; rfl
    · have hu : used.getD k false = false := hu
      rw [if_neg (by rw [hu]; simp)] at hZ
      have rL := row_at (l := L') (i := k) (by omega)
      have b1 := hbL k hkm hu
      rw [← eL k (Nat.le_refl _)] at b1
      have e' : (L'.map enc).set ((k : Nat) : Int).toNat [I (L'.getD k 0 - d)] = (L'.set k (L'.getD k 0 - d)).map enc := row_set
      refine ⟨⟨by omega, by omega⟩, _, rL, _, wrap64 (by omega) (by omega), ⟨by omega, by omega⟩, _, rL, ((k + 1 : Nat) : Int), wrapTo (by omega) (by omega) (by omega), ?_⟩
      refine ⟨_, _, Wk.keep [0, 5, 6, 7, 8, 9, 10, 11, 12, 13, 14, 16, 17, 18, 22] [608, 656, 704, 752, 928, 976], by omega, k + 1, u, v, L'.set k (L'.getD k 0 - d), by omega, rfl, lu, lv, by rw [List.length_set]; exact lL, fun i => by have := bu i; omega, fun i => by have := bv i; omega, fun j hj => by rw [gset (by omega), if_neg (by omega)]; exact eL j (by omega), by rw [show m + 1 - (k + 1) = m - k by omega]; exact hZ, ?_⟩
      show _ = Cfg.mk _ [(608, _), (656, _), (704, _), (752, _), (928, (⟨3, 1, .pure, (L'.set k (L'.getD k 0 - d)).map enc⟩ : OBlk)), (976, _)]
      rw [← e']; rfl
  · have hk : k = m + 1 := by simp at h; omega
    subst hk
    rw [Nat.sub_self, Hung.upd] at hZ
    subst hZ
    exact ⟨rfl, _, rfl⟩
end Go.Abs.L38
namespace Go.Abs.L38
open Go Go.Abs Go.Proofs Go.Abs.Hung
set_option linter.unusedVariables false
set_option maxRecDepth 20000
theorem in_stepR {E : Env} (hN : E.N = 229) {T : List (List Int)} {F : List Int} {n m p : Nat} {row : List Nat} {B : Int} {s : St} {ord : List Nat} {D : Int} {K : KM} {a : Act} {w : World} {Q : Exit → Act → World → Prop} (tb : Tb T F n m) (hfr : ∀ i, i < n → F.getD i 0 < 0) (hB : 0 ≤ B ∧ B ≤ 16777216) (R : RowOK n m p row) (h : Inv (atE T F) n m p row 1048576 B 1099511627776 s ord D) (hr : row.getD s.here 0 ≠ 0)
    (hs : SRK E K ⟨FPR T n m p s.here, OIR s.u s.v row s.L s.W s.used⟩ a w)
    (hQ : ∀ K' a' w', SRK E K' ⟨FPR T n m p (Hung.step (atE T F) m 1099511627776 row s).here, OIR (Hung.step (atE T F) m 1099511627776 row s).u (Hung.step (atE T F) m 1099511627776 row s).v row (Hung.step (atE T F) m 1099511627776 row s).L (Hung.step (atE T F) m 1099511627776 row s).W (Hung.step (atE T F) m 1099511627776 row s).used⟩ a' w' → Q .normal a' w') : (in34 (body Try.f34)).wp Try.prog Q a w := by
  obtain ⟨hh1, hh2⟩ := h.hhere
  have hn := tb.h1
  have hm := tb.h2
  have hD := h.hD
  obtain ⟨⟨r1, r2⟩, f1, f2, ⟨d1, d2⟩, f3, f4, f5⟩ := step_facts tb.at hB.1 (by omega) R h hr
  have hstep : Hung.step (atE T F) m 1099511627776 row s = (let y := scan (atE T F) (s.used.set s.here true) s.u s.v (row.getD s.here 0) s.here m 1 s.L s.W 1099511627776 0
    let z := Hung.upd row (s.used.set s.here true) y.2.2.1 (m + 1) 0 s.u s.v y.1
    ⟨z.1, z.2.1, z.2.2, y.2.1, s.used.set s.here true, y.2.2.2⟩) := rfl
  rw [hstep] at hQ
  simp only at hQ
  generalize hY : scan (atE T F) (s.used.set s.here true) s.u s.v (row.getD s.here 0) s.here m 1 s.L s.W 1099511627776 0 = Y at *
  generalize hZ : Hung.upd row (s.used.set s.here true) Y.2.2.1 (m + 1) 0 s.u s.v Y.1 = Z at *
  have lus := h.lus
  have lr := R.lr
  have rU := rowB_at (l := s.used) (i := s.here) (by omega)
  have rR := row_at (l := upN row) (i := s.here) (by rw [upN_len]; omega)
  rw [upN_at] at rR
  have eU : (s.used.map encB).set ((s.here : Nat) : Int).toNat [.bool true] = (s.used.set s.here true).map encB := rowB_set
  change (Code.seq _ _).wp _ _ _ _
  refine wp_seq (W34 hN hs (Q := fun e c' => e = .normal ∧ c' = _) rfl ⟨⟨by omega, by omega⟩, _, rU, rfl, rfl⟩ ?_)
  rintro e c1 K1 a1 w1 ⟨rfl, rfl⟩ hs1
  have hs2 : SRK E K1 ⟨FPR T n m p s.here, OIR s.u s.v row s.L s.W (s.used.set s.here true)⟩ a1 w1 := by
    show SRK E K1 (Cfg.mk _ [(608, _), (656, _), (704, _), (752, _), (928, _), (976, (⟨4, 1, .pure, (s.used.set s.here true).map encB⟩ : OBlk))]) a1 w1
    rw [← eU]; exact hs1
  change (Code.seq _ _).wp _ _ _ _
  refine wp_seq (W34 hN hs2 (Q := fun e c' => e = .normal ∧ c' = _) rfl ⟨⟨by omega, by omega⟩, _, rR, rfl, rfl⟩ ?_)
  rintro e c1 K2 a2 w2 ⟨rfl, rfl⟩ hs3
  have hs4 : SRK E K2 ⟨FIR T n m p s.here (row.getD s.here 0) 1099511627776 0, OIR s.u s.v row s.L s.W (s.used.set s.here true)⟩ a2 w2 := SRK.only hs3 [0, 5, 6, 7, 8, 9, 10, 11, 12, 13, 14, 16, 17, 18] [608, 656, 704, 752, 928, 976]
  clear hs hs1 hs2 hs3
  change (Code.seq _ _).wp _ _ _ _
  refine wp_seq (W34 hN hs4 rfl (ev_scanR (Y := Y) tb.hn tb.hF hfr tb.hT (by omega) (by omega) ⟨r1, r2⟩ h.lu h.lv (by rw [List.length_set]; exact lus) h.lL h.lW (fun k k1 k2 => by
    have := tb.at (row.getD s.here 0 - 1) (k - 1)
    have := h.hu (row.getD s.here 0)
    have := h.hv k
    omega) hY) ?_)
  rintro e c1 K3 a3 w3 ⟨rfl, fr, rfl⟩ hs5
  have hs6 : SRK E K3 ⟨FIR T n m p s.here (row.getD s.here 0) Y.2.2.1 Y.2.2.2, OIR s.u s.v row Y.1 Y.2.1 (s.used.set s.here true)⟩ a3 w3 := SRK.only hs5 [0, 5, 6, 7, 8, 9, 10, 11, 12, 13, 14, 16, 17, 18] [608, 656, 704, 752, 928, 976]
  change (Code.seq _ _).wp _ _ _ _
  refine wp_seq (W34 hN hs6 rfl (ev_updR (Z := Z) (by omega) h.lu h.lv lr (by rw [List.length_set]; exact lus) f1 (fun k => by have := R.le k; have := R.hp; omega) ⟨by omega, by omega⟩ (fun i => by have := h.hu i; omega) (fun i => by have := h.hv i; omega) (fun k k1 k2 => by
    by_cases k0 : k = 0
    · subst k0; rw [f5] at k2; cases k2
    · have := f4 k (by omega) k1 k2; omega) hZ) ?_)
  rintro e c1 K4 a4 w4 ⟨rfl, fr2, rfl⟩ hs7
  have hs8 : SRK E K4 ⟨FIR T n m p s.here (row.getD s.here 0) Y.2.2.1 Y.2.2.2, OIR Z.1 Z.2.1 row Z.2.2 Y.2.1 (s.used.set s.here true)⟩ a4 w4 := SRK.only hs7 [0, 5, 6, 7, 8, 9, 10, 11, 12, 13, 14, 16, 17, 18] [608, 656, 704, 752, 928, 976]
  change (Code.region _ _ _).wp _ _ _ _
  refine W34 hN hs8 (Q := fun e c' => e = .normal ∧ c' = _) rfl ⟨rfl, rfl⟩ ?_
  rintro e c1 K5 a5 w5 ⟨rfl, rfl⟩ hs9
  exact hQ K5 a5 w5 (SRK.only hs9 [0, 5, 6, 7, 8, 9, 10, 11, 12, 13, 14] [608, 656, 704, 752, 928, 976])
def inL34 (c : Code) : Code := match ph34 c with
  | .seq _ (.seq _ (.seq _ (.seq _ (.seq c _)))) => c
  | c => c
theorem in_loopR {E : Env} (hN : E.N = 229) {T : List (List Int)} {F : List Int} {n m p : Nat} {row : List Nat} {B : Int} {s t : St} {ord : List Nat} {D : Int} {f : Nat} {K : KM} {a : Act} {w : World} {Q : Exit → Act → World → Prop} (tb : Tb T F n m) (hfr : ∀ i, i < n → F.getD i 0 < 0) (hB : 0 ≤ B ∧ B ≤ 16777216) (R : RowOK n m p row) (h : Inv (atE T F) n m p row 1048576 B 1099511627776 s ord D)
    (hf : inner (atE T F) m 1099511627776 row f s = some t)
    (hs : SRK E K ⟨FPR T n m p s.here, OIR s.u s.v row s.L s.W s.used⟩ a w)
    (hQ : ∀ K' ord' D' a' w', Inv (atE T F) n m p row 1048576 B 1099511627776 t ord' D' → row.getD t.here 0 = 0 → SRK E K' ⟨FPR T n m p t.here, OIR t.u t.v row t.L t.W t.used⟩ a' w' → Q .normal a' w') : (inL34 (body Try.f34)).wp Try.prog Q a w := by
  change (Code.block _ _).wp _ _ _ _
  refine wp_block (wp_loop_ghost (fun q a w => ∃ K s ord D, Inv (atE T F) n m p row 1048576 B 1099511627776 s ord D ∧ inner (atE T F) m 1099511627776 row q s = some t ∧ SRK E K ⟨FPR T n m p s.here, OIR s.u s.v row s.L s.W s.used⟩ a w) f ⟨K, s, ord, D, h, hf, hs⟩ ?_)
  clear h hf hs
  rintro q a w ⟨K, s, ord, D, h, hf, hs⟩
  obtain ⟨hh1, hh2⟩ := h.hhere
  have lr := R.lr
  have rR := row_at (l := upN row) (i := s.here) (by rw [upN_len]; omega)
  rw [upN_at] at rR
  change (Code.seq _ _).wp _ _ _ _
  cases q with
  | zero => cases hf
  | succ q =>
    unfold inner at hf
    by_cases hr : row.getD s.here 0 = 0
    · rw [if_pos hr] at hf
      injection hf with hf
      subst hf
      refine wp_seq (W34 hN hs (Q := fun e c' => e = .exit 4 ∧ c' = _) rfl ⟨⟨by omega, by omega⟩, _, rR, fun h => ?_, fun _ => ⟨rfl, rfl⟩⟩ ?_)
      · rw [hr] at h; cases h
      rintro e c1 K1 a1 w1 ⟨rfl, rfl⟩ hs1
      exact hQ K1 ord D a1 w1 h hr (SRK.only hs1 [0, 5, 6, 7, 8, 9, 10, 11, 12, 13, 14] [608, 656, 704, 752, 928, 976])
    · rw [if_neg hr] at hf
      have hne : (((row.getD s.here 0 : Nat) : Int) != 0) = true := by simp; exact_mod_cast hr
      refine wp_seq (W34 hN hs (Q := fun e c' => e = .normal ∧ c' = _) rfl ⟨⟨by omega, by omega⟩, _, rR, fun _ => ⟨rfl, rfl⟩, fun h => ?_⟩ ?_)
      · rw [show _ = true from hne] at h; cases h
      rintro e c1 K1 a1 w1 ⟨rfl, rfl⟩ hs1
      have hs2 : SRK E K1 ⟨FPR T n m p s.here, OIR s.u s.v row s.L s.W s.used⟩ a1 w1 := SRK.only hs1 [0, 5, 6, 7, 8, 9, 10, 11, 12, 13, 14] [608, 656, 704, 752, 928, 976]
      obtain ⟨D', h'⟩ := step_inv tb.at hB.1 (by omega) R h hr
      change (Code.block _ _).wp _ _ _ _
      refine wp_block (in_stepR hN tb hfr hB R h hr hs2 ?_)
      intro K2 a2 w2 hs3
      exact ⟨q, by omega, K2, _, _, D', h', hf, hs3⟩
end Go.Abs.L38
namespace Go.Abs.L38
open Go Go.Abs Go.Proofs Go.Abs.Hung
set_option linter.unusedVariables false
set_option maxRecDepth 20000
def aug34 (c : Code) : Code := match ph34 c with
  | .seq _ (.seq _ (.seq _ (.seq _ (.seq _ c)))) => c
  | c => c
def fill34 (c : Code) : Code := match ph34 c with
  | .seq _ (.seq _ (.seq _ (.seq c _))) => c
  | c => c
theorem ev_augR {T : List (List Int)} {F u v : List Int} {row rowF : List Nat} {L : List Int} {W : List Nat} {used : List Bool} {n m p h f : Nat} {ord : List Nat} (hm : m ≤ 1000) (H : Aug (atE T F) n m p u v row W h ord) (hf : aug f row W h = some rowF) :
    ev Try.prog tt 229 ks34 (aug34 (body Try.f34)) ⟨FPR T n m p h, OIR u v row L W used⟩ fun e c => e = .normal ∧ ∃ fr, c = ⟨FPR T n m p 0 ++ fr, OIR u v rowF L W used⟩ := by
  refine ⟨fun q c => ∃ (row' : List Nat) (h : Nat) (ord : List Nat), Aug (atE T F) n m p u v row' W h ord ∧ aug q row' W h = some rowF ∧ c = ⟨FPR T n m p h, OIR u v row' L W used⟩, ⟨f, _, Wk.keep [0, 5, 6, 7, 8, 9, 10, 11, 12, 13, 14] [608, 656, 704, 752, 928, 976], row, h, ord, H, hf, rfl⟩, ?_⟩
  clear H hf
  rintro q c ⟨row, h, ord, H, hf, rfl⟩
  obtain ⟨hh1, hh2⟩ := H.hh
  have lr := H.lr
  have lW := H.lW
  cases q with
  | zero => cases hf
  | succ q =>
    unfold aug at hf
    refine ⟨fun h0 => ?_, fun h0 => ?_⟩
    · have h0 : h ≠ 0 := by
        rintro rfl; cases h0
      rw [if_neg h0] at hf
      obtain ⟨hw, _⟩ := H.head (by omega)
      have hwm := (H.ordM _ hw).1
      obtain ⟨r, _, H'⟩ := aug_step H h0
      have rW := row_at (l := upN W) (i := h) (by rw [upN_len]; omega)
      rw [upN_at] at rW
      have rR := row_at (l := upN row) (i := W.getD h 0) (by rw [upN_len]; omega)
      rw [upN_at] at rR
      have rH := row_at (l := upN row) (i := h) (by rw [upN_len]; omega)
      have e' : ((upN row).map enc).set ((h : Nat) : Int).toNat [I ((row.getD (W.getD h 0) 0 : Nat) : Int)] = (upN (row.set h (row.getD (W.getD h 0) 0))).map enc := by rw [row_set, upN_set]
      refine ⟨⟨by omega, by omega⟩, _, rW, ⟨by omega, by omega⟩, _, rR, ⟨by omega, by omega⟩, _, rH, ⟨by omega, by omega⟩, _, rW, ?_⟩
      refine ⟨_, _, Wk.keep [0, 5, 6, 7, 8, 9, 10, 11, 12, 13, 14] [608, 656, 704, 752, 928, 976], by omega, _, _, _, H', hf, ?_⟩
      show _ = Cfg.mk _ [(608, _), (656, _), (704, (⟨3, 1, .pure, (upN (row.set h (row.getD (W.getD h 0) 0))).map enc⟩ : OBlk)), (752, _), (928, _), (976, _)]
      rw [← e']; rfl
    · have h0 : h = 0 := by
        have h0 : (((h : Nat) : Int) != 0) = false := h0
        simp at h0; omega
      subst h0
      rw [if_pos rfl] at hf
      injection hf with hf
      subst hf
      exact ⟨rfl, _, rfl⟩
theorem ev_fillR {T : List (List Int)} {u v : List Int} {row W : List Nat} {m n p : Nat} (hm : m ≤ 1000) :
    ev Try.prog tt 229 ks34 (fill34 (body Try.f34)) ⟨FPR T n m p 0, OIR u v row (List.replicate (m + 1) 0) W (List.replicate (m + 1) false)⟩ fun e c => e = .normal ∧ ∃ fr, c = ⟨FPR T n m p 0 ++ fr, OIR u v row (List.replicate (m + 1) 1099511627776) W (List.replicate (m + 1) false)⟩ := by
  have e0 : (List.replicate (m + 1) (0 : Int)).map enc = List.replicate 0 [I 1099511627776] ++ List.replicate (m + 1 - 0) [I 0] := by rw [List.map_replicate]; rfl
  refine ⟨fun q c => ∃ k : Nat, k ≤ m + 1 ∧ q = m + 1 - k ∧ c = ⟨FPR T n m p 0 ++ [(63, I ((m + 1 : Nat) : Int)), (64, I k)], [(608, ⟨3, 1, .pure, u.map enc⟩), (656, ⟨3, 1, .pure, v.map enc⟩), (704, ⟨3, 1, .pure, (upN row).map enc⟩), (752, ⟨3, 1, .pure, (upN W).map enc⟩), (928, ⟨3, 1, .pure, List.replicate k [I 1099511627776] ++ List.replicate (m + 1 - k) [I 0]⟩), (976, ⟨4, 1, .pure, (List.replicate (m + 1) false).map encB⟩)]⟩, ⟨_, _, Wk.keep [0, 5, 6, 7, 8, 9, 10, 11, 12, 13, 14, 63, 64] [608, 656, 704, 752, 928, 976], 0, by omega, rfl, ?_⟩, ?_⟩
  · rw [← e0]; rfl
  rintro q c ⟨k, hk, rfl, rfl⟩
  refine ⟨fun h => ?_, fun h => ?_⟩
  · have hkm : k ≤ m := by simp at h; omega
    have rr : (List.replicate k [I 1099511627776] ++ List.replicate (m + 1 - k) [I 0])[((k : Nat) : Int).toNat]? = some [I 0] := by
      rw [Int.toNat_natCast, List.getElem?_append_right (by simp), List.length_replicate, Nat.sub_self, List.getElem?_replicate, if_pos (by omega)]
    refine ⟨⟨by omega, by omega⟩, _, rr, ((k + 1 : Nat) : Int), wrapTo (by omega) (by omega) (by omega), ?_⟩
    refine ⟨_, _, Wk.keep [0, 5, 6, 7, 8, 9, 10, 11, 12, 13, 14, 63, 64] [608, 656, 704, 752, 928, 976], by omega, k + 1, by omega, rfl, ?_⟩
    rw [← fill_rows 1099511627776 (m + 1) k (by omega)]; rfl
  · have hk : k = m + 1 := by simp at h; omega
    subst hk
    have e1 : List.replicate (m + 1) [I 1099511627776] ++ List.replicate (m + 1 - (m + 1)) [I 0] = (List.replicate (m + 1) (1099511627776 : Int)).map enc := by
      rw [Nat.sub_self, List.map_replicate]; simp [enc]
    rw [e1]
    exact ⟨rfl, _, rfl⟩
theorem wp_phaseR {E : Env} (hN : E.N = 229) {T : List (List Int)} {F : List Int} {n m p : Nat} {s t : Ph} {K : KM} {a : Act} {w : World} {Q : Exit → Act → World → Prop} (tb : Tb T F n m) (hfr : ∀ i, i < n → F.getD i 0 < 0) (hnm : n ≤ m) (hp : p < n) (h : Mt (atE T F) n m p 1048576 s) (hf : phase (atE T F) m 1099511627776 s.W (p + 1) s = some t)
    (hs : SRK E K ⟨FBR T n m (p + 1), OBR s.u s.v s.row s.W⟩ a w)
    (hQ : ∀ K' a' w', SRK E K' ⟨FBR T n m (p + 1), OBR t.u t.v t.row t.W⟩ a' w' → Q .normal a' w') : (ph34 (body Try.f34)).wp Try.prog Q a w := by
  have hn := tb.h1
  have hm := tb.h2
  have lr := h.lr
  have rR := row_at (l := upN s.row) (i := 0) (by rw [upN_len]; omega)
  have e0 : ((upN s.row).map enc).set (((0 : Nat) : Int)).toNat [I ((p + 1 : Nat) : Int)] = (upN (s.row.set 0 (p + 1))).map enc := by rw [row_set, upN_set]
  change (Code.seq _ _).wp _ _ _ _
  refine wp_seq (W34 hN hs (Q := fun e c' => e = .normal ∧ c' = _) rfl ⟨⟨by omega, by omega⟩, _, rR, rfl, rfl⟩ ?_)
  rintro e c1 K1 a1 w1 ⟨rfl, rfl⟩ hs1
  have hs2 : SRK E K1 ⟨FBR T n m (p + 1), OBR s.u s.v (s.row.set 0 (p + 1)) s.W⟩ a1 w1 := by
    show SRK E K1 (Cfg.mk _ [(608, _), (656, _), (704, (⟨3, 1, .pure, (upN (s.row.set 0 (p + 1))).map enc⟩ : OBlk)), (752, _)]) a1 w1
    rw [← e0]; exact hs1
  change (Code.seq _ _).wp _ _ _ _
  refine wp_seq (W34 hN hs2 (Q := fun e c' => e = .normal ∧ c' = _) rfl ⟨rfl, rfl⟩ ?_)
  rintro e c1 K2 a2 w2 ⟨rfl, rfl⟩ hs3
  have mk : ∀ z : Int, z = ((m + 1 : Nat) : Int) → (z = z ∧ 0 ≤ z ∧ (8 : Int) * z ≤ 140737488355328 ∧ z ≤ 9223372036854775807) := by
    rintro z rfl; omega
  change (Code.seq _ _).wp _ _ _ _
  refine wp_seq (W34 hN hs3 (Q := fun e c' => e = .normal ∧ c' = _) rfl ⟨((m + 1 : Nat) : Int), wrapTo (by omega) (by omega) (by omega), mk _ rfl, ((m + 1 : Nat) : Int), wrapTo (by omega) (by omega) (by omega), ⟨rfl, by omega, by show (1 : Int) * _ ≤ _; omega, by omega⟩, rfl, rfl⟩ ?_)
  rintro e c1 K4 a4 w4 ⟨rfl, rfl⟩ hs5
  have hs6 : SRK E K4 ⟨FPR T n m (p + 1) 0, OIR s.u s.v (s.row.set 0 (p + 1)) (List.replicate (m + 1) 0) s.W (List.replicate (m + 1) false)⟩ a4 w4 := by
    have := SRK.only hs5 [0, 5, 6, 7, 8, 9, 10, 11, 12, 13, 14] [608, 656, 704, 752, 928, 976]
    have r1 : List.replicate (m + 1) [I 0] = (List.replicate (m + 1) (0 : Int)).map enc := by rw [List.map_replicate]; rfl
    have r3 : List.replicate (m + 1) [.bool false] = (List.replicate (m + 1) false).map encB := by rw [List.map_replicate]; rfl
    show SRK E K4 (Cfg.mk _ [(608, _), (656, _), (704, _), (752, _), (928, (⟨3, 1, .pure, (List.replicate (m + 1) (0 : Int)).map enc⟩ : OBlk)), (976, (⟨4, 1, .pure, (List.replicate (m + 1) false).map encB⟩ : OBlk))]) a4 w4
    rw [← r1, ← r3]
    exact this
  clear hs hs1 hs2 hs3 hs5
  change (Code.seq _ _).wp _ _ _ _
  refine wp_seq (W34 hN hs6 rfl (ev_fillR (by omega)) ?_)
  rintro e c1 K5 a5 w5 ⟨rfl, fr, rfl⟩ hs7
  have hs8 : SRK E K5 ⟨FPR T n m (p + 1) 0, OIR s.u s.v (s.row.set 0 (p + 1)) (List.replicate (m + 1) 1099511627776) s.W (List.replicate (m + 1) false)⟩ a5 w5 := SRK.only hs7 [0, 5, 6, 7, 8, 9, 10, 11, 12, 13, 14] [608, 656, 704, 752, 928, 976]
  have hpA : 0 ≤ (p : Int) * 1048576 ∧ (p : Int) * 1048576 ≤ 16777216 := by omega
  obtain ⟨R, hs0⟩ := h.start (INF := 1099511627776) (W0 := s.W) (by omega) (by omega) hp hnm ⟨h.lW, h.hW⟩
  unfold phase at hf
  cases hin : inner (atE T F) m 1099511627776 (s.row.set 0 (p + 1)) (m + 2) ⟨s.u, s.v, List.replicate (m + 1) 1099511627776, s.W, List.replicate (m + 1) false, 0⟩ with
  | none => rw [hin] at hf; cases hf
  | some t1 =>
    rw [hin] at hf
    simp only at hf
    change (Code.seq _ _).wp _ _ _ _
    refine wp_seq (in_loopR hN tb hfr hpA R hs0 hin hs8 ?_)
    intro K6 ord D a6 w6 ht hr hs9
    obtain ⟨H, h0⟩ := ht.toAug R hr
    cases hau : aug (m + 2) (s.row.set 0 (p + 1)) t1.W t1.here with
    | none => rw [hau] at hf; cases hf
    | some rowF =>
      rw [hau] at hf
      injection hf with hf
      subst hf
      refine W34 hN hs9 rfl (ev_augR (by omega) H hau) ?_
      rintro e c1 K7 a7 w7 ⟨rfl, fr, rfl⟩ hs10
      exact hQ K7 a7 w7 (SRK.only hs10 [0, 5, 6, 7, 8, 9, 10, 11] [608, 656, 704, 752])
end Go.Abs.L38
namespace Go.Abs.L38
open Go Go.Abs Go.Proofs Go.Abs.Hung
set_option linter.unusedVariables false
set_option maxRecDepth 20000
def finN (T : List (List Int)) (row : List Nat) : Nat → Nat → List Int → Int → Option (List Int × Int)
  | 0, _, C, s => some (C, s)
  | q + 1, k, C, s => if row.getD k 0 = 0 then finN T row q (k + 1) C s else if (T.getD (row.getD k 0 - 1) []).getD (k - 1) 0 < 0 then none else finN T row q (k + 1) (C.set (row.getD k 0 - 1) ((k - 1 : Nat) : Int)) (s + (T.getD (row.getD k 0 - 1) []).getD (k - 1) 0)
def resN : Option (List Int × Int) → AV
  | none => .tup [.nilsl, I 0, .bool false]
  | some Y => .tup [fA Y.1, I Y.2, .bool true]
def tail34 : Code → Code
  | .seq _ (.seq _ (.seq _ (.seq _ (.seq _ (.seq _ c))))) => c
  | c => c
set_option maxHeartbeats 4000000 in
theorem ev_finR {T : List (List Int)} {F u v : List Int} {row W : List Nat} {n m p : Nat} {R : Option (List Int × Int)} (tb : Tb T F n m) (lr : row.length = m + 1) (hrow : ∀ k, 1 ≤ k → row.getD k 0 ≤ n) (hR : finN T row m 1 (List.replicate n 0) 0 = R) :
    ev Try.prog tt 229 ks34 (tail34 (body Try.f34)) ⟨FBR T n m p, OBR u v row W⟩ (retQ tt [.tmp 2, .tmp 3, .tmp 4] (resN R)) := by
  have hn := tb.h1
  have hm := tb.h2
  have rc : List.replicate n [I 0] = (List.replicate n (0 : Int)).map enc := by rw [List.map_replicate]; rfl
  refine ⟨⟨rfl, by omega, by show (8 : Int) * _ ≤ _; omega, by omega⟩, ?_⟩
  refine ⟨fun q c => ∃ (k : Nat) (C : List Int) (s : Int), 1 ≤ k ∧ k ≤ m + 1 ∧ q = m + 1 - k ∧ C.length = n ∧ 0 ≤ s ∧ s ≤ 1000 * (k : Int) ∧ finN T row (m + 1 - k) k C s = R ∧ c = ⟨[(0, AA T), (6, I m), (9, .osl 704 1 (m + 1)), (23, .osl 3040 1 n), (24, I s), (25, I k)], [(704, ⟨3, 1, .pure, (upN row).map enc⟩), (3040, ⟨3, 1, .pure, C.map enc⟩)]⟩, ⟨_, _, Wk.keep [0, 6, 9, 23, 24, 25] [704, 3040], 1, List.replicate n 0, 0, by omega, by omega, rfl, by simp, by omega, by omega, by rw [show m + 1 - 1 = m by omega]; exact hR, ?_⟩, ?_⟩
  · rw [← rc]; rfl
  rintro q c ⟨k, C, s, hk1, hk2, rfl, lC, hs0, hs1, hS, rfl⟩
  refine ⟨fun h => ?_, fun h => ?_⟩
  · have hkm : k ≤ m := by simp at h; omega
    clear h
    rw [show m + 1 - k = (m - k) + 1 by omega, finN] at hS
    have rR := row_at (l := upN row) (i := k) (by rw [upN_len]; omega)
    rw [upN_at] at rR
    refine ⟨⟨by omega, by omega⟩, _, rR, fun hz => ?_, fun hz => ?_⟩
    · have hz : row.getD k 0 ≠ 0 := by
        intro e
        rw [e] at hz; cases hz
      rw [if_neg hz] at hS
      have hrk := hrow k hk1
      have hlen : (T.getD (row.getD k 0 - 1) []).length = m := by
        have h1 : row.getD k 0 - 1 < T.length := by rw [tb.hn]; omega
        rw [List.getD_eq_getElem?_getD, List.getElem?_eq_getElem h1]
        exact tb.hT _ (List.getElem_mem h1)
      have rC := row_at (l := C) (i := row.getD k 0 - 1) (by omega)
      have rT : (T.map encT)[((row.getD k 0 - 1 : Nat) : Int).toNat]? = some (encT (T.getD (row.getD k 0 - 1) [])) := rowT_at (by rw [tb.hn]; omega)
      have rX := row_at (l := T.getD (row.getD k 0 - 1) []) (i := k - 1) (by omega)
      have hle := tab_le tb (row.getD k 0 - 1) (k - 1)
      have htn := tb.hn
      have eC : (C.map enc).set ((row.getD k 0 - 1 : Nat) : Int).toNat [I ((k - 1 : Nat) : Int)] = (C.set (row.getD k 0 - 1) ((k - 1 : Nat) : Int)).map enc := row_set
      refine ⟨⟨by omega, by omega⟩, _, rR, ((row.getD k 0 - 1 : Nat) : Int), wrapTo (by omega) (by omega) (by omega), ((k - 1 : Nat) : Int), wrapTo (by omega) (by omega) (by omega), ⟨by omega, by omega⟩, _, rC, ?_⟩
      refine ⟨⟨by omega, by omega⟩, _, rR, ((row.getD k 0 - 1 : Nat) : Int), wrapTo (by omega) (by omega) (by omega), ⟨by omega, by omega⟩, _, rT, ((k - 1 : Nat) : Int), wrapTo (by omega) (by omega) (by omega), ⟨by omega, by omega⟩, _, rX, fun hc => ?_, fun hc => ?_⟩
      · have hc := of_decide_eq_true hc
        rw [if_pos hc] at hS
        subst hS
        exact ⟨_, _, rfl, .inl rfl, rfl, rfl, rfl, rfl, trivial⟩
      · have hc := of_decide_eq_false hc
        rw [if_neg hc] at hS
        refine ⟨_, wrap64 (by omega) (by omega), ((k + 1 : Nat) : Int), wrapTo (by omega) (by omega) (by omega), ?_⟩
        refine ⟨_, _, Wk.keep [0, 6, 9, 23, 24, 25] [704, 3040], by omega, k + 1, C.set (row.getD k 0 - 1) ((k - 1 : Nat) : Int), s + (T.getD (row.getD k 0 - 1) []).getD (k - 1) 0, by omega, by omega, rfl, by rw [List.length_set]; exact lC, by omega, by omega, by rw [show m + 1 - (k + 1) = m - k by omega]; exact hS, ?_⟩
        show _ = Cfg.mk _ [(704, _), (3040, (⟨3, 1, .pure, (C.set (row.getD k 0 - 1) ((k - 1 : Nat) : Int)).map enc⟩ : OBlk))]
        rw [← eC]; rfl
    · have hz : row.getD k 0 = 0 := by
        have hz := of_decide_eq_false hz
        omega
      rw [if_pos hz] at hS
      refine ⟨((k + 1 : Nat) : Int), wrapTo (by omega) (by omega) (by omega), ?_⟩
      exact ⟨_, _, Wk.keep [0, 6, 9, 23, 24, 25] [704, 3040], by omega, k + 1, C, s, by omega, by omega, rfl, lC, hs0, by omega, by rw [show m + 1 - (k + 1) = m - k by omega]; exact hS, rfl⟩
  · have hk : k = m + 1 := by simp at h; omega
    subst hk
    rw [Nat.sub_self, finN] at hS
    subst hS
    exact ⟨_, _, rfl, ⟨_, rfl, rfl, by simp [lC], .inl ⟨rfl, by show AV.fsl true 3 1 C.length _ = AV.fsl true 3 1 n _; rw [lC]⟩⟩, rfl, rfl, rfl, rfl, trivial⟩
/-! ### what least finds -/
theorem finN_none {T : List (List Int)} {F : List Int} {n m : Nat} (tb : Tb T F n m) {row : List Nat} : ∀ (q k : Nat) (C : List Int) (s : Int), finN T row q k C s = none → 0 ≤ s → 1048576 ≤ (finE (atE T F) row q k C s).2
  | 0, k, C, s, h, hs => by cases h
  | q + 1, k, C, s, h, hs => by
    rw [finN] at h
    rw [finE]
    by_cases h0 : row.getD k 0 = 0
    · rw [if_pos h0] at h ⊢
      exact finN_none tb q (k + 1) C s h hs
    · rw [if_neg h0] at h ⊢
      have hat := tb.at (row.getD k 0 - 1) (k - 1)
      by_cases hc : (T.getD (row.getD k 0 - 1) []).getD (k - 1) 0 < 0
      · have e : atE T F (row.getD k 0 - 1) (k - 1) = 1048576 := by rw [atE, if_neg (fun h => absurd h.1 (by omega))]
        rw [e]
        have mono : ∀ (q k : Nat) (C : List Int) (s : Int), s ≤ (finE (atE T F) row q k C s).2 := by
          intro q
          induction q with
          | zero => intro k C s; exact Int.le_refl _
          | succ q ih =>
            intro k C s
            rw [finE]
            split
            · exact ih _ _ _
            · have := ih (k + 1) (C.set (row.getD k 0 - 1) ((k - 1 : Nat) : Int)) (s + atE T F (row.getD k 0 - 1) (k - 1))
              have := tb.at (row.getD k 0 - 1) (k - 1)
              omega
        have := mono q (k + 1) (C.set (row.getD k 0 - 1) ((k - 1 : Nat) : Int)) (s + 1048576)
        omega
      · rw [if_neg hc] at h
        have hle := tb.at (row.getD k 0 - 1) (k - 1)
        by_cases hf : F.getD (row.getD k 0 - 1) 0 < 0 ∨ F.getD (row.getD k 0 - 1) 0 = ((k - 1 : Nat) : Int)
        · have e : atE T F (row.getD k 0 - 1) (k - 1) = (T.getD (row.getD k 0 - 1) []).getD (k - 1) 0 := by rw [atE, if_pos ⟨by omega, hf⟩]
          rw [e]
          exact finN_none tb q (k + 1) _ _ h (by omega)
        · have e : atE T F (row.getD k 0 - 1) (k - 1) = 1048576 := by rw [atE, if_neg (fun h => hf h.2)]
          rw [e]
          have mono : ∀ (q k : Nat) (C : List Int) (s : Int), s ≤ (finE (atE T F) row q k C s).2 := by
            intro q
            induction q with
            | zero => intro k C s; exact Int.le_refl _
            | succ q ih =>
              intro k C s
              rw [finE]
              split
              · exact ih _ _ _
              · have := ih (k + 1) (C.set (row.getD k 0 - 1) ((k - 1 : Nat) : Int)) (s + atE T F (row.getD k 0 - 1) (k - 1))
                have := tb.at (row.getD k 0 - 1) (k - 1)
                omega
          have := mono q (k + 1) (C.set (row.getD k 0 - 1) ((k - 1 : Nat) : Int)) (s + 1048576)
          omega
theorem finN_some {T : List (List Int)} {F : List Int} {n m : Nat} (tb : Tb T F n m) (hfr : ∀ i, i < n → F.getD i 0 < 0) {row : List Nat} (hrow : ∀ k, 1 ≤ k → row.getD k 0 ≤ n) {Y : List Int × Int} : ∀ (q k : Nat) (C : List Int) (s : Int), 1 ≤ k → finN T row q k C s = some Y → finE (atE T F) row q k C s = Y ∧ Y.2 ≤ s + 1000 * q
  | 0, k, C, s, hk, h => by
    injection h with h; subst h
    exact ⟨rfl, by simp⟩
  | q + 1, k, C, s, hk, h => by
    rw [finN] at h
    rw [finE]
    by_cases h0 : row.getD k 0 = 0
    · rw [if_pos h0] at h ⊢
      obtain ⟨h1, h2⟩ := finN_some tb hfr hrow q (k + 1) C s (by omega) h
      exact ⟨h1, by omega⟩
    · rw [if_neg h0] at h ⊢
      by_cases hc : (T.getD (row.getD k 0 - 1) []).getD (k - 1) 0 < 0
      · rw [if_pos hc] at h; cases h
      · rw [if_neg hc] at h
        have := hrow k hk
        have e : atE T F (row.getD k 0 - 1) (k - 1) = (T.getD (row.getD k 0 - 1) []).getD (k - 1) 0 := by rw [atE, if_pos ⟨by omega, .inl (hfr _ (by omega))⟩]
        have hle := tab_le tb (row.getD k 0 - 1) (k - 1)
        rw [e]
        obtain ⟨h1, h2⟩ := finN_some tb hfr hrow q (k + 1) _ _ (by omega) h
        exact ⟨h1, by omega⟩
end Go.Abs.L38
namespace Go.Abs.L38
open Go Go.Abs Go.Proofs Go.Abs.Hung
set_option linter.unusedVariables false
set_option maxRecDepth 20000
theorem mt_same {a : Nat → Nat → Int} {n m : Nat} {A : Int} {S S' : Ph} (h : Mt a n m n A S) (h' : Mt a n m n A S') : costM a m S.row = costM a m S'.row := by
  obtain ⟨g, hg, _, _, e, _⟩ := h.asg
  obtain ⟨g', hg', _, _, e', _⟩ := h'.asg
  have h1 := h.least hg'
  have h2 := h'.least hg
  omega
theorem top_res {f : FuncId} {us : List AV} {x : AV} {xs : List AV} (h : Fn Try.prog f us (.tup (x :: xs))) : Fn Try.prog f us (.tup (.top :: xs)) :=
  fn_res h fun w B X v _ => VR.top
def leaC (T : List (List Int)) (n m : Nat) : Int := if okP T (freeL T) n m = true then (finP T (freeL T) n m).2 else 0
theorem c34w {T : List (List Int)} {n m : Nat} (tb : Tb T (freeL T) n m) (hnm : n ≤ m) {S : Ph} (hS : phases (atE T (freeL T)) m 1099511627776 true n 0 (Hung.start n m) = some S) (hMt : Mt (atE T (freeL T)) n m n 1048576 S) :
    Fn Try.prog 34 [AA T] (resN (finN T S.row m 1 (List.replicate n 0) 0)) := by
  have hn := tb.h1
  have hm := tb.h2
  have htn := tb.hn
  have hfr : ∀ i, i < n → (freeL T).getD i 0 < 0 := by
    intro i hi
    rw [List.getD_eq_getElem?_getD, List.getElem?_replicate, if_pos (by omega)]; decide
  obtain ⟨t0, h0, hl⟩ := tb.row0
  refine fn_ofW (N := 229) [.tmp 2, .tmp 3, .tmp 4] tabOK Try.func34 rfl (by kernel_rfl) rfl rfl rfl ?_
  intro E K a w hN hp hs
  change (Code.seq _ _).wp _ _ _ _
  refine wp_seq (W34 hN hs (Q := fun e c' => e = .normal ∧ c' = _) rfl ⟨rfl, rfl⟩ ?_)
  rintro e c1 K1 a1 w1 ⟨rfl, rfl⟩ hs1
  change (Code.seq _ _).wp _ _ _ _
  refine wp_seq (W34 hN hs1 (Q := fun e c' => e = .normal ∧ c' = _) rfl ⟨⟨by omega, by omega⟩, encT t0, get_map (i := 0) h0, rfl, rfl⟩ ?_)
  rintro e c1 K2 a2 w2 ⟨rfl, rfl⟩ hs2
  have hs3 := SRK.only hs2 [0, 5, 6] []
  have hs4 : SRK E K2 ⟨[(0, AA T), (5, I n), (6, I m)], []⟩ a2 w2 := by
    rw [← htn, ← hl]; exact hs3
  clear hs hs1 hs2 hs3
  change (Code.seq _ _).wp _ _ _ _
  refine wp_seq (W34 hN hs4 (Q := fun e c' => e = .normal ∧ c' = _) rfl ⟨fun h => absurd (of_decide_eq_true h) (by omega), fun _ => ⟨rfl, rfl⟩⟩ ?_)
  rintro e c1 K3 a3 w3 ⟨rfl, rfl⟩ hs5
  have mk : ∀ z : Int, 0 ≤ z → z ≤ 17 → (z = z ∧ 0 ≤ z ∧ (8 : Int) * z ≤ 140737488355328 ∧ z ≤ 9223372036854775807) := by
    intro z _ _; omega
  change (Code.seq _ _).wp _ _ _ _
  refine wp_seq (W34 hN hs5 (Q := fun e c' => e = .normal ∧ c' = _) rfl ⟨((n + 1 : Nat) : Int), wrapTo (by omega) (by omega) (by omega), mk _ (by omega) (by omega), ((m + 1 : Nat) : Int), wrapTo (by omega) (by omega) (by omega), mk _ (by omega) (by omega), rfl, rfl⟩ ?_)
  rintro e c1 K5 a5 w5 ⟨rfl, rfl⟩ hs7
  change (Code.seq _ _).wp _ _ _ _
  refine wp_seq (W34 hN hs7 (Q := fun e c' => e = .normal ∧ c' = _) rfl ⟨((m + 1 : Nat) : Int), wrapTo (by omega) (by omega) (by omega), mk _ (by omega) (by omega), ((m + 1 : Nat) : Int), wrapTo (by omega) (by omega) (by omega), mk _ (by omega) (by omega), rfl, rfl⟩ ?_)
  rintro e c1 K6 a6 w6 ⟨rfl, rfl⟩ hs8
  change (Code.seq _ _).wp _ _ _ _
  refine wp_seq (wp_seq (W34 hN hs8 (Q := fun e c' => e = .normal ∧ c' = _) rfl ⟨rfl, rfl⟩ ?_))
  rintro e c1 K7 a7 w7 ⟨rfl, rfl⟩ hs9
  have hs10 : SRK E K7 ⟨FBR T n m (0 + 1), OBR (Hung.start n m).u (Hung.start n m).v (Hung.start n m).row (Hung.start n m).W⟩ a7 w7 := by
    have := SRK.only hs9 [0, 5, 6, 7, 8, 9, 10, 11] [608, 656, 704, 752]
    have r1 : ∀ q, List.replicate q [I 0] = (List.replicate q (0 : Int)).map enc := fun q => by rw [List.map_replicate]; rfl
    have r2 : List.replicate (m + 1) [I 0] = (upN (List.replicate (m + 1) 0)).map enc := by rw [upN, List.map_replicate, List.map_replicate]; rfl
    show SRK E K7 (Cfg.mk _ [(608, (⟨3, 1, .pure, (List.replicate (n + 1) (0 : Int)).map enc⟩ : OBlk)), (656, (⟨3, 1, .pure, (List.replicate (m + 1) (0 : Int)).map enc⟩ : OBlk)), (704, (⟨3, 1, .pure, (upN (List.replicate (m + 1) 0)).map enc⟩ : OBlk)), (752, (⟨3, 1, .pure, (upN (List.replicate (m + 1) 0)).map enc⟩ : OBlk))]) a7 w7
    rw [← r1, ← r1, ← r2]
    exact this
  clear hs4 hs5 hs7 hs8 hs9
  change (Code.block _ _).wp _ _ _ _
  refine wp_block (wp_loop_ghost (fun q a w => ∃ K p s, q = n - p ∧ p ≤ n ∧ Mt (atE T (freeL T)) n m p 1048576 s ∧ phases (atE T (freeL T)) m 1099511627776 true (n - p) p s = some S ∧ SRK E K ⟨FBR T n m (p + 1), OBR s.u s.v s.row s.W⟩ a w) n
    ⟨K7, 0, Hung.start n m, by omega, by omega, start_ok tb.at, hS, hs10⟩ ?_)
  clear hs10
  rintro q a w ⟨K, p, s, rfl, hpn, hM, hph, hs⟩
  change (Code.seq _ _).wp _ _ _ _
  by_cases hlt : p < n
  · refine wp_seq (W34 hN hs (Q := fun e c' => e = .normal ∧ c' = _) rfl ⟨fun _ => ⟨rfl, rfl⟩, fun h => absurd (of_decide_eq_false h) (by omega)⟩ ?_)
    rintro e c1 K1 a1 w1 ⟨rfl, rfl⟩ hs1
    have hs2 : SRK E K1 ⟨FBR T n m (p + 1), OBR s.u s.v s.row s.W⟩ a1 w1 := SRK.only hs1 [0, 5, 6, 7, 8, 9, 10, 11] [608, 656, 704, 752]
    rw [show n - p = (n - (p + 1)) + 1 by omega, phases] at hph
    simp only [if_true] at hph
    obtain ⟨t, ht, hM'⟩ := phase_ok (INF := 1099511627776) (W0 := s.W) tb.at (by omega) hM hlt hnm ⟨hM.lW, hM.hW⟩
    rw [ht] at hph
    change (Code.seq _ _).wp _ _ _ _
    refine wp_seq (wp_block (wp_phaseR hN tb hfr hnm hlt hM ht hs2 ?_))
    intro K2 a2 w2 hs3
    change (Code.region _ _ _).wp _ _ _ _
    refine W34 hN hs3 (Q := fun e c' => e = .normal ∧ c' = _) rfl ⟨((p + 1 + 1 : Nat) : Int), wrapTo (by omega) (by omega) (by omega), rfl, rfl⟩ ?_
    rintro e c1 K3 a3 w3 ⟨rfl, rfl⟩ hs4
    exact ⟨n - (p + 1), by omega, K3, p + 1, t, rfl, by omega, hM', hph, SRK.only hs4 [0, 5, 6, 7, 8, 9, 10, 11] [608, 656, 704, 752]⟩
  · have hpe : p = n := by omega
    subst hpe
    rw [Nat.sub_self, phases] at hph
    injection hph with hph
    subst hph
    refine wp_seq (W34 hN hs (Q := fun e c' => e = .exit 0 ∧ c' = _) rfl ⟨fun h => absurd (of_decide_eq_true h) (by omega), fun _ => ⟨rfl, rfl⟩⟩ ?_)
    rintro e c1 K1 a1 w1 ⟨rfl, rfl⟩ hs1
    have hs2 : SRK E K1 ⟨FBR T p m (p + 1), OBR s.u s.v s.row s.W⟩ a1 w1 := SRK.only hs1 [0, 5, 6, 7, 8, 9, 10, 11] [608, 656, 704, 752]
    refine W34 hN hs2 rfl (ev_finR tb hM.lr hM.le rfl) ?_
    intro e c1 K4 a4 w4 hq hs6
    cases e with
    | normal => exact ⟨.inl rfl, K4, c1, hs6, hq⟩
    | exit id => exact absurd hq id_false
    | ret => exact ⟨.inr rfl, K4, c1, hs6, hq⟩
where
  id_false : ¬ False := id
theorem c34n {T : List (List Int)} {F : List Int} {n m : Nat} (tb : Tb T F n m) (hnm : m < n) : Fn Try.prog 34 [AA T] (.tup [.nilsl, I 0, .bool false]) := by
  have hn := tb.h1
  have htn := tb.hn
  obtain ⟨t0, h0, hl⟩ := tb.row0
  refine mk34 rfl ⟨⟨by omega, by omega⟩, encT t0, get_map (i := 0) h0, fun _ => ?_, fun h => ?_⟩
  · exact ⟨_, _, rfl, .inl rfl, rfl, rfl, rfl, rfl, trivial⟩
  · have h := of_decide_eq_false h
    omega
theorem c34 {T : List (List Int)} {n m : Nat} (tb : Tb T (freeL T) n m) : Fn Try.prog 34 [AA T] (.tup [.top, I (leaC T n m), .bool (okP T (freeL T) n m)]) := by
  by_cases hnm : m < n
  · have e : okP T (freeL T) n m = false := by rw [okP, if_pos hnm]
    rw [leaC, e, if_neg (by simp)]
    exact top_res (c34n tb hnm)
  have hnm : n ≤ m := by omega
  have hn := tb.h1
  have hm := tb.h2
  have htn := tb.hn
  have hfr : ∀ i, i < n → (freeL T).getD i 0 < 0 := by
    intro i hi
    rw [List.getD_eq_getElem?_getD, List.getElem?_replicate, if_pos (by omega)]; decide
  obtain ⟨S, e1, e2⟩ := phases_ok (INF := 1099511627776) (keep := true) tb.at (by omega) hnm n 0 (Hung.start n m) (Hung.start_ok tb.at) (by omega)
  have k := c34w tb hnm e1 e2
  have hc : (finE (atE T (freeL T)) S.row m 1 (List.replicate n 0) 0).2 = (finP T (freeL T) n m).2 := by
    rw [fin_cost tb hnm, ← mt_same e2 (phE_ok tb hnm).2, finE_cost, Int.zero_add, ← List.range_eq_range']; rfl
  cases hr : finN T S.row m 1 (List.replicate n 0) 0 with
  | none =>
    rw [hr] at k
    have h1 := finN_none tb m 1 _ _ hr (Int.le_refl _)
    have e : okP T (freeL T) n m = false := by
      rw [okP, if_neg (by omega), ← hc]; simp; omega
    rw [leaC, e, if_neg (by simp)]
    exact top_res k
  | some Y =>
    rw [hr] at k
    obtain ⟨h1, h2⟩ := finN_some tb hfr e2.le m 1 _ _ (Nat.le_refl _) hr
    have e : okP T (freeL T) n m = true := by
      rw [okP, if_neg (by omega), ← hc, h1]; simp; omega
    rw [leaC, e, if_pos rfl, ← hc, h1]
    exact top_res k
end Go.Abs.L38
