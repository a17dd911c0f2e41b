import Derived.Test.YtjpcpnakcapojaaC2
namespace Go.Abs
open Go.RowKit
set_option linter.unusedVariables false
/-- a block of one's own whose slice lies in a variable is written no more -/
theorem SRK.freezeVar {E : Env} {K : KM} {a : Act} {w : World} {fr : List (Nat × AV)} {O : List (Nat × OBlk)} {bv b ev sv i e sz n : Nat} {rows : List (List AV)} {row : List AV} (hs : SRK E K ⟨fr, O⟩ a w) (hbv : olk O bv = some ⟨ev, sv, .any, [row]⟩) (hb : olk O b = some ⟨e, sz, .pure, rows⟩) (hi : row[i]? = some (.osl b sz n)) :
    SRK E K ⟨fr, setO bv ⟨ev, sv, .any, [row.set i (.rsl sz n (rows.take n))]⟩ (delO b O)⟩ a w := by
  have hne : b ≠ bv := by
    rintro rfl
    rw [hb] at hbv; cases hbv
  have h1 := hs.del b
  have hbv' : olk (delO b O) bv = some ⟨ev, sv, .any, [row]⟩ := by rw [olk_delO, if_neg hne]; exact hbv
  refine h1.recast (c := ⟨fr, delO b O⟩) hbv' (by simp) (by simp) (fun r hr => ?_) (fun g _ hB => ?_)
  · have := hs.rows bv _ hbv row (by simp)
    simp at hr; subst hr
    rw [List.length_set]; exact this
  · obtain ⟨cur, hc, hu⟩ := hB
    refine ⟨cur, hc, fun j u hj => ?_⟩
    have hf : ∀ r : List AV, ([r] : List (List AV)).flatten = r := fun r => by simp
    simp only [hf] at hj hu
    rw [List.getElem?_set] at hj
    by_cases e1 : i = j
    · subst e1
      rw [if_pos rfl] at hj
      have hil := (List.getElem?_eq_some_iff.1 hi).1
      rw [if_pos hil] at hj
      injection hj with hj
      subst hj
      obtain ⟨x, hx, h3, h4⟩ := hu i _ hi
      refine ⟨x, hx, h3, ?_⟩
      have hv : VR w (XX E K (Cfg.O ⟨fr, O⟩)) K (.osl b sz n) x := by
        rcases VR.osl_inv h4 with ⟨q1, rfl, rfl⟩ | ⟨g', cap, cur', e', mm, hK, hnm, rfl, hc', hnc, hmx, hcur⟩
        · exact .oslnil q1
        · exact .osl hK hnm hc' hnc hmx hcur
      exact (hs.freeze (blk := ⟨e, sz, .pure, rows⟩) hb rfl hv).any K
    · rw [if_neg e1] at hj
      exact hu j u hj
end Go.Abs
namespace Go.Abs.L38
open Go Go.Abs Go.Proofs Go.Abs.Hung
set_option linter.unusedVariables false
set_option maxRecDepth 20000
def finE (a : Nat → Nat → Int) (row : List Nat) : Nat → Nat → List Int → Int → List Int × Int
  | 0, _, C, s => (C, s)
  | q + 1, k, C, s => if row.getD k 0 = 0 then finE a row q (k + 1) C s else finE a row q (k + 1) (C.set (row.getD k 0 - 1) ((k - 1 : Nat) : Int)) (s + a (row.getD k 0 - 1) (k - 1))
def loop12 : Code → Code
  | .seq _ (.seq _ (.seq _ (.seq _ (.seq _ (.seq _ (.seq _ (.seq _ (.seq c _)))))))) => c
  | c => c
abbrev OC (T : List (List Int)) (F row : List Int) (C u1 v1 : List Int) (s : Int) : List (Nat × OBlk) := [(32, ⟨22, 1, .any, [[AA T]]⟩), (48, ⟨25, 1, .any, [[A F]]⟩), (64, ⟨47, 4, .any, [plan0]⟩), (720, ⟨3, 1, .pure, row.map enc⟩), (2976, ⟨3, 1, .pure, C.map enc⟩), (384, ⟨47, 4, .any, [[.osl 2976 1 C.length, A u1, A v1, I s]]⟩)]
abbrev FC (n m : Nat) : List (Nat × AV) := [(4, .ovar 64 0), (7, I m), (8, fn48), (11, .osl 720 1 (m + 1)), (24, .ovar 384 0)]
set_option maxHeartbeats 4000000 in
theorem ev_fin {T : List (List Int)} {F : List Int} {row : List Nat} {C u1 v1 : List Int} {n m : Nat} {Y : List Int × Int} (tb : Tb T F n m) (lC : C.length = n) (lr : row.length = m + 1) (hrow : ∀ k, 1 ≤ k → row.getD k 0 ≤ n) (hY : finE (atE T F) row m 1 C 0 = Y) :
    ev Try.prog tt 230 ks30 (loop12 (body Try.f30)) ⟨FC n m, OC T F (upN row) C u1 v1 0⟩ fun e c => e = .normal ∧ Y.1.length = n ∧ ∃ fr, c = ⟨FC n m ++ fr, OC T F (upN row) Y.1 u1 v1 Y.2⟩ := by
  have hn := tb.h1
  have hm := tb.h2
  refine ⟨fun q c => ∃ (k : Nat) (C' : List Int) (s : Int), 1 ≤ k ∧ k ≤ m + 1 ∧ q = m + 1 - k ∧ C'.length = n ∧ 0 ≤ s ∧ s ≤ 1048576 * (k : Int) ∧ finE (atE T F) row (m + 1 - k) k C' s = Y ∧ c = ⟨FC n m ++ [(25, I k)], OC T F (upN row) C' u1 v1 s⟩, ⟨_, _, Wk.keep [4, 7, 8, 11, 24, 25] [32, 48, 64, 720, 2976, 384], 1, C, 0, by omega, by omega, rfl, lC, by omega, by omega, by rw [show m + 1 - 1 = m by omega]; exact hY, rfl⟩, ?_⟩
  rintro q c ⟨k, C, s, hk1, hk2, rfl, lC, hs0, hs1, hS, rfl⟩
  refine ⟨fun h => ?_, fun h => ?_⟩
  · have hkm : k ≤ m := by simp at h; omega
    clear h
    rw [show m + 1 - k = (m - k) + 1 by omega, finE] at hS
    have rR := row_at (l := upN row) (i := k) (by rw [upN_len]; omega)
    rw [upN_at] at rR
    refine ⟨⟨by omega, by omega⟩, _, rR, fun hz => ?_, fun hz => ?_⟩
    · have hz : row.getD k 0 ≠ 0 := by
        intro e
        rw [e] at hz; cases hz
      rw [if_neg hz] at hS
      have hrk := hrow k hk1
      have hlen : (T.getD (row.getD k 0 - 1) []).length = m := by
        have h1 : row.getD k 0 - 1 < T.length := by rw [tb.hn]; omega
        rw [List.getD_eq_getElem?_getD, List.getElem?_eq_getElem h1]
        exact tb.hT _ (List.getElem_mem h1)
      have k48 := c48 (T := T) (F := F) (i := row.getD k 0 - 1) (k := k - 1) (by rw [tb.hn]; omega) (by rw [tb.hF]; omega) (by omega)
      have hat := tb.at (row.getD k 0 - 1) (k - 1)
      have rC := row_at (l := C) (i := row.getD k 0 - 1) (by omega)
      have eC : (C.map enc).set ((row.getD k 0 - 1 : Nat) : Int).toNat [I ((k - 1 : Nat) : Int)] = (C.set (row.getD k 0 - 1) ((k - 1 : Nat) : Int)).map enc := row_set
      refine ⟨⟨by omega, by omega⟩, _, rR, ((row.getD k 0 - 1 : Nat) : Int), wrapTo (by omega) (by omega) (by omega), ((k - 1 : Nat) : Int), wrapTo (by omega) (by omega) (by omega), ⟨by omega, by omega⟩, _, rC, ?_⟩
      refine ⟨⟨by omega, by omega⟩, _, rR, ((row.getD k 0 - 1 : Nat) : Int), wrapTo (by omega) (by omega) (by omega), ((k - 1 : Nat) : Int), wrapTo (by omega) (by omega) (by omega), _, k48, _, wrap64 (by omega) (by omega), ((k + 1 : Nat) : Int), wrapTo (by omega) (by omega) (by omega), ?_⟩
      refine ⟨_, _, Wk.keep [4, 7, 8, 11, 24, 25] [32, 48, 64, 720, 2976, 384], by omega, k + 1, C.set (row.getD k 0 - 1) ((k - 1 : Nat) : Int), s + atE T F (row.getD k 0 - 1) (k - 1), by omega, by omega, rfl, by rw [List.length_set]; exact lC, by omega, by omega, by rw [show m + 1 - (k + 1) = m - k by omega]; exact hS, ?_⟩
      show _ = Cfg.mk _ [(32, _), (48, _), (64, _), (720, _), (2976, (⟨3, 1, .pure, (C.set (row.getD k 0 - 1) ((k - 1 : Nat) : Int)).map enc⟩ : OBlk)), (384, (⟨47, 4, .any, [[.osl 2976 1 (C.set (row.getD k 0 - 1) ((k - 1 : Nat) : Int)).length, A u1, A v1, _]]⟩ : OBlk))]
      rw [← eC, List.length_set]; rfl
    · have hz : row.getD k 0 = 0 := by
        have hz : (((row.getD k 0 : Nat) : Int) != 0) = false := hz
        simp at hz; exact_mod_cast hz
      rw [if_pos hz] at hS
      refine ⟨((k + 1 : Nat) : Int), wrapTo (by omega) (by omega) (by omega), ?_⟩
      exact ⟨_, _, Wk.keep [4, 7, 8, 11, 24, 25] [32, 48, 64, 720, 2976, 384], by omega, k + 1, C, s, by omega, by omega, rfl, lC, hs0, by omega, by rw [show m + 1 - (k + 1) = m - k by omega]; exact hS, rfl⟩
  · have hk : k = m + 1 := by simp at h; omega
    subst hk
    rw [Nat.sub_self, finE] at hS
    subst hS
    exact ⟨rfl, lC, _, rfl⟩
end Go.Abs.L38
