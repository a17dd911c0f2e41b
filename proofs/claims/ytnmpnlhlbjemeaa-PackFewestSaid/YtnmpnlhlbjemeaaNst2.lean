import Derived.Test.YtnmpnlhlbjemeaaNst
namespace Go.Abs
open Go.RowKit
set_option linter.unusedVariables false
section
variable {E : Env} {K : KM} {c : Cfg} {a : Act} {w : World} {fr : List (Nat × AV)} {V : List (Nat × OBlk)} {e sz eo o : Nat} {us : List Value} {T : List (List (List AV))}
/-- a block's entry is said anew -/
theorem SRK.recast {b : Nat} {blk blk0 : OBlk} (h : SRK E K c a w) (hb : olk c.O b = some blk0) (hne : blk0.rows ≠ []) (hlen : blk.rows.length = blk0.rows.length) (hrows : ∀ row ∈ blk.rows, row.length = blk.sz)
    (hblk : ∀ g, blkOf K b = some g → BlkR w (XX E K c.O) K g blk0 → BlkR w (XX E K c.O) K g blk) : SRK E K ⟨c.fr, setO b blk c.O⟩ a w := by
  rcases h.own b blk0 hb with ⟨_, h2⟩ | ⟨g, h1, h2⟩
  · exact absurd h2 hne
  · exact h.write hb (blkOf_of h1) hlen (Step.refl _ _) hrows (hblk g (blkOf_of h1) h2)
theorem BlkR.lit_at {X : Nat → Prop} {rows : List (List AV)} {kd : Kd} {cur : Array Value} {j : Nat} {v : Value} (hu : ∀ (j : Nat) u, rows.flatten[j]? = some u → ∃ c, cur[j]? = some c ∧ c.oneCell' = true ∧ VR w (KdX kd X) (KdK kd K) u c)
    (hr : ∀ row ∈ rows, row.length = 1) (hj : rows[j]? = some [.lit v]) : cur[j]? = some v ∧ v.oneCell' = true := by
  obtain ⟨x, hx, h1, hv⟩ := hu j _ ((one_flat hr).2 hj)
  have : x = v := by cases hv; rfl
  subst this
  exact ⟨hx, h1⟩
theorem lits_at {k : Nat} {v : Value} : (lits us)[k]? = some [.lit v] ↔ us[k]? = some v := by
  simp [lits]
/-- one member of the family is taken out, under an id of one's choice -/
theorem nest_open (hs : SRK E K ⟨fr, V ++ fam e sz T⟩ a w) (hl : LitF w K sz us T) (hnf : noFid V = true) (ho : olk V o = some ⟨eo, 1, .pure, lits us⟩) {x k : Nat} {t : List (List AV)} (hx : olk V x = none) (hpx : E.pin x = none) (hxf : x % 16 ≠ 15)
    (hfx : ∀ s, (lk fr s).has x = false) (hVx : ∀ i y, olk V i = some y → y.kd = .any → hasRow x y.rows = false) (ht : T[k]? = some t) :
    ∃ K', SRK E K' ⟨fr, (x, ⟨e, sz, .pure, t⟩) :: setO o ⟨eo, 1, .any, (lits us).set k [.osl x sz t.length]⟩ V ++ delO (fid k) (fam e sz T)⟩ a w ∧ LitF w K' sz us T ∧ ∀ i, i ≠ x → K' i = K i := by
  have hxj : ∀ j, x ≠ fid j := fun j h => hxf (by rw [h]; unfold fid; omega)
  have hb : olk (V ++ fam e sz T) (fid k) = some ⟨e, sz, .pure, t⟩ := by rw [olk_cat, noFid_get hnf k, fam_at, ht]; rfl
  have hxn : olk (V ++ fam e sz T) x = none := by
    cases h : olk (V ++ fam e sz T) x with
    | none => rfl
    | some y =>
      rcases olk_app_inv h with h | ⟨_, h⟩
      · rw [hx] at h; cases h
      · obtain ⟨j, _, h1, _⟩ := fam_inv h; exact absurd h1 (hxj j)
  obtain ⟨K', hK, hKx, hs1⟩ := hs.renameAny hpx hb hxn hfx fun i y hi hk => by
    rcases olk_app_inv hi with h | ⟨_, h⟩
    · exact hVx i y h hk
    · obtain ⟨_, _, _, _, rfl⟩ := fam_inv h; cases hk
  have hox : o ≠ x := by rintro rfl; rw [hx] at ho; cases ho
  have hof : ∀ j, fid j ≠ o := by rintro j rfl; rw [noFid_get hnf j] at ho; cases ho
  have ho1 : olk (setO x ⟨e, sz, .pure, t⟩ (delO (fid k) (V ++ fam e sz T))) o = some ⟨eo, 1, .pure, lits us⟩ := by
    rw [olk_setO, if_neg (fun h => hox h.symm), olk_delO, if_neg (hof k), olk_cat, ho]; rfl
  obtain ⟨v, hv, hvr⟩ := hl k t ht
  have hkl : k < us.length := (List.getElem?_eq_some_iff.1 hv).1
  have hne : lits us ≠ [] := by
    intro h
    have := congrArg List.length h
    rw [lits_len, List.length_nil] at this
    omega
  have hs2 := hs1.recast (blk := ⟨eo, 1, .any, (lits us).set k [.osl x sz t.length]⟩) ho1 hne (by simp) (set_row (lits_row us) k) fun g _ hB => by
    obtain ⟨cur, hc, hu⟩ := hB
    refine ⟨cur, hc, fun j u hj => ?_⟩
    rw [one_flat (set_row (lits_row us) k)] at hj
    by_cases hjk : k = j
    · subst hjk
      rw [List.getElem?_set_self (by rw [lits_len]; exact hkl)] at hj
      injection hj with hj; injection hj with hj; subst hj
      obtain ⟨h1, h2⟩ := BlkR.lit_at hu (lits_row us) (lits_at.2 hv)
      exact ⟨v, h1, h2, hvr.osl_id hKx⟩
    · rw [List.getElem?_set_ne hjk] at hj
      obtain ⟨y, hy, h1, h2⟩ := hu j u ((one_flat (lits_row us)).2 hj)
      refine ⟨y, hy, h1, ?_⟩
      have : ∃ v', u = .lit v' := by
        have := List.mem_of_getElem? hj
        obtain ⟨v', _, h⟩ := List.mem_map.1 this
        injection h with h; exact ⟨v', h.symm⟩
      obtain ⟨v', rfl⟩ := this
      cases h2
      exact .lit
  refine ⟨K', hs2.congrO fun b => ?_, fun j t' hj => ?_, hK⟩
  · rw [List.cons_append, olk_cons, olk_setO, olk_setO, olk_delO, olk_cat, olk_cat, olk_setO, olk_delO]
    by_cases h1 : x = b
    · subst h1
      rw [if_pos rfl, if_neg hox, if_pos rfl]
    · rw [if_neg h1]
      by_cases h2 : o = b
      · subst h2; rw [if_pos rfl, if_pos rfl]; rfl
      · rw [if_neg h2, if_neg h2, if_neg h1]
        by_cases h3 : fid k = b
        · subst h3; rw [if_pos rfl, if_pos rfl, noFid_get hnf k]; rfl
        · rw [if_neg h3, if_neg h3]
  · obtain ⟨v', h1, h2⟩ := hl j t' hj
    exact ⟨v', h1, h2.osl_id (hK _ (fun h => hxj j h.symm))⟩
/-- a member comes back (k < length), or is a new one (k = length) -/
theorem nest_close {y k : Nat} {t' : List (List AV)} {rows : List (List AV)} {us' : List Value} {T' : List (List (List AV))} {Tl : List (Nat × OBlk)}
    (hs : SRK E K ⟨fr, V ++ Tl⟩ a w) (hnf : noFid V = true) (hTl : ∀ b, olk Tl b = if fid k = b then none else olk (fam e sz T') b) (hTk : T'[k]? = some t')
    (hl : ∀ j t, j ≠ k → T'[j]? = some t → ∃ v, us'[j]? = some v ∧ VR w (fun _ => True) K (.osl (fid j) sz t.length) v)
    (ho : olk V o = some ⟨eo, 1, .any, rows⟩) (hy : olk V y = some ⟨e, sz, .pure, t'⟩) (hoy : o ≠ y) (hr : rows.length = us'.length) (hrk : rows[k]? = some [.osl y sz t'.length]) (hrj : ∀ j, j ≠ k → rows[j]? = (lits us')[j]?)
    (hpx : E.pin (fid k) = none) (hfx : ∀ s, (lk fr s).has (fid k) = false) (hVx : ∀ i z, olk V i = some z → i ≠ o → z.kd = .any → hasRow (fid k) z.rows = false) (hyf : y % 16 ≠ 15) :
    ∃ K' v', SRK E K' ⟨fr, setO o ⟨eo, 1, .pure, lits (us'.set k v')⟩ (delO y V) ++ fam e sz T'⟩ a w ∧ LitF w K' sz (us'.set k v') T' ∧ ∀ i, i ≠ fid k → K' i = K i := by
  have hyj : ∀ j, y ≠ fid j := fun j h => hyf (by rw [h]; unfold fid; omega)
  have hkl : k < rows.length := (List.getElem?_eq_some_iff.1 hrk).1
  have hrows : ∀ row ∈ rows, row.length = 1 := hs.rows o _ (olk_app_l ho)
  have hhas : hasRow (fid k) rows = false := by
    have key : ∀ (rs : List (List AV)), (∀ row ∈ rs, AV.hasL (fid k) row = false) → hasRow (fid k) rs = false := by
      intro rs
      induction rs with
      | nil => intro _; rfl
      | cons r rs ih => intro h; simp only [hasRow, h r (by simp), ih fun row hr => h row (by simp [hr]), Bool.or_self]
    refine key rows fun row hrow => ?_
    obtain ⟨j, hj⟩ := List.getElem?_of_mem hrow
    by_cases hjk : j = k
    · subst hjk
      rw [hrk] at hj; injection hj with hj; subst hj
      simp only [AV.hasL, AV.has, Bool.or_false]
      simp; exact hyj j
    · rw [hrj j hjk] at hj
      obtain ⟨v, _, h⟩ := List.mem_map.1 (List.mem_of_getElem? hj)
      subst h; rfl
  have hfn : olk (V ++ Tl) (fid k) = none := by rw [olk_cat, noFid_get hnf k, hTl, if_pos rfl]; rfl
  obtain ⟨K', hK, hKx, hs1⟩ := hs.renameAny (b := y) hpx (olk_app_l hy) hfn hfx fun i z hi hk => by
    rcases olk_app_inv hi with h | ⟨_, h⟩
    · by_cases hio : i = o
      · subst hio; rw [ho] at h; injection h with h; subst h; exact hhas
      · exact hVx i z h hio hk
    · rw [hTl] at h
      split at h
      · cases h
      · obtain ⟨_, _, _, _, rfl⟩ := fam_inv h; cases hk
  have hof : ∀ j, fid j ≠ o := by rintro j rfl; rw [noFid_get hnf j] at ho; cases ho
  have ho1 : olk (setO (fid k) ⟨e, sz, .pure, t'⟩ (delO y (V ++ Tl))) o = some ⟨eo, 1, .any, rows⟩ := by
    rw [olk_setO, if_neg (hof k), olk_delO, if_neg (fun h => hoy h.symm), olk_cat, ho]; rfl
  have hne : rows ≠ [] := by rintro rfl; simp at hkl
  rcases hs1.own o _ ho1 with ⟨_, h2⟩ | ⟨g, hg1, cur, hc, hu⟩
  · exact absurd h2 hne
  obtain ⟨v', hv', hone, hvr⟩ := hu k _ ((one_flat hrows).2 hrk)
  have hlu : (lits (us'.set k v')).length = rows.length := by rw [lits_len, List.length_set, hr]
  have hs2 := hs1.recast (blk := ⟨eo, 1, .pure, lits (us'.set k v')⟩) ho1 hne hlu (lits_row _) fun g' hg' hB => by
    rw [blkOf_of hg1] at hg'
    injection hg' with hg'
    subst hg'
    refine ⟨cur, hc, fun j u hj => ?_⟩
    rw [one_flat (lits_row _)] at hj
    by_cases hjk : k = j
    · subst hjk
      have h1 : (us'.set k v')[k]? = some v' := by rw [List.getElem?_set_self (by omega)]
      rw [lits_at.2 h1] at hj
      injection hj with hj; injection hj with hj; subst hj
      exact ⟨v', hv', hone, .lit⟩
    · have hj2 : (lits us')[j]? = some [u] := by
        rw [← hj]
        unfold lits
        rw [List.getElem?_map, List.getElem?_map, List.getElem?_set_ne hjk]
      obtain ⟨z, hz, hz1, hz2⟩ := hu j u ((one_flat hrows).2 (by rw [hrj j (fun h => hjk h.symm)]; exact hj2))
      obtain ⟨v2, _, h⟩ := List.mem_map.1 (List.mem_of_getElem? hj2)
      injection h with h; subst h
      cases hz2
      exact ⟨_, hz, hz1, .lit⟩
  refine ⟨K', v', hs2.congrO fun b => ?_, fun j t hj => ?_, hK⟩
  · show olk (setO o ⟨eo, 1, .pure, lits (us'.set k v')⟩ (delO y V) ++ fam e sz T') b = olk (setO o ⟨eo, 1, .pure, lits (us'.set k v')⟩ (setO (fid k) ⟨e, sz, .pure, t'⟩ (delO y (V ++ Tl)))) b
    rw [olk_cat, olk_setO, olk_delO, olk_setO, olk_setO, olk_delO, olk_cat, hTl]
    by_cases h2 : o = b
    · subst h2; rw [if_pos rfl, if_pos rfl]; rfl
    · rw [if_neg h2, if_neg h2]
      by_cases h3 : fid k = b
      · subst h3
        rw [if_pos rfl, fam_at, hTk]
        by_cases h4 : y = fid k
        · rw [if_pos h4]; rfl
        · rw [if_neg h4, noFid_get hnf k]; rfl
      · rw [if_neg h3, if_neg h3]
        by_cases h4 : y = b
        · subst h4
          rw [if_pos rfl, if_pos rfl]
          cases hq : olk (fam e sz T') y with
          | none => rfl
          | some z => obtain ⟨j, _, h, _⟩ := fam_inv hq; exact absurd h (hyj j)
        · rw [if_neg h4, if_neg h4]
  · by_cases hjk : j = k
    · subst hjk
      rw [hTk] at hj
      injection hj with hj; subst hj
      refine ⟨v', by rw [List.getElem?_set_self (by omega)], VR.osl_id (K := K') hvr (hKx.trans (hK y (hyj _)).symm)⟩
    · obtain ⟨v2, h1, h2⟩ := hl j t hjk hj
      refine ⟨v2, by rw [List.getElem?_set_ne (fun h => hjk h.symm)]; exact h1, h2.osl_id (hK _ (fun h => hjk (fid_inj h)))⟩
end
end Go.Abs
