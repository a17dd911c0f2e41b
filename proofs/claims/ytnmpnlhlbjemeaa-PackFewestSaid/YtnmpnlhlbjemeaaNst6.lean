import Derived.Test.YtnmpnlhlbjemeaaNst5
namespace Go.Abs
open Go.RowKit
set_option linter.unusedVariables false
section
variable {E : Env} {K : KM} {c : Cfg} {a : Act} {w : World} {fr : List (Nat × AV)} {V : List (Nat × OBlk)} {e sz eo o : Nat} {us : List Value} {T : List (List (List AV))}
/-- only the first rows of a block are told, where nothing else speaks of it -/
theorem SRK.trunc (h : SRK E K c a w) {b j : Nat} {blk : OBlk} (hpn : E.pin b = none) (hb : olk c.O b = some blk) (hj : j ≤ blk.rows.length) (hfr : ∀ t, (lk c.fr t).has b = false) (hO : ∀ i x, olk c.O i = some x → x.kd = .any → hasRow b x.rows = false) (hkd : blk.kd = .pure) :
    ∃ K', SRK E K' ⟨c.fr, setO b { blk with rows := blk.rows.take j } c.O⟩ a w ∧ (∀ i, i ≠ b → K' i = K i) ∧ ∀ {X X' : Nat → Prop} {sz : Nat} {v : Value}, VR w X K (.osl b sz j) v → VR w X' K' (.osl b sz j) v := by
  rcases h.own b blk hb with ⟨k1, k2⟩ | ⟨g, k1, k2⟩
  · refine ⟨K, h.congrO fun i => ?_, fun _ _ => rfl, fun hv => hv.osl_id rfl⟩
    rw [olk_setO]
    split
    · rename_i e; subst e
      rw [hb]
      obtain ⟨e, sz, kd, rows⟩ := blk
      simp only at k2; subst k2; simp
    · rfl
  · have hblk : ∀ i, blkOf (upd K b (some g, j)) i = blkOf K i := by
      intro i
      by_cases e : i = b
      · subst e; rw [upd_blk, blkOf_of k1]
      · rw [upd_blk_other _ _ e]
    have hsome : ∀ i, (olk (setO b { blk with rows := blk.rows.take j } c.O) i).isSome = true → (olk c.O i).isSome = true := by
      intro i hi
      rw [olk_setO] at hi
      split at hi
      · rename_i e; subst e; rw [hb]; rfl
      · exact hi
    have hX : ∀ r, XX E (upd K b (some g, j)) (setO b { blk with rows := blk.rows.take j } c.O) r → XX E K c.O r := by
      rintro r (⟨i, hi, hk⟩ | hx)
      · exact .inl ⟨i, hsome i hi, by rw [← hblk i]; exact hk⟩
      · exact .inr hx
    refine ⟨upd K b (some g, j), ⟨h.size, h.defers, h.ext, fun t => (h.fr t).keep (Keep.refl _ _) (fun r _ => hX r) fun i hi => ?_, fun i x hi => ?_, fun i x hi => ?_, fun i i' r h1 h2 l1 l2 => ?_, fun i r h1 l1 => ?_, fun i y hy => ?_⟩, fun i hi => upd_other _ _ hi, fun hv => ?_⟩
    · by_cases e : i = b
      · subst e; rw [hfr t] at hi; cases hi
      · exact upd_other _ _ e
    · simp only [olk_setO] at hi
      split at hi
      · injection hi with hi; subst hi
        exact fun row hr => h.rows b blk hb row (List.mem_of_mem_take hr)
      · exact h.rows i x hi
    · simp only [olk_setO] at hi
      by_cases e : b = i
      · rw [if_pos e] at hi; injection hi with hi; subst hi; subst e
        refine .inr ⟨g, by rw [upd_same, List.length_take, Nat.min_eq_left hj], ?_⟩
        obtain ⟨cur, hc, hu⟩ := k2
        refine ⟨cur, hc, fun p u hp => ?_⟩
        have hpre : blk.rows.flatten[p]? = some u := by
          have : blk.rows = blk.rows.take j ++ blk.rows.drop j := (List.take_append_drop _ _).symm
          rw [this, List.flatten_append, List.getElem?_append_left (List.getElem?_eq_some_iff.1 hp).1]
          exact hp
        obtain ⟨y, hy, h1, h2⟩ := hu p u hpre
        refine ⟨y, hy, h1, ?_⟩
        rw [hkd] at h2
        show VR w (KdX blk.kd _) (KdK blk.kd _) u y
        rw [hkd]
        exact h2
      · rw [if_neg e] at hi
        rcases h.own i x hi with ⟨l1, l2⟩ | ⟨r, l1, l2⟩
        · exact .inl ⟨by rw [upd_other _ _ (fun e' => e e'.symm)]; exact l1, l2⟩
        · refine .inr ⟨r, by rw [upd_other _ _ (fun e' => e e'.symm)]; exact l1, l2.keep rfl (Keep.refl _ _) (fun r _ => hX r) fun hk p u b' hp hu => ?_⟩
          by_cases e' : b' = b
          · subst e'
            rw [hasRow_get (hO i x hi hk) hp] at hu; cases hu
          · exact upd_other _ _ e'
    · rw [hblk] at l1 l2
      exact h.inj i i' r (hsome i h1) (hsome i' h2) l1 l2
    · rw [hblk] at l1
      exact h.mine i r (hsome i h1) l1
    · rw [upd_other _ _ (by rintro rfl; rw [hpn] at hy; cases hy)]
      exact h.pin i y hy
    · rcases VR.osl_inv hv with ⟨l1, _⟩ | ⟨g', cap, cur, e, m, l1, l2, rfl, l3, l4, l5, l6⟩
      · rw [k1] at l1; cases l1
      · rw [k1] at l1; injection l1 with l1; injection l1 with l1 _; injection l1 with l1; subst l1
        exact .osl (upd_same _ _ _) (Nat.le_refl _) l3 l4 l5 l6
/-- a member comes back (k < length), or is a new one (k = length) -/
theorem nest_closeT {y k n : Nat} {t' tt : List (List AV)} {rows : List (List AV)} {us' : List Value} {T' : List (List (List AV))} {Tl : List (Nat × OBlk)}
    (hs : SRK E K ⟨fr, V ++ Tl⟩ a w) (hnf : noFid V = true) (hTl : ∀ b, olk Tl b = if fid k = b then none else olk (fam e sz T') b) (hTk : T'[k]? = some t')
    (hl : ∀ j t, j ≠ k → T'[j]? = some t → ∃ v, us'[j]? = some v ∧ VR w (fun _ => True) K (.osl (fid j) sz t.length) v)
    (ho : olk V o = some ⟨eo, 1, .any, rows⟩) (hy : olk V y = some ⟨e, sz, .pure, tt⟩) (hn : n ≤ tt.length) (ht' : t' = tt.take n) (hoy : o ≠ y) (hr : rows.length = us'.length) (hrk : rows[k]? = some [.osl y sz n]) (hrj : ∀ j, j ≠ k → rows[j]? = (lits us')[j]?)
    (hpx : E.pin (fid k) = none) (hfx : ∀ s, (lk fr s).has (fid k) = false) (hVx : ∀ i z, olk V i = some z → i ≠ o → z.kd = .any → hasRow (fid k) z.rows = false) (hyf : y % 16 ≠ 15) :
    ∃ K' v', SRK E K' ⟨fr, setO o ⟨eo, 1, .pure, lits (us'.set k v')⟩ (delO y V) ++ fam e sz T'⟩ a w ∧ LitF w K' sz (us'.set k v') T' ∧ ∀ i, i ≠ fid k → K' i = K i := by
  have hyj : ∀ j, y ≠ fid j := fun j h => hyf (by rw [h]; unfold fid; omega)
  have hkl : k < rows.length := (List.getElem?_eq_some_iff.1 hrk).1
  have hrows : ∀ row ∈ rows, row.length = 1 := hs.rows o _ (olk_app_l ho)
  have hhas : hasRow (fid k) rows = false := by
    have key : ∀ (rs : List (List AV)), (∀ row ∈ rs, AV.hasL (fid k) row = false) → hasRow (fid k) rs = false := by
      intro rs
      induction rs with
      | nil => intro _; rfl
      | cons r rs ih => intro h; simp only [hasRow, h r (by simp), ih fun row hr => h row (by simp [hr]), Bool.or_self]
    refine key rows fun row hrow => ?_
    obtain ⟨j, hj⟩ := List.getElem?_of_mem hrow
    by_cases hjk : j = k
    · subst hjk
      rw [hrk] at hj; injection hj with hj; subst hj
      simp only [AV.hasL, AV.has, Bool.or_false]
      simp; exact hyj j
    · rw [hrj j hjk] at hj
      obtain ⟨v, _, h⟩ := List.mem_map.1 (List.mem_of_getElem? hj)
      subst h; rfl
  have hfn : olk (V ++ Tl) (fid k) = none := by rw [olk_cat, noFid_get hnf k, hTl, if_pos rfl]; rfl
  have hnl : t'.length = n := by rw [ht', List.length_take]; omega
  obtain ⟨K1, hK1, hKx1, hs0⟩ := hs.renameAny (b := y) hpx (olk_app_l hy) hfn hfx fun i z hi hk => by
    rcases olk_app_inv hi with h | ⟨_, h⟩
    · by_cases hio : i = o
      · subst hio; rw [ho] at h; injection h with h; subst h; exact hhas
      · exact hVx i z h hio hk
    · rw [hTl] at h
      split at h
      · cases h
      · obtain ⟨_, _, _, _, rfl⟩ := fam_inv h; cases hk
  obtain ⟨K', hs1', hK2, hKv⟩ := hs0.trunc (b := fid k) (j := n) (blk := ⟨e, sz, .pure, tt⟩) hpx (by rw [olk_setO, if_pos rfl]) hn hfx (fun i z hi hk => by
    rw [olk_setO] at hi
    by_cases h1 : fid k = i
    · rw [if_pos h1] at hi; injection hi with hi; subst hi; cases hk
    · rw [if_neg h1, olk_delO] at hi
      by_cases h2 : y = i
      · rw [if_pos h2] at hi; cases hi
      · rw [if_neg h2] at hi
        rcases olk_app_inv hi with h | ⟨_, h⟩
        · by_cases hio : i = o
          · subst hio; rw [ho] at h; injection h with h; subst h; exact hhas
          · exact hVx i z h hio hk
        · rw [hTl] at h
          split at h
          · cases h
          · obtain ⟨_, _, _, _, rfl⟩ := fam_inv h; cases hk) rfl
  have hs1 : SRK E K' ⟨fr, setO (fid k) ⟨e, sz, .pure, t'⟩ (delO y (V ++ Tl))⟩ a w := hs1'.congrO fun b => by
    rw [olk_setO, olk_setO, olk_setO, ht']
    split <;> rfl
  have hK : ∀ i, i ≠ fid k → K' i = K i := fun i hi => (hK2 i hi).trans (hK1 i hi)
  have hof : ∀ j, fid j ≠ o := by rintro j rfl; rw [noFid_get hnf j] at ho; cases ho
  have ho1 : olk (setO (fid k) ⟨e, sz, .pure, t'⟩ (delO y (V ++ Tl))) o = some ⟨eo, 1, .any, rows⟩ := by
    rw [olk_setO, if_neg (hof k), olk_delO, if_neg (fun h => hoy h.symm), olk_cat, ho]; rfl
  have hne : rows ≠ [] := by rintro rfl; simp at hkl
  rcases hs1.own o _ ho1 with ⟨_, h2⟩ | ⟨g, hg1, cur, hc, hu⟩
  · exact absurd h2 hne
  obtain ⟨v', hv', hone, hvr⟩ := hu k _ ((one_flat hrows).2 hrk)
  have hlu : (lits (us'.set k v')).length = rows.length := by rw [lits_len, List.length_set, hr]
  have hs2 := hs1.recast (blk := ⟨eo, 1, .pure, lits (us'.set k v')⟩) ho1 hne hlu (lits_row _) fun g' hg' hB => by
    rw [blkOf_of hg1] at hg'
    injection hg' with hg'
    subst hg'
    refine ⟨cur, hc, fun j u hj => ?_⟩
    rw [one_flat (lits_row _)] at hj
    by_cases hjk : k = j
    · subst hjk
      have h1 : (us'.set k v')[k]? = some v' := by rw [List.getElem?_set_self (by omega)]
      rw [lits_at.2 h1] at hj
      injection hj with hj; injection hj with hj; subst hj
      exact ⟨v', hv', hone, .lit⟩
    · have hj2 : (lits us')[j]? = some [u] := by
        rw [← hj]
        unfold lits
        rw [List.getElem?_map, List.getElem?_map, List.getElem?_set_ne hjk]
      obtain ⟨z, hz, hz1, hz2⟩ := hu j u ((one_flat hrows).2 (by rw [hrj j (fun h => hjk h.symm)]; exact hj2))
      obtain ⟨v2, _, h⟩ := List.mem_map.1 (List.mem_of_getElem? hj2)
      injection h with h; subst h
      cases hz2
      exact ⟨_, hz, hz1, .lit⟩
  refine ⟨K', v', hs2.congrO fun b => ?_, fun j t hj => ?_, hK⟩
  · show olk (setO o ⟨eo, 1, .pure, lits (us'.set k v')⟩ (delO y V) ++ fam e sz T') b = olk (setO o ⟨eo, 1, .pure, lits (us'.set k v')⟩ (setO (fid k) ⟨e, sz, .pure, t'⟩ (delO y (V ++ Tl)))) b
    rw [olk_cat, olk_setO, olk_delO, olk_setO, olk_setO, olk_delO, olk_cat, hTl]
    by_cases h2 : o = b
    · subst h2; rw [if_pos rfl, if_pos rfl]; rfl
    · rw [if_neg h2, if_neg h2]
      by_cases h3 : fid k = b
      · subst h3
        rw [if_pos rfl, fam_at, hTk]
        by_cases h4 : y = fid k
        · rw [if_pos h4]; rfl
        · rw [if_neg h4, noFid_get hnf k]; rfl
      · rw [if_neg h3, if_neg h3]
        by_cases h4 : y = b
        · subst h4
          rw [if_pos rfl, if_pos rfl]
          cases hq : olk (fam e sz T') y with
          | none => rfl
          | some z => obtain ⟨j, _, h, _⟩ := fam_inv hq; exact absurd h (hyj j)
        · rw [if_neg h4, if_neg h4]
  · by_cases hjk : j = k
    · subst hjk
      rw [hTk] at hj
      injection hj with hj; subst hj
      refine ⟨v', by rw [List.getElem?_set_self (by omega)], ?_⟩
      rw [hnl]
      have hvr' : VR w (fun _ => True) K1 (.osl (fid j) sz n) v' := VR.osl_id (K := K') hvr (hKx1.trans (hK y (hyj _)).symm)
      exact hKv hvr'
    · obtain ⟨v2, h1, h2⟩ := hl j t hjk hj
      refine ⟨v2, by rw [List.getElem?_set_ne (fun h => hjk h.symm)]; exact h1, h2.osl_id (hK _ (fun h => hjk (fid_inj h)))⟩
/-- the member that was taken out comes back, cut -/
theorem nest_backT {y k n : Nat} {tt : List (List AV)} {rows : List (List AV)} (hs : SRK E K ⟨fr, V ++ delO (fid k) (fam e sz T)⟩ a w) (hl : LitF w K sz us T) (hnf : noFid V = true) (hk : k < T.length)
    (ho : olk V o = some ⟨eo, 1, .any, rows⟩) (hrows : rows = (lits us).set k [.osl y sz n]) (hy : olk V y = some ⟨e, sz, .pure, tt⟩) (hn : n ≤ tt.length) (hoy : o ≠ y) (hpx : ∀ j, E.pin (fid j) = none) (hfr : noFF fr = true) (hVx : noFO o V = true) (hyf : y % 16 ≠ 15) :
    ∃ K' v', SRK E K' ⟨fr, setO o ⟨eo, 1, .pure, lits (us.set k v')⟩ (delO y V) ++ fam e sz (T.set k (tt.take n))⟩ a w ∧ LitF w K' sz (us.set k v') (T.set k (tt.take n)) ∧ ∀ i, i ≠ fid k → K' i = K i := by
  have hkl : k < us.length := Nat.lt_of_lt_of_le hk hl.len
  subst hrows
  refine nest_closeT (T' := T.set k (tt.take n)) (us' := us) (n := n) (tt := tt) hs hnf (fun b => ?_) (by rw [List.getElem?_set_self hk]) (fun j t hj ht => ?_) ho hy hn rfl hoy (by rw [List.length_set, lits_len]) (by rw [List.getElem?_set_self (by rw [lits_len]; exact hkl)]) (fun j hj => by rw [List.getElem?_set_ne (fun h => hj h.symm)]) (hpx k) (noFF_lk k hfr) (noFO_get o k hVx) hyf
  · rw [olk_delO]
    by_cases h : fid k = b
    · rw [if_pos h, if_pos h]
    · rw [if_neg h, if_neg h, fam_set h]
  · rw [List.getElem?_set_ne (fun h => hj h.symm)] at ht
    exact hl j t ht
end
end Go.Abs
namespace Go.Abs
open Go.RowKit
section
variable {E : Env} {K : KM} {c : Cfg} {a : Act} {w : World} {fr : List (Nat × AV)} {V : List (Nat × OBlk)}
/-- a block's entry is said anew, with the same rows -/
theorem SRK.recastK {b : Nat} {blk blk0 : OBlk} (h : SRK E K c a w) (hb : olk c.O b = some blk0) (hr : blk.rows = blk0.rows) (hsz : blk.sz = blk0.sz)
    (hblk : ∀ g, BlkR w (XX E K c.O) K g blk0 → BlkR w (XX E K c.O) K g blk) : SRK E K ⟨c.fr, setO b blk c.O⟩ a w := by
  have hsome : ∀ i, (olk (setO b blk c.O) i).isSome = true → (olk c.O i).isSome = true := by
    intro i hi
    rw [olk_setO] at hi
    split at hi
    · rename_i e; subst e; rw [hb]; rfl
    · exact hi
  have hX : ∀ r, XX E K (setO b blk c.O) r → XX E K c.O r := by
    rintro r (⟨i, hi, hk⟩ | hx)
    · exact .inl ⟨i, hsome i hi, hk⟩
    · exact .inr hx
  refine ⟨h.size, h.defers, h.ext, fun t => (h.fr t).sub (fun g _ => hX g), fun i x hi => ?_, fun i x hi => ?_, fun i i' r h1 h2 => h.inj i i' r (hsome i h1) (hsome i' h2), fun i r h1 => h.mine i r (hsome i h1), h.pin⟩
  · simp only [olk_setO] at hi
    split at hi
    · injection hi with hi; subst hi
      rw [hr, hsz]; exact h.rows b blk0 hb
    · exact h.rows i x hi
  · simp only [olk_setO] at hi
    split at hi
    · rename_i e; subst e
      injection hi with hi; subst hi
      rcases h.own b blk0 hb with ⟨h1, h2⟩ | ⟨g, h1, h2⟩
      · exact .inl ⟨h1, by rw [hr]; exact h2⟩
      · exact .inr ⟨g, by rw [hr]; exact h1, (hblk g h2).keep rfl (Keep.refl _ _) (fun g _ => hX g) (fun _ _ _ _ _ _ => rfl)⟩
    · rcases h.own i x hi with h1 | ⟨g, h1, h2⟩
      · exact .inl h1
      · exact .inr ⟨g, h1, h2.keep rfl (Keep.refl _ _) (fun g _ => hX g) (fun _ _ _ _ _ _ => rfl)⟩
/-- rows of literals, of whatever kind -/
theorem SRK.litsAny {o eo : Nat} {us : List Value} {O : List (Nat × OBlk)} (h : SRK E K ⟨fr, O⟩ a w) (ho : olk O o = some ⟨eo, 1, .pure, Abs.lits us⟩) : SRK E K ⟨fr, setO o ⟨eo, 1, .any, Abs.lits us⟩ O⟩ a w :=
  h.recastK ho rfl rfl fun g hB => by
    obtain ⟨cur, hc, hu⟩ := hB
    refine ⟨cur, hc, fun j u hj => ?_⟩
    obtain ⟨x, hx, h1, h2⟩ := hu j u hj
    refine ⟨x, hx, h1, ?_⟩
    simp only [lits_flat] at hj
    obtain ⟨v, _, rfl⟩ := List.mem_map.1 (List.mem_of_getElem? hj)
    cases h2
    exact .lit
/-- the block of a variable's slice gets another id, in the variable too -/
theorem SRK.revar {bv b b' ev sz n : Nat} {blk : OBlk} {O : List (Nat × OBlk)} (h : SRK E K ⟨fr, O⟩ a w) (hpn : E.pin b' = none) (hbv : olk O bv = some ⟨ev, 1, .any, [[.osl b sz n]]⟩) (hb : olk O b = some blk) (h1 : olk O b' = none) (hne : bv ≠ b)
    (h2 : ∀ t, (lk fr t).has b' = false) (h3 : ∀ i x, olk O i = some x → x.kd = .any → hasRow b' x.rows = false) :
    ∃ K', SRK E K' ⟨fr, setO bv ⟨ev, 1, .any, [[.osl b' sz n]]⟩ (setO b' blk (delO b O))⟩ a w ∧ ∀ i, i ≠ b' → K' i = K i := by
  have hbb : b ≠ b' := by rintro rfl; rw [hb] at h1; cases h1
  have hvb : bv ≠ b' := by rintro rfl; rw [hbv] at h1; cases h1
  obtain ⟨K', hK, hKb, hs⟩ := h.renameAny hpn hb h1 h2 h3
  have hbv' : olk (setO b' blk (delO b O)) bv = some ⟨ev, 1, .any, [[.osl b sz n]]⟩ := by
    rw [olk_setO, if_neg (fun e => hvb e.symm), olk_delO, if_neg (fun e => hne e.symm)]; exact hbv
  refine ⟨K', hs.recast hbv' (by simp) rfl (by simp) fun g _ hB => ?_, hK⟩
  obtain ⟨cur, hc, hu⟩ := hB
  refine ⟨cur, hc, fun j u hj => ?_⟩
  cases j with
  | zero =>
    simp at hj; subst hj
    obtain ⟨x, hx, g1, g2⟩ := hu 0 (.osl b sz n) (by simp)
    exact ⟨x, hx, g1, VR.osl_id (K := K') g2 (hKb.trans (hK b hbb).symm)⟩
  | succ j => simp at hj
end
theorem LitF.keepK {w : World} {K K' : KM} {sz : Nat} {us : List Value} {T : List (List (List AV))} (h : LitF w K sz us T) (hK : ∀ j, K' (fid j) = K (fid j)) : LitF w K' sz us T := fun j t ht => by
  obtain ⟨v, hv, h1⟩ := h j t ht
  exact ⟨v, hv, h1.osl_id (hK j)⟩
end Go.Abs
namespace Go.Abs
theorem fam_none {e sz b : Nat} {T : List (List (List AV))} (h : b % 16 ≠ 15) : olk (fam e sz T) b = none := by
  cases hx : olk (fam e sz T) b with
  | none => rfl
  | some x =>
    obtain ⟨j, _, rfl, _, _⟩ := fam_inv hx
    exact absurd (by unfold fid; omega) h
/-- the same, beside a family -/
theorem SRK.revarT {E : Env} {K : KM} {a : Act} {w : World} {fr : List (Nat × AV)} {V : List (Nat × OBlk)} {bv b b' ev sz n e' sz' : Nat} {blk : OBlk} {T : List (List (List AV))} (h : SRK E K ⟨fr, V ++ fam e' sz' T⟩ a w) (hpn : E.pin b' = none) (hbv : olk V bv = some ⟨ev, 1, .any, [[.osl b sz n]]⟩) (hb : olk V b = some blk) (h1 : olk V b' = none) (hne : bv ≠ b)
    (hm : b % 16 ≠ 15) (hm' : b' % 16 ≠ 15) (h2 : freshF b' fr = true) (h3 : freshO b' V = true) :
    ∃ K', SRK E K' ⟨fr, setO bv ⟨ev, 1, .any, [[.osl b' sz n]]⟩ (setO b' blk (delO b V)) ++ fam e' sz' T⟩ a w ∧ ∀ i, i ≠ b' → K' i = K i := by
  obtain ⟨K', hs, hK⟩ := h.revar (b := b) (b' := b') hpn (olk_app_l hbv) (olk_app_l hb) (by rw [olk_app_r h1]; exact fam_none hm') hne (fun t => freshF_lk t h2) (fun i x hx hk => by
    rcases olk_app_inv hx with hx | ⟨_, hx⟩
    · exact (freshO_olk h3 hx).2 hk
    · obtain ⟨_, _, _, _, rfl⟩ := fam_inv hx; cases hk)
  refine ⟨K', hs.congrO fun i => ?_, hK⟩
  rw [olk_cat, olk_setO, olk_setO, olk_delO, olk_setO, olk_setO, olk_delO, olk_cat]
  by_cases e1 : bv = i
  · rw [if_pos e1, if_pos e1]; rfl
  · rw [if_neg e1, if_neg e1]
    by_cases e2 : b' = i
    · rw [if_pos e2, if_pos e2]; rfl
    · rw [if_neg e2, if_neg e2]
      by_cases e3 : b = i
      · subst e3
        rw [if_pos rfl, if_pos rfl, fam_none hm]; rfl
      · rw [if_neg e3, if_neg e3]
end Go.Abs
