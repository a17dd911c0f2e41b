import Derived.Test.YtnmpnlhlbjemeaaNst2
namespace Go.Abs
open Go.RowKit
set_option linter.unusedVariables false
section
variable {E : Env} {K : KM} {c : Cfg} {a : Act} {w : World} {fr : List (Nat × AV)} {V : List (Nat × OBlk)} {e sz eo o : Nat} {us : List Value} {T : List (List (List AV))}
/-- an id without a block: the nil slice stands for it -/
theorem SRK.rebindNilAny {b : Nat} {blk : OBlk} (h : SRK E K c a w) (hpn : E.pin b = none)
    (hfr : ∀ t, (lk c.fr t).has b = false) (hO : ∀ i x, olk c.O i = some x → i ≠ b → x.kd = .any → hasRow b x.rows = false)
    (hrows : blk.rows = []) : SRK E (upd K b (none, 0)) ⟨c.fr, setO b blk c.O⟩ a w := by
  have hX : ∀ r, r < w.heap.size → XX E (upd K b (none, 0)) (setO b blk c.O) r → XX E K c.O r := by
    rintro r hr (⟨i, hi, hk⟩ | hx)
    · by_cases e : i = b
      · subst e; rw [upd_blk_nil] at hk; cases hk
      · rw [upd_blk_other _ _ e] at hk
        rw [olk_setO, if_neg (fun e' => e e'.symm)] at hi
        exact .inl ⟨i, hi, hk⟩
    · exact .inr hx
  refine ⟨h.size, h.defers, h.ext, fun t => (h.fr t).keep (Keep.refl _ _) hX fun i hi => ?_, fun i x hi => ?_, fun i x hi => ?_, fun i i' r h1 h2 k1 k2 => ?_, fun i r h1 k1 => ?_, fun i y hy => ?_⟩
  · by_cases e : i = b
    · subst e; rw [hfr t] at hi; cases hi
    · exact upd_other _ _ e
  · simp only [olk_setO] at hi
    by_cases e : b = i
    · rw [if_pos e] at hi; injection hi with hi; subst hi; rw [hrows]; simp
    · rw [if_neg e] at hi; exact h.rows i x hi
  · simp only [olk_setO] at hi
    by_cases e : b = i
    · rw [if_pos e] at hi; injection hi with hi; subst hi; subst e
      exact .inl ⟨upd_same _ _ _, hrows⟩
    · rw [if_neg e] at hi
      rcases h.own i x hi with ⟨h1, h2⟩ | ⟨r, h1, h2⟩
      · exact .inl ⟨by rw [upd_other _ _ (fun e' => e e'.symm)]; exact h1, h2⟩
      · refine .inr ⟨r, by rw [upd_other _ _ (fun e' => e e'.symm)]; exact h1, h2.keep rfl (Keep.refl _ _) hX fun hk j u b' hj hu => ?_⟩
        by_cases e' : b' = b
        · subst e'
          rw [hasRow_get (hO i x hi (fun e'' => e e''.symm) hk) hj] at hu; cases hu
        · exact upd_other _ _ e'
  · simp only [olk_setO] at h1 h2
    have e : i ≠ b := by rintro rfl; rw [upd_blk_nil] at k1; cases k1
    have e' : i' ≠ b := by rintro rfl; rw [upd_blk_nil] at k2; cases k2
    rw [upd_blk_other _ _ e] at k1
    rw [upd_blk_other _ _ e'] at k2
    rw [if_neg (fun e'' => e e''.symm)] at h1
    rw [if_neg (fun e'' => e' e''.symm)] at h2
    exact h.inj i i' r h1 h2 k1 k2
  · simp only [olk_setO] at h1
    have e : i ≠ b := by rintro rfl; rw [upd_blk_nil] at k1; cases k1
    rw [upd_blk_other _ _ e] at k1
    rw [if_neg (fun e'' => e e''.symm)] at h1
    exact h.mine i r h1 k1
  · rw [upd_other _ _ (by rintro rfl; rw [hpn] at hy; cases hy)]
    exact h.pin i y hy
def nilS : Value := .slice none 0 0
/-- a further member of the family, the nil slice -/
theorem nest_nil (hs : SRK E K ⟨fr, V ++ fam e sz T⟩ a w) (hl : LitF w K sz us T) (hnf : noFid V = true) (hpx : E.pin (fid T.length) = none) (hfx : ∀ s, (lk fr s).has (fid T.length) = false)
    (hVx : ∀ i y, olk V i = some y → y.kd = .any → hasRow (fid T.length) y.rows = false) (hus : us[T.length]? = some nilS) :
    ∃ K', SRK E K' ⟨fr, V ++ fam e sz (T ++ [[]])⟩ a w ∧ LitF w K' sz us (T ++ [[]]) ∧ ∀ i, i ≠ fid T.length → K' i = K i := by
  have hs1 := hs.rebindNilAny (blk := ⟨e, sz, .pure, []⟩) hpx hfx (fun i y hi _ hk => by
    rcases olk_app_inv hi with h | ⟨_, h⟩
    · exact hVx i y h hk
    · obtain ⟨_, _, _, _, rfl⟩ := fam_inv h; cases hk) rfl
  refine ⟨_, hs1.congrO fun b => ?_, fun j t hj => ?_, fun i hi => upd_other _ _ hi⟩
  · rw [olk_setO, olk_cat, olk_cat]
    by_cases h : fid T.length = b
    · subst h
      rw [if_pos rfl, noFid_get hnf, fam_at]
      simp
    · rw [if_neg h]
      congr 1
      cases hq : olk (fam e sz T) b with
      | some x =>
        obtain ⟨j, t, rfl, h1, rfl⟩ := fam_inv hq
        rw [fam_at, List.getElem?_append_left (List.getElem?_eq_some_iff.1 h1).1, h1]; rfl
      | none =>
        cases hq2 : olk (fam e sz (T ++ [[]])) b with
        | none => rfl
        | some x =>
          obtain ⟨j, t, rfl, h1, rfl⟩ := fam_inv hq2
          have hjl := (List.getElem?_eq_some_iff.1 h1).1
          rw [List.length_append] at hjl
          simp only [List.length_cons, List.length_nil] at hjl
          have hne : j ≠ T.length := fun e => h (by rw [e])
          rw [List.getElem?_append_left (by omega)] at h1
          rw [fam_at, h1] at hq; cases hq
  · by_cases hjm : j = T.length
    · subst hjm
      rw [List.getElem?_append_right (Nat.le_refl _), Nat.sub_self] at hj
      injection hj with hj; subst hj
      exact ⟨nilS, hus, .oslnil (upd_same _ _ _)⟩
    · have hjl := (List.getElem?_eq_some_iff.1 hj).1
      rw [List.length_append] at hjl
      simp only [List.length_cons, List.length_nil] at hjl
      rw [List.getElem?_append_left (by omega)] at hj
      obtain ⟨v, h1, h2⟩ := hl j t hj
      exact ⟨v, h1, h2.osl_id (upd_other _ _ fun h => hjm (fid_inj h))⟩
/-- a row of the nil slice is a literal -/
def toLit : List AV → Value
  | [.lit v] => v
  | _ => nilS
def litOrNil : List AV → Bool
  | [.lit _] => true
  | [.nilsl] => true
  | _ => false
theorem SRK.lits {O : List (Nat × OBlk)} {rows : List (List AV)} (hs : SRK E K ⟨fr, O⟩ a w) (ho : olk O o = some ⟨eo, 1, .pure, rows⟩) (hr : ∀ row ∈ rows, litOrNil row = true) : SRK E K ⟨fr, setO o ⟨eo, 1, .pure, lits (rows.map toLit)⟩ O⟩ a w := by
  by_cases hne : rows = []
  · subst hne
    refine hs.congrO fun b => ?_
    rw [olk_setO]
    split
    · rename_i h; subst h; exact ho.symm
    · rfl
  · refine hs.recast ho hne (by simp [Abs.lits]) (lits_row _) fun g _ hB => ?_
    obtain ⟨cur, hc, hu⟩ := hB
    have hrows : ∀ row ∈ rows, row.length = 1 := hs.rows o _ ho
    refine ⟨cur, hc, fun j u hj => ?_⟩
    rw [one_flat (lits_row _)] at hj
    have hjl : j < rows.length := by
      have := (List.getElem?_eq_some_iff.1 hj).1
      rw [lits_len, List.length_map] at this; exact this
    obtain ⟨row, hrow⟩ : ∃ row, rows[j]? = some row := ⟨rows[j], by simp⟩
    have hm := hr row (List.mem_of_getElem? hrow)
    rw [lits_at.2 (show (rows.map toLit)[j]? = some (toLit row) by simp [hrow])] at hj
    injection hj with hj; injection hj with hj; subst hj
    unfold litOrNil at hm
    split at hm
    · rename_i v
      obtain ⟨z, hz, h1, h2⟩ := hu j _ ((one_flat hrows).2 hrow)
      cases h2
      exact ⟨_, hz, h1, .lit⟩
    · obtain ⟨z, hz, h1, h2⟩ := hu j _ ((one_flat hrows).2 hrow)
      have := VR.nilsl_inv h2
      subst this
      exact ⟨_, hz, h1, .lit⟩
    · cases hm
/-- the whole is written no more: a reading -/
theorem nest_freeze (hs : SRK E K ⟨fr, V ++ fam e sz T⟩ a w) (hl : LitF w K sz us T) (hnf : noFid V = true) (ho : olk V o = some ⟨eo, 1, .pure, Abs.lits us⟩) {X : Nat → Prop} {v : Value} (hv : VR w X K (.osl o 1 T.length) v) :
    VR w (XX E K (delO o V)) K0 (.rsl 1 T.length (T.map fun t => [.rsl sz t.length t])) v := by
  have hrl : ∀ row ∈ T.map (fun t => [AV.rsl sz t.length t]), row.length = 1 := by
    intro row h; obtain ⟨t, _, rfl⟩ := List.mem_map.1 h; rfl
  have hfl : (T.map (fun t => [AV.rsl sz t.length t])).flatten.length = T.length := by rw [flat_len hrl]; simp
  rcases VR.osl_inv hv with ⟨hK, hz, rfl⟩ | ⟨g, cap, cur, e', mm, hK, hnm, rfl, hc, hnc, hm, hcur⟩
  · have : T = [] := List.eq_nil_of_length_eq_zero hz
    subst this
    exact .rsl (cs := []) (by simp) (by simp) (Nat.le_refl _) (fun _ => rfl) (by simp) (by simp) (by simp) (by simp)
  · rcases hs.own o _ (olk_app_l ho) with ⟨k1, _⟩ | ⟨g', k1, cur', hc', hu⟩
    · rw [hK] at k1; cases k1
    rw [hK] at k1
    injection k1 with k1; injection k1 with k1 k2; injection k1 with k1; subst k1
    rw [hc] at hc'
    injection hc' with hc'; injection hc' with h1 h2; subst h1
    have hlen := hl.len
    refine .rsl (cs := us.take T.length) (by simp) hrl hnc (fun h => by cases h) (by rw [hfl]; simp; omega) (fun x hx => ?_) (fun _ => ⟨g, 0, rfl, (Array.getElem?_eq_some_iff.1 hc).1, ?_, fun j x hj => ?_⟩) (fun j u x hj hx => ?_)
    · obtain ⟨j, hj⟩ := List.getElem?_of_mem (List.mem_of_mem_take hx)
      exact (BlkR.lit_at hu (lits_row us) (lits_at.2 hj)).2
    · rintro (⟨i, hi, hk⟩ | ⟨hx1, hx2⟩)
      · rw [olk_delO] at hi
        by_cases hoi : o = i
        · rw [if_pos hoi] at hi; cases hi
        · rw [if_neg hoi] at hi
          obtain ⟨z, hz⟩ := Option.isSome_iff_exists.1 hi
          exact hoi (hs.inj o i g (by simp [olk_app_l ho]) (by simp [olk_app_l hz]) (blkOf_of hK) hk)
      · rcases hs.mine o g (by simp [olk_app_l ho]) (blkOf_of hK) with h | h
        · exact E.hxf g hx1 h
        · omega
    · have hjl : j < T.length := by
        have := (List.getElem?_eq_some_iff.1 hj).1
        simp at this; omega
      rw [List.getElem?_take_of_lt hjl] at hj
      rw [Nat.zero_add]
      show World.cell? w ⟨g, j, none⟩ = some x
      simp only [World.cell?, hc]
      exact (BlkR.lit_at hu (lits_row us) (lits_at.2 hj)).1
    · rw [one_flat hrl] at hj
      have hjl : j < T.length := by have := (List.getElem?_eq_some_iff.1 hj).1; simpa using this
      obtain ⟨t, ht⟩ : ∃ t, T[j]? = some t := ⟨T[j], by simp⟩
      rw [List.getElem?_map, ht] at hj
      injection hj with hj; injection hj with hj; subst hj
      rw [List.getElem?_take_of_lt hjl] at hx
      obtain ⟨v', hv', hvr⟩ := hl j t ht
      rw [hx] at hv'; injection hv' with hv'; subst hv'
      have hb : olk (V ++ fam e sz T) (fid j) = some ⟨e, sz, .pure, t⟩ := by rw [olk_cat, noFid_get hnf j, fam_at, ht]; rfl
      have := hs.freeze (b := fid j) (n := t.length) (blk := ⟨e, sz, .pure, t⟩) hb rfl (VR.osl_id hvr rfl)
      rw [List.take_length] at this
      refine this.sub fun g' _ hX => ?_
      rcases hX with ⟨i, hi, hk⟩ | hX
      · rw [olk_delO] at hi
        by_cases hoi : o = i
        · rw [if_pos hoi] at hi; cases hi
        · rw [if_neg hoi] at hi
          obtain ⟨z, hz⟩ := Option.isSome_iff_exists.1 hi
          have hij : fid j ≠ i := by rintro rfl; rw [noFid_get hnf j] at hz; cases hz
          exact .inl ⟨i, by rw [olk_delO, if_neg hij, olk_app_l hz]; rfl, hk⟩
      · exact .inr hX
/-- the same, in a slot -/
theorem nest_freezeS (hs : SRK E K ⟨fr, V ++ fam e sz T⟩ a w) (hl : LitF w K sz us T) (hnf : noFid V = true) (ho : olk V o = some ⟨eo, 1, .pure, Abs.lits us⟩) {s : Nat} (hsl : lk fr s = .osl o 1 T.length) :
    SRK E K ⟨(s, .rsl 1 T.length (T.map fun t => [.rsl sz t.length t])) :: fr, delO o V⟩ a w := by
  have h' : SRK E K ⟨fr, delO o V⟩ a w := hs.weak (fun _ => .inl rfl) fun b x hb => by
    simp only [olk_delO] at hb
    split at hb
    · cases hb
    · exact olk_app_l hb
  refine ⟨h'.size, h'.defers, h'.ext, fun t => ?_, h'.rows, h'.own, h'.inj, h'.mine, h'.pin⟩
  show FV w _ K _ (lk ((s, _) :: fr) t) _
  rw [lk_cons]
  split
  · rename_i h
    subst h
    have hv := hs.fr s
    rw [show lk (Cfg.fr ⟨fr, V ++ fam e sz T⟩) s = .osl o 1 T.length from hsl] at hv
    exact (nest_freeze hs hl hnf ho hv).any K
  · exact h'.fr t
end
end Go.Abs
