import Derived.Test.YtjpcpnakcapojaaN1
namespace Go.Abs
open Go.RowKit
set_option linter.unusedVariables false
/-! ### a slice of slices of one's own: the inner blocks are a family -/
/-- the id of a family's j-th member -/
def fid (j : Nat) : Nat := 16 * j + 15
theorem fid_inj {i j : Nat} (h : fid i = fid j) : i = j := by unfold fid at h; omega
theorem fid_ble (j : Nat) : Nat.ble 2 (fid j % 16) = true := by
  have : fid j % 16 = 15 := by unfold fid; omega
  rw [this]; rfl
def expF (e sz : Nat) : Nat → List (List (List AV)) → List (Nat × OBlk)
  | _, [] => []
  | i, t :: T => (fid i, ⟨e, sz, .pure, t⟩) :: expF e sz (i + 1) T
theorem expF_at {e sz : Nat} : ∀ (T : List (List (List AV))) (i j : Nat), olk (expF e sz i T) (fid (i + j)) = (T[j]?).map fun t => ⟨e, sz, .pure, t⟩
  | [], i, j => by simp [expF, olk]
  | t :: T, i, 0 => by rw [expF, olk_cons, if_pos (by simp)]; rfl
  | t :: T, i, j + 1 => by
    rw [expF, olk_cons, if_neg (fun h => by have := fid_inj h; omega), show i + (j + 1) = (i + 1) + j by omega, expF_at T (i + 1) j]
    simp
theorem expF_inv {e sz : Nat} : ∀ {T : List (List (List AV))} {i b : Nat} {x : OBlk}, olk (expF e sz i T) b = some x → ∃ j t, b = fid (i + j) ∧ T[j]? = some t ∧ x = ⟨e, sz, .pure, t⟩
  | [], i, b, x, h => by simp [expF, olk] at h
  | t :: T, i, b, x, h => by
    rw [expF, olk_cons] at h
    split at h
    · rename_i he
      injection h with h
      exact ⟨0, t, he.symm, rfl, h.symm⟩
    · obtain ⟨j, t', h1, h2, h3⟩ := expF_inv h
      exact ⟨j + 1, t', by rw [h1]; congr 1; omega, by simpa using h2, h3⟩
abbrev fam (e sz : Nat) (T : List (List (List AV))) : List (Nat × OBlk) := expF e sz 0 T
theorem fam_at {e sz j : Nat} {T : List (List (List AV))} : olk (fam e sz T) (fid j) = (T[j]?).map fun t => ⟨e, sz, .pure, t⟩ := by have := expF_at (e := e) (sz := sz) T 0 j; rwa [Nat.zero_add] at this
theorem fam_inv {e sz b : Nat} {T : List (List (List AV))} {x : OBlk} (h : olk (fam e sz T) b = some x) : ∃ j t, b = fid j ∧ T[j]? = some t ∧ x = ⟨e, sz, .pure, t⟩ := by
  obtain ⟨j, t, h1, h2, h3⟩ := expF_inv h
  exact ⟨j, t, by rw [h1, Nat.zero_add], h2, h3⟩
theorem fam_ok {e sz : Nat} {T : List (List (List AV))} : TailOK (fam e sz T) := by
  intro b x h
  obtain ⟨j, t, rfl, _, rfl⟩ := fam_inv h
  exact ⟨rfl, fid_ble j⟩
theorem del_ok {b : Nat} {Tl : List (Nat × OBlk)} (h : TailOK Tl) : TailOK (delO b Tl) := by
  intro i x hi
  rw [olk_delO] at hi
  split at hi
  · cases hi
  · exact h i x hi
/-- an explicit list without ids of the family -/
def noFid : List (Nat × OBlk) → Bool
  | [] => true
  | (b, _) :: r => !(Nat.beq (b % 16) 15) && noFid r
theorem noFid_get : ∀ {V : List (Nat × OBlk)}, noFid V = true → ∀ j, olk V (fid j) = none
  | [], _, j => rfl
  | (b, x) :: r, h, j => by
    simp only [noFid, Bool.and_eq_true, Bool.not_eq_true'] at h
    rw [olk_cons, if_neg (fun e => ?_), noFid_get h.2 j]
    have := beq_false h.1
    rw [e] at this
    exact this (by unfold fid; omega)
theorem fam_apart {e sz : Nat} {T : List (List (List AV))} {V : List (Nat × OBlk)} (h : noFid V = true) : Apart V (fam e sz T) := by
  intro b x hb
  obtain ⟨j, t, rfl, _, _⟩ := fam_inv hb
  exact noFid_get h j
theorem del_apart {b : Nat} {V Tl : List (Nat × OBlk)} (h : Apart V Tl) : Apart V (delO b Tl) := by
  intro i x hi
  rw [olk_delO] at hi
  split at hi
  · cases hi
  · exact h i x hi
def lits (us : List Value) : List (List AV) := us.map fun v => [.lit v]
theorem lits_len (us : List Value) : (lits us).length = us.length := by simp [lits]
theorem lits_row (us : List Value) : ∀ row ∈ lits us, row.length = 1 := by
  intro row h; obtain ⟨v, _, rfl⟩ := List.mem_map.1 h; rfl
theorem lits_flat : ∀ us : List Value, (lits us).flatten = us.map .lit
  | [] => rfl
  | v :: us => by
    have := lits_flat us
    simp only [lits, List.map_cons, List.flatten_cons] at this ⊢
    rw [this]; rfl
theorem hasRow_lits (b : Nat) : ∀ us : List Value, hasRow b (lits us) = false
  | [] => rfl
  | v :: us => by
    have := hasRow_lits b us
    simp only [lits, List.map_cons, hasRow] at this ⊢
    rw [this]; rfl
theorem hasRow_set {b : Nat} {r : List AV} (hr : AV.hasL b r = false) : ∀ {rows : List (List AV)} (k : Nat), hasRow b rows = false → hasRow b (rows.set k r) = false
  | [], k, _ => rfl
  | x :: xs, 0, h => by
    simp only [hasRow, Bool.or_eq_false_iff] at h
    simp only [List.set_cons_zero, hasRow, hr, h.2, Bool.or_self]
  | x :: xs, k + 1, h => by
    simp only [hasRow, Bool.or_eq_false_iff] at h
    simp only [List.set_cons_succ, hasRow, h.1, hasRow_set hr k h.2, Bool.or_self]
theorem one_flat : ∀ {rows : List (List AV)} {j : Nat} {u : AV}, (∀ row ∈ rows, row.length = 1) → (rows.flatten[j]? = some u ↔ rows[j]? = some [u])
  | [], j, u, _ => by simp
  | [y] :: rows, 0, u, _ => by simp
  | [y] :: rows, j + 1, u, h => by
    have := one_flat (rows := rows) (j := j) (u := u) fun row hr => h row (by simp [hr])
    simpa using this
  | [] :: rows, j, u, h => by have := h [] (by simp); simp at this
  | (y :: z :: r) :: rows, j, u, h => by have := h (y :: z :: r) (by simp); simp at this
theorem set_row {rows : List (List AV)} {u : AV} (h : ∀ row ∈ rows, row.length = 1) (k : Nat) : ∀ row ∈ rows.set k [u], row.length = 1 := by
  intro row hr
  rcases List.mem_or_eq_of_mem_set hr with hr | rfl
  · exact h row hr
  · rfl
/-- the values in the outer slice lead to the family's blocks -/
def LitF (w : World) (K : KM) (sz : Nat) (us : List Value) (T : List (List (List AV))) : Prop :=
  ∀ j t, T[j]? = some t → ∃ v, us[j]? = some v ∧ VR w (fun _ => True) K (.osl (fid j) sz t.length) v
theorem LitF.len {w : World} {K : KM} {sz : Nat} {us : List Value} {T : List (List (List AV))} (h : LitF w K sz us T) : T.length ≤ us.length := by
  rcases Nat.eq_zero_or_pos T.length with h0 | h0
  · omega
  · obtain ⟨t, ht⟩ : ∃ t, T[T.length - 1]? = some t := ⟨T[T.length - 1], by simp⟩
    obtain ⟨v, hv, _⟩ := h _ t ht
    have := (List.getElem?_eq_some_iff.1 hv).1
    omega
theorem LitF.keep {w w' : World} {K K' : KM} {sz : Nat} {us : List Value} {T : List (List (List AV))} {X : Nat → Prop} (h : LitF w K sz us T) (hk : Keep X w w') (hK : ∀ j, K' (fid j) = K (fid j)) : LitF w' K' sz us T := by
  intro j t ht
  obtain ⟨v, hv, h1⟩ := h j t ht
  exact ⟨v, hv, h1.keep (hk.mono fun _ _ _ => trivial) (fun _ _ h => h) fun b hb => by
    simp [AV.has] at hb; subst hb; exact hK j⟩
theorem LitF.left {w w' : World} {K K' : KM} {sz : Nat} {us : List Value} {T : List (List (List AV))} {V : List (Nat × OBlk)} (h : LitF w K sz us T) (hl : Left K V w K' w') : LitF w' K' sz us T := by
  intro j t ht
  obtain ⟨v, hv, h1⟩ := h j t ht
  refine ⟨v, hv, ?_⟩
  have hK : K' (fid j) = K (fid j) := by
    rcases VR.osl_inv h1 with ⟨h2, _⟩ | ⟨g, cap, cur, e, m, h2, _⟩
    · rw [h2]; exact hl.pin _ _ (fid_ble j) h2
    · rw [h2]; exact hl.pin _ _ (fid_ble j) h2
  exact h1.keep (X' := fun _ => True) ⟨hl.size, fun g hg hx => (hx trivial).elim, hl.shape⟩ (fun _ _ h => h) fun b hb => by
    simp [AV.has] at hb; subst hb; exact hK
theorem VR.osl_id {w : World} {X X' : Nat → Prop} {K K' : KM} {b b' sz n : Nat} {v : Value} (h : VR w X K (.osl b sz n) v) (hK : K' b' = K b) : VR w X' K' (.osl b' sz n) v := by
  rcases VR.osl_inv h with ⟨h1, rfl, rfl⟩ | ⟨g, cap, cur, e, m, h1, h2, rfl, h3, h4, h5, h6⟩
  · exact .oslnil (hK.trans h1)
  · exact .osl (hK.trans h1) h2 h3 h4 h5 h6
section
variable {E : Env} {K : KM} {c : Cfg} {a : Act} {w : World} {fr : List (Nat × AV)} {V : List (Nat × OBlk)}
theorem SRK.congrO {O O' : List (Nat × OBlk)} (h : SRK E K ⟨fr, O⟩ a w) (hO : ∀ b, olk O' b = olk O b) : SRK E K ⟨fr, O'⟩ a w :=
  h.weak (fun t => .inl rfl) fun b x hb => by rw [← hO b]; exact hb
/-- a block gets another id, whatever it is -/
theorem SRK.renameAny (h : SRK E K c a w) {b b' : Nat} {blk : OBlk} (hpn : E.pin b' = none) (hb : olk c.O b = some blk) (h1 : olk c.O b' = none) (h2 : ∀ t, (lk c.fr t).has b' = false) (h3 : ∀ i x, olk c.O i = some x → x.kd = .any → hasRow b' x.rows = false) :
    ∃ K', (∀ i, i ≠ b' → K' i = K i) ∧ K' b' = K b ∧ SRK E K' ⟨c.fr, setO b' blk (delO b c.O)⟩ a w := by
  have hne : b ≠ b' := by rintro rfl; rw [hb] at h1; cases h1
  have hlk : ∀ i, olk (setO b' blk (delO b c.O)) i = if b' = i then some blk else if b = i then none else olk c.O i := fun i => by rw [olk_setO, olk_delO]
  obtain ⟨x, hx⟩ : ∃ x, K b = some x := by
    rcases h.own b blk hb with ⟨k, _⟩ | ⟨g, k, _⟩
    · exact ⟨_, k⟩
    · exact ⟨_, k⟩
  have hK : ∀ i, i ≠ b' → upd K b' x i = K i := fun i hi => upd_other _ _ hi
  have hKb : upd K b' x b' = K b := by rw [upd_same, hx]
  have hblk : ∀ i g, (olk (setO b' blk (delO b c.O)) i).isSome = true → blkOf (upd K b' x) i = some g → ∃ i', (olk c.O i').isSome = true ∧ blkOf K i' = some g ∧ ((i = b' ∧ i' = b) ∨ (i ≠ b' ∧ i ≠ b ∧ i' = i)) := by
    intro i g hi hg
    rw [hlk] at hi
    by_cases e : b' = i
    · subst e
      refine ⟨b, by rw [hb]; rfl, ?_, .inl ⟨rfl, rfl⟩⟩
      have : blkOf (upd K b' x) b' = blkOf K b := by unfold blkOf; rw [hKb]
      rw [← this]; exact hg
    · rw [if_neg e] at hi
      by_cases e2 : b = i
      · rw [if_pos e2] at hi; cases hi
      · rw [if_neg e2] at hi
        exact ⟨i, hi, by rw [← upd_blk_other K x (fun e' => e e'.symm)]; exact hg, .inr ⟨fun e' => e e'.symm, fun e' => e2 e'.symm, rfl⟩⟩
  have hX : ∀ g, g < w.heap.size → XX E (upd K b' x) (setO b' blk (delO b c.O)) g → XX E K c.O g := by
    rintro g hg (⟨i, hi, hk⟩ | hX)
    · obtain ⟨i', k1, k2, _⟩ := hblk i g hi hk
      exact .inl ⟨i', k1, k2⟩
    · exact .inr hX
  refine ⟨upd K b' x, hK, hKb, h.size, h.defers, h.ext, fun t => (h.fr t).keep (Keep.refl _ _) hX fun i hi => hK i (by rintro rfl; rw [h2 t] at hi; cases hi), fun i y hi => ?_, fun i y hi => ?_, fun i i' g k1 k2 l1 l2 => ?_, fun i g k1 l1 => ?_, fun i y hy => ?_⟩
  · simp only [hlk] at hi
    by_cases e : b' = i
    · rw [if_pos e] at hi; injection hi with hi; subst hi; exact h.rows b blk hb
    · rw [if_neg e] at hi
      by_cases e2 : b = i
      · rw [if_pos e2] at hi; cases hi
      · rw [if_neg e2] at hi; exact h.rows i y hi
  · simp only [hlk] at hi
    have keepB : ∀ {i y g}, olk c.O i = some y → BlkR w (XX E K c.O) K g y → BlkR w (XX E (upd K b' x) (setO b' blk (delO b c.O))) (upd K b' x) g y := by
      intro i y g hy hB
      refine hB.keep rfl (Keep.refl _ _) hX fun hk j u i' hj hu => hK i' ?_
      rintro rfl
      rw [hasRow_get (h3 i y hy hk) hj] at hu; cases hu
    by_cases e : b' = i
    · rw [if_pos e] at hi; injection hi with hi; subst hi; subst e
      rcases h.own b blk hb with ⟨k1, k2⟩ | ⟨g, k1, k2⟩
      · exact .inl ⟨hKb.trans k1, k2⟩
      · exact .inr ⟨g, hKb.trans k1, keepB hb k2⟩
    · rw [if_neg e] at hi
      by_cases e2 : b = i
      · rw [if_pos e2] at hi; cases hi
      · rw [if_neg e2] at hi
        rcases h.own i y hi with ⟨k1, k2⟩ | ⟨g, k1, k2⟩
        · exact .inl ⟨(hK i fun e' => e e'.symm).trans k1, k2⟩
        · exact .inr ⟨g, (hK i fun e' => e e'.symm).trans k1, keepB hi k2⟩
  · obtain ⟨j, m1, m2, m3⟩ := hblk i g k1 l1
    obtain ⟨j', n1, n2, n3⟩ := hblk i' g k2 l2
    have := h.inj j j' g m1 n1 m2 n2
    rcases m3 with ⟨rfl, rfl⟩ | ⟨m4, m5, rfl⟩ <;> rcases n3 with ⟨rfl, rfl⟩ | ⟨n4, n5, rfl⟩
    · rfl
    · exact absurd this.symm n5
    · exact absurd this m5
    · exact this
  · obtain ⟨j, m1, m2, _⟩ := hblk i g k1 l1
    exact h.mine j g m1 m2
  · rw [hK i (by rintro rfl; rw [hpn] at hy; cases hy)]
    exact h.pin i y hy
end
end Go.Abs
namespace Go.Abs
open Go.RowKit
set_option linter.unusedVariables false
section
variable {E : Env} {K : KM} {c : Cfg} {a : Act} {w : World} {fr : List (Nat × AV)} {V : List (Nat × OBlk)} {e sz eo o : Nat} {us : List Value} {T : List (List (List AV))}
/-- a block's entry is said anew -/
theorem SRK.recast {b : Nat} {blk blk0 : OBlk} (h : SRK E K c a w) (hb : olk c.O b = some blk0) (hne : blk0.rows ≠ []) (hlen : blk.rows.length = blk0.rows.length) (hrows : ∀ row ∈ blk.rows, row.length = blk.sz)
    (hblk : ∀ g, blkOf K b = some g → BlkR w (XX E K c.O) K g blk0 → BlkR w (XX E K c.O) K g blk) : SRK E K ⟨c.fr, setO b blk c.O⟩ a w := by
  rcases h.own b blk0 hb with ⟨_, h2⟩ | ⟨g, h1, h2⟩
  · exact absurd h2 hne
  · exact h.write hb (blkOf_of h1) hlen (Step.refl _ _) hrows (hblk g (blkOf_of h1) h2)
theorem BlkR.lit_at {X : Nat → Prop} {rows : List (List AV)} {kd : Kd} {cur : Array Value} {j : Nat} {v : Value} (hu : ∀ (j : Nat) u, rows.flatten[j]? = some u → ∃ c, cur[j]? = some c ∧ c.oneCell' = true ∧ VR w (KdX kd X) (KdK kd K) u c)
    (hr : ∀ row ∈ rows, row.length = 1) (hj : rows[j]? = some [.lit v]) : cur[j]? = some v ∧ v.oneCell' = true := by
  obtain ⟨x, hx, h1, hv⟩ := hu j _ ((one_flat hr).2 hj)
  have : x = v := by cases hv; rfl
  subst this
  exact ⟨hx, h1⟩
theorem lits_at {k : Nat} {v : Value} : (lits us)[k]? = some [.lit v] ↔ us[k]? = some v := by
  simp [lits]
/-- one member of the family is taken out, under an id of one's choice -/
theorem nest_open (hs : SRK E K ⟨fr, V ++ fam e sz T⟩ a w) (hl : LitF w K sz us T) (hnf : noFid V = true) (ho : olk V o = some ⟨eo, 1, .pure, lits us⟩) {x k : Nat} {t : List (List AV)} (hx : olk V x = none) (hpx : E.pin x = none) (hxf : x % 16 ≠ 15)
    (hfx : ∀ s, (lk fr s).has x = false) (hVx : ∀ i y, olk V i = some y → y.kd = .any → hasRow x y.rows = false) (ht : T[k]? = some t) :
    ∃ K', SRK E K' ⟨fr, (x, ⟨e, sz, .pure, t⟩) :: setO o ⟨eo, 1, .any, (lits us).set k [.osl x sz t.length]⟩ V ++ delO (fid k) (fam e sz T)⟩ a w ∧ LitF w K' sz us T ∧ ∀ i, i ≠ x → K' i = K i := by
  have hxj : ∀ j, x ≠ fid j := fun j h => hxf (by rw [h]; unfold fid; omega)
  have hb : olk (V ++ fam e sz T) (fid k) = some ⟨e, sz, .pure, t⟩ := by rw [olk_cat, noFid_get hnf k, fam_at, ht]; rfl
  have hxn : olk (V ++ fam e sz T) x = none := by
    cases h : olk (V ++ fam e sz T) x with
    | none => rfl
    | some y =>
      rcases olk_app_inv h with h | ⟨_, h⟩
      · rw [hx] at h; cases h
      · obtain ⟨j, _, h1, _⟩ := fam_inv h; exact absurd h1 (hxj j)
  obtain ⟨K', hK, hKx, hs1⟩ := hs.renameAny hpx hb hxn hfx fun i y hi hk => by
    rcases olk_app_inv hi with h | ⟨_, h⟩
    · exact hVx i y h hk
    · obtain ⟨_, _, _, _, rfl⟩ := fam_inv h; cases hk
  have hox : o ≠ x := by rintro rfl; rw [hx] at ho; cases ho
  have hof : ∀ j, fid j ≠ o := by rintro j rfl; rw [noFid_get hnf j] at ho; cases ho
  have ho1 : olk (setO x ⟨e, sz, .pure, t⟩ (delO (fid k) (V ++ fam e sz T))) o = some ⟨eo, 1, .pure, lits us⟩ := by
    rw [olk_setO, if_neg (fun h => hox h.symm), olk_delO, if_neg (hof k), olk_cat, ho]; rfl
  obtain ⟨v, hv, hvr⟩ := hl k t ht
  have hkl : k < us.length := (List.getElem?_eq_some_iff.1 hv).1
  have hne : lits us ≠ [] := by
    intro h
    have := congrArg List.length h
    rw [lits_len, List.length_nil] at this
    omega
  have hs2 := hs1.recast (blk := ⟨eo, 1, .any, (lits us).set k [.osl x sz t.length]⟩) ho1 hne (by simp) (set_row (lits_row us) k) fun g _ hB => by
    obtain ⟨cur, hc, hu⟩ := hB
    refine ⟨cur, hc, fun j u hj => ?_⟩
    rw [one_flat (set_row (lits_row us) k)] at hj
    by_cases hjk : k = j
    · subst hjk
      rw [List.getElem?_set_self (by rw [lits_len]; exact hkl)] at hj
      injection hj with hj; injection hj with hj; subst hj
      obtain ⟨h1, h2⟩ := BlkR.lit_at hu (lits_row us) (lits_at.2 hv)
      exact ⟨v, h1, h2, hvr.osl_id hKx⟩
    · rw [List.getElem?_set_ne hjk] at hj
      obtain ⟨y, hy, h1, h2⟩ := hu j u ((one_flat (lits_row us)).2 hj)
      refine ⟨y, hy, h1, ?_⟩
      have : ∃ v', u = .lit v' := by
        have := List.mem_of_getElem? hj
        obtain ⟨v', _, h⟩ := List.mem_map.1 this
        injection h with h; exact ⟨v', h.symm⟩
      obtain ⟨v', rfl⟩ := this
      cases h2
      exact .lit
  refine ⟨K', hs2.congrO fun b => ?_, fun j t' hj => ?_, hK⟩
  · rw [List.cons_append, olk_cons, olk_setO, olk_setO, olk_delO, olk_cat, olk_cat, olk_setO, olk_delO]
    by_cases h1 : x = b
    · subst h1
      rw [if_pos rfl, if_neg hox, if_pos rfl]
    · rw [if_neg h1]
      by_cases h2 : o = b
      · subst h2; rw [if_pos rfl, if_pos rfl]; rfl
      · rw [if_neg h2, if_neg h2, if_neg h1]
        by_cases h3 : fid k = b
        · subst h3; rw [if_pos rfl, if_pos rfl, noFid_get hnf k]; rfl
        · rw [if_neg h3, if_neg h3]
  · obtain ⟨v', h1, h2⟩ := hl j t' hj
    exact ⟨v', h1, h2.osl_id (hK _ (fun h => hxj j h.symm))⟩
/-- a member comes back (k < length), or is a new one (k = length) -/
theorem nest_close {y k : Nat} {t' : List (List AV)} {rows : List (List AV)} {us' : List Value} {T' : List (List (List AV))} {Tl : List (Nat × OBlk)}
    (hs : SRK E K ⟨fr, V ++ Tl⟩ a w) (hnf : noFid V = true) (hTl : ∀ b, olk Tl b = if fid k = b then none else olk (fam e sz T') b) (hTk : T'[k]? = some t')
    (hl : ∀ j t, j ≠ k → T'[j]? = some t → ∃ v, us'[j]? = some v ∧ VR w (fun _ => True) K (.osl (fid j) sz t.length) v)
    (ho : olk V o = some ⟨eo, 1, .any, rows⟩) (hy : olk V y = some ⟨e, sz, .pure, t'⟩) (hoy : o ≠ y) (hr : rows.length = us'.length) (hrk : rows[k]? = some [.osl y sz t'.length]) (hrj : ∀ j, j ≠ k → rows[j]? = (lits us')[j]?)
    (hpx : E.pin (fid k) = none) (hfx : ∀ s, (lk fr s).has (fid k) = false) (hVx : ∀ i z, olk V i = some z → i ≠ o → z.kd = .any → hasRow (fid k) z.rows = false) (hyf : y % 16 ≠ 15) :
    ∃ K' v', SRK E K' ⟨fr, setO o ⟨eo, 1, .pure, lits (us'.set k v')⟩ (delO y V) ++ fam e sz T'⟩ a w ∧ LitF w K' sz (us'.set k v') T' ∧ ∀ i, i ≠ fid k → K' i = K i := by
  have hyj : ∀ j, y ≠ fid j := fun j h => hyf (by rw [h]; unfold fid; omega)
  have hkl : k < rows.length := (List.getElem?_eq_some_iff.1 hrk).1
  have hrows : ∀ row ∈ rows, row.length = 1 := hs.rows o _ (olk_app_l ho)
  have hhas : hasRow (fid k) rows = false := by
    have key : ∀ (rs : List (List AV)), (∀ row ∈ rs, AV.hasL (fid k) row = false) → hasRow (fid k) rs = false := by
      intro rs
      induction rs with
      | nil => intro _; rfl
      | cons r rs ih => intro h; simp only [hasRow, h r (by simp), ih fun row hr => h row (by simp [hr]), Bool.or_self]
    refine key rows fun row hrow => ?_
    obtain ⟨j, hj⟩ := List.getElem?_of_mem hrow
    by_cases hjk : j = k
    · subst hjk
      rw [hrk] at hj; injection hj with hj; subst hj
      simp only [AV.hasL, AV.has, Bool.or_false]
      simp; exact hyj j
    · rw [hrj j hjk] at hj
      obtain ⟨v, _, h⟩ := List.mem_map.1 (List.mem_of_getElem? hj)
      subst h; rfl
  have hfn : olk (V ++ Tl) (fid k) = none := by rw [olk_cat, noFid_get hnf k, hTl, if_pos rfl]; rfl
  obtain ⟨K', hK, hKx, hs1⟩ := hs.renameAny (b := y) hpx (olk_app_l hy) hfn hfx fun i z hi hk => by
    rcases olk_app_inv hi with h | ⟨_, h⟩
    · by_cases hio : i = o
      · subst hio; rw [ho] at h; injection h with h; subst h; exact hhas
      · exact hVx i z h hio hk
    · rw [hTl] at h
      split at h
      · cases h
      · obtain ⟨_, _, _, _, rfl⟩ := fam_inv h; cases hk
  have hof : ∀ j, fid j ≠ o := by rintro j rfl; rw [noFid_get hnf j] at ho; cases ho
  have ho1 : olk (setO (fid k) ⟨e, sz, .pure, t'⟩ (delO y (V ++ Tl))) o = some ⟨eo, 1, .any, rows⟩ := by
    rw [olk_setO, if_neg (hof k), olk_delO, if_neg (fun h => hoy h.symm), olk_cat, ho]; rfl
  have hne : rows ≠ [] := by rintro rfl; simp at hkl
  rcases hs1.own o _ ho1 with ⟨_, h2⟩ | ⟨g, hg1, cur, hc, hu⟩
  · exact absurd h2 hne
  obtain ⟨v', hv', hone, hvr⟩ := hu k _ ((one_flat hrows).2 hrk)
  have hlu : (lits (us'.set k v')).length = rows.length := by rw [lits_len, List.length_set, hr]
  have hs2 := hs1.recast (blk := ⟨eo, 1, .pure, lits (us'.set k v')⟩) ho1 hne hlu (lits_row _) fun g' hg' hB => by
    rw [blkOf_of hg1] at hg'
    injection hg' with hg'
    subst hg'
    refine ⟨cur, hc, fun j u hj => ?_⟩
    rw [one_flat (lits_row _)] at hj
    by_cases hjk : k = j
    · subst hjk
      have h1 : (us'.set k v')[k]? = some v' := by rw [List.getElem?_set_self (by omega)]
      rw [lits_at.2 h1] at hj
      injection hj with hj; injection hj with hj; subst hj
      exact ⟨v', hv', hone, .lit⟩
    · have hj2 : (lits us')[j]? = some [u] := by
        rw [← hj]
        unfold lits
        rw [List.getElem?_map, List.getElem?_map, List.getElem?_set_ne hjk]
      obtain ⟨z, hz, hz1, hz2⟩ := hu j u ((one_flat hrows).2 (by rw [hrj j (fun h => hjk h.symm)]; exact hj2))
      obtain ⟨v2, _, h⟩ := List.mem_map.1 (List.mem_of_getElem? hj2)
      injection h with h; subst h
      cases hz2
      exact ⟨_, hz, hz1, .lit⟩
  refine ⟨K', v', hs2.congrO fun b => ?_, fun j t hj => ?_, hK⟩
  · show olk (setO o ⟨eo, 1, .pure, lits (us'.set k v')⟩ (delO y V) ++ fam e sz T') b = olk (setO o ⟨eo, 1, .pure, lits (us'.set k v')⟩ (setO (fid k) ⟨e, sz, .pure, t'⟩ (delO y (V ++ Tl)))) b
    rw [olk_cat, olk_setO, olk_delO, olk_setO, olk_setO, olk_delO, olk_cat, hTl]
    by_cases h2 : o = b
    · subst h2; rw [if_pos rfl, if_pos rfl]; rfl
    · rw [if_neg h2, if_neg h2]
      by_cases h3 : fid k = b
      · subst h3
        rw [if_pos rfl, fam_at, hTk]
        by_cases h4 : y = fid k
        · rw [if_pos h4]; rfl
        · rw [if_neg h4, noFid_get hnf k]; rfl
      · rw [if_neg h3, if_neg h3]
        by_cases h4 : y = b
        · subst h4
          rw [if_pos rfl, if_pos rfl]
          cases hq : olk (fam e sz T') y with
          | none => rfl
          | some z => obtain ⟨j, _, h, _⟩ := fam_inv hq; exact absurd h (hyj j)
        · rw [if_neg h4, if_neg h4]
  · by_cases hjk : j = k
    · subst hjk
      rw [hTk] at hj
      injection hj with hj; subst hj
      refine ⟨v', by rw [List.getElem?_set_self (by omega)], VR.osl_id (K := K') hvr (hKx.trans (hK y (hyj _)).symm)⟩
    · obtain ⟨v2, h1, h2⟩ := hl j t hjk hj
      refine ⟨v2, by rw [List.getElem?_set_ne (fun h => hjk h.symm)]; exact h1, h2.osl_id (hK _ (fun h => hjk (fid_inj h)))⟩
end
end Go.Abs
namespace Go.Abs
open Go.RowKit
set_option linter.unusedVariables false
section
variable {E : Env} {K : KM} {c : Cfg} {a : Act} {w : World} {fr : List (Nat × AV)} {V : List (Nat × OBlk)} {e sz eo o : Nat} {us : List Value} {T : List (List (List AV))}
/-- an id without a block: the nil slice stands for it -/
theorem SRK.rebindNilAny {b : Nat} {blk : OBlk} (h : SRK E K c a w) (hpn : E.pin b = none)
    (hfr : ∀ t, (lk c.fr t).has b = false) (hO : ∀ i x, olk c.O i = some x → i ≠ b → x.kd = .any → hasRow b x.rows = false)
    (hrows : blk.rows = []) : SRK E (upd K b (none, 0)) ⟨c.fr, setO b blk c.O⟩ a w := by
  have hX : ∀ r, r < w.heap.size → XX E (upd K b (none, 0)) (setO b blk c.O) r → XX E K c.O r := by
    rintro r hr (⟨i, hi, hk⟩ | hx)
    · by_cases e : i = b
      · subst e; rw [upd_blk_nil] at hk; cases hk
      · rw [upd_blk_other _ _ e] at hk
        rw [olk_setO, if_neg (fun e' => e e'.symm)] at hi
        exact .inl ⟨i, hi, hk⟩
    · exact .inr hx
  refine ⟨h.size, h.defers, h.ext, fun t => (h.fr t).keep (Keep.refl _ _) hX fun i hi => ?_, fun i x hi => ?_, fun i x hi => ?_, fun i i' r h1 h2 k1 k2 => ?_, fun i r h1 k1 => ?_, fun i y hy => ?_⟩
  · by_cases e : i = b
    · subst e; rw [hfr t] at hi; cases hi
    · exact upd_other _ _ e
  · simp only [olk_setO] at hi
    by_cases e : b = i
    · rw [if_pos e] at hi; injection hi with hi; subst hi; rw [hrows]; simp
    · rw [if_neg e] at hi; exact h.rows i x hi
  · simp only [olk_setO] at hi
    by_cases e : b = i
    · rw [if_pos e] at hi; injection hi with hi; subst hi; subst e
      exact .inl ⟨upd_same _ _ _, hrows⟩
    · rw [if_neg e] at hi
      rcases h.own i x hi with ⟨h1, h2⟩ | ⟨r, h1, h2⟩
      · exact .inl ⟨by rw [upd_other _ _ (fun e' => e e'.symm)]; exact h1, h2⟩
      · refine .inr ⟨r, by rw [upd_other _ _ (fun e' => e e'.symm)]; exact h1, h2.keep rfl (Keep.refl _ _) hX fun hk j u b' hj hu => ?_⟩
        by_cases e' : b' = b
        · subst e'
          rw [hasRow_get (hO i x hi (fun e'' => e e''.symm) hk) hj] at hu; cases hu
        · exact upd_other _ _ e'
  · simp only [olk_setO] at h1 h2
    have e : i ≠ b := by rintro rfl; rw [upd_blk_nil] at k1; cases k1
    have e' : i' ≠ b := by rintro rfl; rw [upd_blk_nil] at k2; cases k2
    rw [upd_blk_other _ _ e] at k1
    rw [upd_blk_other _ _ e'] at k2
    rw [if_neg (fun e'' => e e''.symm)] at h1
    rw [if_neg (fun e'' => e' e''.symm)] at h2
    exact h.inj i i' r h1 h2 k1 k2
  · simp only [olk_setO] at h1
    have e : i ≠ b := by rintro rfl; rw [upd_blk_nil] at k1; cases k1
    rw [upd_blk_other _ _ e] at k1
    rw [if_neg (fun e'' => e e''.symm)] at h1
    exact h.mine i r h1 k1
  · rw [upd_other _ _ (by rintro rfl; rw [hpn] at hy; cases hy)]
    exact h.pin i y hy
def nilS : Value := .slice none 0 0
/-- a further member of the family, the nil slice -/
theorem nest_nil (hs : SRK E K ⟨fr, V ++ fam e sz T⟩ a w) (hl : LitF w K sz us T) (hnf : noFid V = true) (hpx : E.pin (fid T.length) = none) (hfx : ∀ s, (lk fr s).has (fid T.length) = false)
    (hVx : ∀ i y, olk V i = some y → y.kd = .any → hasRow (fid T.length) y.rows = false) (hus : us[T.length]? = some nilS) :
    ∃ K', SRK E K' ⟨fr, V ++ fam e sz (T ++ [[]])⟩ a w ∧ LitF w K' sz us (T ++ [[]]) ∧ ∀ i, i ≠ fid T.length → K' i = K i := by
  have hs1 := hs.rebindNilAny (blk := ⟨e, sz, .pure, []⟩) hpx hfx (fun i y hi _ hk => by
    rcases olk_app_inv hi with h | ⟨_, h⟩
    · exact hVx i y h hk
    · obtain ⟨_, _, _, _, rfl⟩ := fam_inv h; cases hk) rfl
  refine ⟨_, hs1.congrO fun b => ?_, fun j t hj => ?_, fun i hi => upd_other _ _ hi⟩
  · rw [olk_setO, olk_cat, olk_cat]
    by_cases h : fid T.length = b
    · subst h
      rw [if_pos rfl, noFid_get hnf, fam_at]
      simp
    · rw [if_neg h]
      congr 1
      cases hq : olk (fam e sz T) b with
      | some x =>
        obtain ⟨j, t, rfl, h1, rfl⟩ := fam_inv hq
        rw [fam_at, List.getElem?_append_left (List.getElem?_eq_some_iff.1 h1).1, h1]; rfl
      | none =>
        cases hq2 : olk (fam e sz (T ++ [[]])) b with
        | none => rfl
        | some x =>
          obtain ⟨j, t, rfl, h1, rfl⟩ := fam_inv hq2
          have hjl := (List.getElem?_eq_some_iff.1 h1).1
          rw [List.length_append] at hjl
          simp only [List.length_cons, List.length_nil] at hjl
          have hne : j ≠ T.length := fun e => h (by rw [e])
          rw [List.getElem?_append_left (by omega)] at h1
          rw [fam_at, h1] at hq; cases hq
  · by_cases hjm : j = T.length
    · subst hjm
      rw [List.getElem?_append_right (Nat.le_refl _), Nat.sub_self] at hj
      injection hj with hj; subst hj
      exact ⟨nilS, hus, .oslnil (upd_same _ _ _)⟩
    · have hjl := (List.getElem?_eq_some_iff.1 hj).1
      rw [List.length_append] at hjl
      simp only [List.length_cons, List.length_nil] at hjl
      rw [List.getElem?_append_left (by omega)] at hj
      obtain ⟨v, h1, h2⟩ := hl j t hj
      exact ⟨v, h1, h2.osl_id (upd_other _ _ fun h => hjm (fid_inj h))⟩
/-- a row of the nil slice is a literal -/
def toLit : List AV → Value
  | [.lit v] => v
  | _ => nilS
def litOrNil : List AV → Bool
  | [.lit _] => true
  | [.nilsl] => true
  | _ => false
theorem SRK.lits {O : List (Nat × OBlk)} {rows : List (List AV)} (hs : SRK E K ⟨fr, O⟩ a w) (ho : olk O o = some ⟨eo, 1, .pure, rows⟩) (hr : ∀ row ∈ rows, litOrNil row = true) : SRK E K ⟨fr, setO o ⟨eo, 1, .pure, lits (rows.map toLit)⟩ O⟩ a w := by
  by_cases hne : rows = []
  · subst hne
    refine hs.congrO fun b => ?_
    rw [olk_setO]
    split
    · rename_i h; subst h; exact ho.symm
    · rfl
  · refine hs.recast ho hne (by simp [Abs.lits]) (lits_row _) fun g _ hB => ?_
    obtain ⟨cur, hc, hu⟩ := hB
    have hrows : ∀ row ∈ rows, row.length = 1 := hs.rows o _ ho
    refine ⟨cur, hc, fun j u hj => ?_⟩
    rw [one_flat (lits_row _)] at hj
    have hjl : j < rows.length := by
      have := (List.getElem?_eq_some_iff.1 hj).1
      rw [lits_len, List.length_map] at this; exact this
    obtain ⟨row, hrow⟩ : ∃ row, rows[j]? = some row := ⟨rows[j], by simp⟩
    have hm := hr row (List.mem_of_getElem? hrow)
    rw [lits_at.2 (show (rows.map toLit)[j]? = some (toLit row) by simp [hrow])] at hj
    injection hj with hj; injection hj with hj; subst hj
    unfold litOrNil at hm
    split at hm
    · rename_i v
      obtain ⟨z, hz, h1, h2⟩ := hu j _ ((one_flat hrows).2 hrow)
      cases h2
      exact ⟨_, hz, h1, .lit⟩
    · obtain ⟨z, hz, h1, h2⟩ := hu j _ ((one_flat hrows).2 hrow)
      have := VR.nilsl_inv h2
      subst this
      exact ⟨_, hz, h1, .lit⟩
    · cases hm
/-- the whole is written no more: a reading -/
theorem nest_freeze (hs : SRK E K ⟨fr, V ++ fam e sz T⟩ a w) (hl : LitF w K sz us T) (hnf : noFid V = true) (ho : olk V o = some ⟨eo, 1, .pure, Abs.lits us⟩) {X : Nat → Prop} {v : Value} (hv : VR w X K (.osl o 1 T.length) v) :
    VR w (XX E K (delO o V)) K0 (.rsl 1 T.length (T.map fun t => [.rsl sz t.length t])) v := by
  have hrl : ∀ row ∈ T.map (fun t => [AV.rsl sz t.length t]), row.length = 1 := by
    intro row h; obtain ⟨t, _, rfl⟩ := List.mem_map.1 h; rfl
  have hfl : (T.map (fun t => [AV.rsl sz t.length t])).flatten.length = T.length := by rw [flat_len hrl]; simp
  rcases VR.osl_inv hv with ⟨hK, hz, rfl⟩ | ⟨g, cap, cur, e', mm, hK, hnm, rfl, hc, hnc, hm, hcur⟩
  · have : T = [] := List.eq_nil_of_length_eq_zero hz
    subst this
    exact .rsl (cs := []) (by simp) (by simp) (Nat.le_refl _) (fun _ => rfl) (by simp) (by simp) (by simp) (by simp)
  · rcases hs.own o _ (olk_app_l ho) with ⟨k1, _⟩ | ⟨g', k1, cur', hc', hu⟩
    · rw [hK] at k1; cases k1
    rw [hK] at k1
    injection k1 with k1; injection k1 with k1 k2; injection k1 with k1; subst k1
    rw [hc] at hc'
    injection hc' with hc'; injection hc' with h1 h2; subst h1
    have hlen := hl.len
    refine .rsl (cs := us.take T.length) (by simp) hrl hnc (fun h => by cases h) (by rw [hfl]; simp; omega) (fun x hx => ?_) (fun _ => ⟨g, 0, rfl, (Array.getElem?_eq_some_iff.1 hc).1, ?_, fun j x hj => ?_⟩) (fun j u x hj hx => ?_)
    · obtain ⟨j, hj⟩ := List.getElem?_of_mem (List.mem_of_mem_take hx)
      exact (BlkR.lit_at hu (lits_row us) (lits_at.2 hj)).2
    · rintro (⟨i, hi, hk⟩ | ⟨hx1, hx2⟩)
      · rw [olk_delO] at hi
        by_cases hoi : o = i
        · rw [if_pos hoi] at hi; cases hi
        · rw [if_neg hoi] at hi
          obtain ⟨z, hz⟩ := Option.isSome_iff_exists.1 hi
          exact hoi (hs.inj o i g (by simp [olk_app_l ho]) (by simp [olk_app_l hz]) (blkOf_of hK) hk)
      · rcases hs.mine o g (by simp [olk_app_l ho]) (blkOf_of hK) with h | h
        · exact E.hxf g hx1 h
        · omega
    · have hjl : j < T.length := by
        have := (List.getElem?_eq_some_iff.1 hj).1
        simp at this; omega
      rw [List.getElem?_take_of_lt hjl] at hj
      rw [Nat.zero_add]
      show World.cell? w ⟨g, j, none⟩ = some x
      simp only [World.cell?, hc]
      exact (BlkR.lit_at hu (lits_row us) (lits_at.2 hj)).1
    · rw [one_flat hrl] at hj
      have hjl : j < T.length := by have := (List.getElem?_eq_some_iff.1 hj).1; simpa using this
      obtain ⟨t, ht⟩ : ∃ t, T[j]? = some t := ⟨T[j], by simp⟩
      rw [List.getElem?_map, ht] at hj
      injection hj with hj; injection hj with hj; subst hj
      rw [List.getElem?_take_of_lt hjl] at hx
      obtain ⟨v', hv', hvr⟩ := hl j t ht
      rw [hx] at hv'; injection hv' with hv'; subst hv'
      have hb : olk (V ++ fam e sz T) (fid j) = some ⟨e, sz, .pure, t⟩ := by rw [olk_cat, noFid_get hnf j, fam_at, ht]; rfl
      have := hs.freeze (b := fid j) (n := t.length) (blk := ⟨e, sz, .pure, t⟩) hb rfl (VR.osl_id hvr rfl)
      rw [List.take_length] at this
      refine this.sub fun g' _ hX => ?_
      rcases hX with ⟨i, hi, hk⟩ | hX
      · rw [olk_delO] at hi
        by_cases hoi : o = i
        · rw [if_pos hoi] at hi; cases hi
        · rw [if_neg hoi] at hi
          obtain ⟨z, hz⟩ := Option.isSome_iff_exists.1 hi
          have hij : fid j ≠ i := by rintro rfl; rw [noFid_get hnf j] at hz; cases hz
          exact .inl ⟨i, by rw [olk_delO, if_neg hij, olk_app_l hz]; rfl, hk⟩
      · exact .inr hX
/-- the same, in a slot -/
theorem nest_freezeS (hs : SRK E K ⟨fr, V ++ fam e sz T⟩ a w) (hl : LitF w K sz us T) (hnf : noFid V = true) (ho : olk V o = some ⟨eo, 1, .pure, Abs.lits us⟩) {s : Nat} (hsl : lk fr s = .osl o 1 T.length) :
    SRK E K ⟨(s, .rsl 1 T.length (T.map fun t => [.rsl sz t.length t])) :: fr, delO o V⟩ a w := by
  have h' : SRK E K ⟨fr, delO o V⟩ a w := hs.weak (fun _ => .inl rfl) fun b x hb => by
    simp only [olk_delO] at hb
    split at hb
    · cases hb
    · exact olk_app_l hb
  refine ⟨h'.size, h'.defers, h'.ext, fun t => ?_, h'.rows, h'.own, h'.inj, h'.mine, h'.pin⟩
  show FV w _ K _ (lk ((s, _) :: fr) t) _
  rw [lk_cons]
  split
  · rename_i h
    subst h
    have hv := hs.fr s
    rw [show lk (Cfg.fr ⟨fr, V ++ fam e sz T⟩) s = .osl o 1 T.length from hsl] at hv
    exact (nest_freeze hs hl hnf ho hv).any K
  · exact h'.fr t
end
end Go.Abs
namespace Go.Abs
open Go.RowKit
set_option linter.unusedVariables false
section
variable {P : Program} {N : Nat}
/-- how a body ends -/
def EndW (T : Tab) (rv : List ResultVar) (r : AV) (E : Env) : Exit → Act → World → Prop := fun e a w => (e = .normal ∨ e = .ret) ∧ ∃ K c, SRK E K c a w ∧ retR T c rv r
/-- the rule of a function, from its body's run -/
theorem fn_ofW {T : Tab} {f : FuncId} {fn : Func} {code : Code} {args : List AV} {r : AV} (rv : List ResultVar) (hT : TabOK P T)
    (hf : P.funcs[f]? = some fn) (hb : fn.body = some code) (hname : (fn.name == "runtime.NumGoroutine") = false) (hn : Nat.ble args.length fn.ntmps = true) (hN : fn.ntmps = N)
    (hr : fn.results.toList = rv) (h : ∀ (E : Env) (K : KM) (a : Act) (w : World), E.N = N → (∀ b, E.pin b = none) → SRK E K ⟨idx 0 args, []⟩ a w → code.wp P (EndW T rv r E) a w) : Fn P f args r := by
  refine ⟨⟨fn, hf, hname, by rw [hb]; rfl⟩, fun X w vs hwi hlen hargs => ?_⟩
  refine calls_of_wp hf hb ?_
  have hn' := Nat.le_of_ble_eq_true hn
  subst hN
  refine wp_mono (h (Env0 (fun _ => False) X w fn.ntmps (fun w' hx => hwi.mono hx.size fun g hg => hx.block g hg id)) K0 _ _ rfl (fun _ => rfl) ?_) ?_
  · refine ⟨by simp; omega, rfl, ⟨rfl, rfl, rfl, Nat.le_refl _, fun _ _ _ => rfl, fun _ cur _ h => ⟨cur, h, rfl⟩⟩, fun t => ?_, fun b blk hb => by simp [olk] at hb, fun b blk hb => by simp [olk] at hb, fun b b' g hb => by simp [olk] at hb, fun b g hb => by simp [olk] at hb, fun b x hx => by cases hx⟩
    simp only [lk_idx, Nat.zero_le, if_true, Nat.sub_zero]
    cases hu : args[t]? with
    | none => rw [List.getD_eq_getElem?_getD, hu]; exact FV.top
    | some u =>
      rw [List.getD_eq_getElem?_getD, hu]
      have ht : t < vs.size := by rw [← hlen]; exact (List.getElem?_eq_some_iff.1 hu).1
      have hv : vs[t]? = some vs[t] := by simp [ht]
      have := hargs t u _ hu hv
      rw [show (vs ++ Array.replicate (fn.ntmps - vs.size) undef).getD t undef = vs[t] by
        rw [Array.getD_eq_getD_getElem?, Array.getElem?_append_left ht, hv]; rfl]
      refine FV.of (this.sub fun g hg hX => ?_)
      rcases hX with ⟨b, hb, _⟩ | hX
      · simp [olk] at hb
      · exact hX.1.1
  · rintro e a w' ⟨he, K, c, hs, hq⟩
    have key : a.defers = [] ∧ ∃ v, (results fn a.tmps).run P w' = .ok v w' ∧ ∃ v', Ending.returned v = .returned v' ∧ RR w' w.heap.size (fun g => X g ∧ g < w.heap.size) r v' ∧ Below w.heap.size w w' := by
      obtain ⟨vs, hl, ht, hR⟩ := retR_sound hT hs hq
      refine ⟨hs.defers, _, results_run hr _ _ hl ht, _, rfl, hR, ?_⟩
      exact ⟨hs.ext.os, hs.ext.tape, hs.ext.output, hs.ext.size, fun k hk => hs.ext.block k hk (fun h => h)⟩
    rcases he with rfl | rfl
    · exact key
    · exact key
/-- the nil slice as a reading without rows -/
theorem fn_nil_rsl {f : FuncId} {us : List AV} {xs : List AV} {sz : Nat} (h : Fn P f us (.tup (.nilsl :: xs))) : Fn P f us (.tup (.rsl sz 0 [] :: xs)) := by
  refine ⟨h.1, fun X w vs hw hl ha => (h.2 X w vs hw hl ha).mono ?_⟩
  rintro e w' ⟨v, rfl, ⟨ws, rfl, h1, ⟨c, h2, h3⟩, h4⟩, hb⟩
  refine ⟨_, rfl, ⟨ws, rfl, h1, ⟨c, h2, ?_⟩, h4⟩, hb⟩
  have : c = .slice none 0 0 := VR.nilsl_inv h3
  subst this
  exact VR.rsl (cs := []) (by simp) (by simp) (Nat.le_refl _) (fun _ => rfl) (by simp) (by simp) (by simp) (by simp)
end
theorem SRK.only {E : Env} {K : KM} {c : Cfg} {a : Act} {w : World} (h : SRK E K c a w) (ks ids : List Nat) : SRK E K (c.only ks ids) a w :=
  h.weak (fun t => lk_keep c.fr ks t) fun b x hb => olk_keep c.O ids b x hb
/-- some slots and blocks alone, beside a family -/
theorem SRK.onlyT {E : Env} {K : KM} {fr : List (Nat × AV)} {V Tl : List (Nat × OBlk)} {a : Act} {w : World} (h : SRK E K ⟨fr, V ++ Tl⟩ a w) (hap : Apart V Tl) (ks ids : List Nat) : SRK E K ⟨keepF fr ks, keepO V ids ++ Tl⟩ a w :=
  h.weak (fun t => lk_keep fr ks t) fun b x hb => by
    rcases olk_app_inv hb with hb | ⟨_, hb⟩
    · exact olk_app_l (olk_keep V ids b x hb)
    · rw [olk_app_r (hap b x hb)]; exact hb
end Go.Abs
