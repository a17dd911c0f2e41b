import Derived.Test.YtnmpnlhlbjemeaaFrz
namespace Go.Abs
open Go.RowKit
set_option linter.unusedVariables false
/-! ### a slice of slices of one's own: the inner blocks are a family -/
/-- the id of a family's j-th member -/
def fid (j : Nat) : Nat := 16 * j + 15
theorem fid_inj {i j : Nat} (h : fid i = fid j) : i = j := by unfold fid at h; omega
theorem fid_ble (j : Nat) : Nat.ble 2 (fid j % 16) = true := by
  have : fid j % 16 = 15 := by unfold fid; omega
  rw [this]; rfl
def expF (e sz : Nat) : Nat → List (List (List AV)) → List (Nat × OBlk)
  | _, [] => []
  | i, t :: T => (fid i, ⟨e, sz, .pure, t⟩) :: expF e sz (i + 1) T
theorem expF_at {e sz : Nat} : ∀ (T : List (List (List AV))) (i j : Nat), olk (expF e sz i T) (fid (i + j)) = (T[j]?).map fun t => ⟨e, sz, .pure, t⟩
  | [], i, j => by simp [expF, olk]
  | t :: T, i, 0 => by rw [expF, olk_cons, if_pos (by simp)]; rfl
  | t :: T, i, j + 1 => by
    rw [expF, olk_cons, if_neg (fun h => by have := fid_inj h; omega), show i + (j + 1) = (i + 1) + j by omega, expF_at T (i + 1) j]
    simp
theorem expF_inv {e sz : Nat} : ∀ {T : List (List (List AV))} {i b : Nat} {x : OBlk}, olk (expF e sz i T) b = some x → ∃ j t, b = fid (i + j) ∧ T[j]? = some t ∧ x = ⟨e, sz, .pure, t⟩
  | [], i, b, x, h => by simp [expF, olk] at h
  | t :: T, i, b, x, h => by
    rw [expF, olk_cons] at h
    split at h
    · rename_i he
      injection h with h
      exact ⟨0, t, he.symm, rfl, h.symm⟩
    · obtain ⟨j, t', h1, h2, h3⟩ := expF_inv h
      exact ⟨j + 1, t', by rw [h1]; congr 1; omega, by simpa using h2, h3⟩
abbrev fam (e sz : Nat) (T : List (List (List AV))) : List (Nat × OBlk) := expF e sz 0 T
theorem fam_at {e sz j : Nat} {T : List (List (List AV))} : olk (fam e sz T) (fid j) = (T[j]?).map fun t => ⟨e, sz, .pure, t⟩ := by have := expF_at (e := e) (sz := sz) T 0 j; rwa [Nat.zero_add] at this
theorem fam_inv {e sz b : Nat} {T : List (List (List AV))} {x : OBlk} (h : olk (fam e sz T) b = some x) : ∃ j t, b = fid j ∧ T[j]? = some t ∧ x = ⟨e, sz, .pure, t⟩ := by
  obtain ⟨j, t, h1, h2, h3⟩ := expF_inv h
  exact ⟨j, t, by rw [h1, Nat.zero_add], h2, h3⟩
theorem fam_ok {e sz : Nat} {T : List (List (List AV))} : TailOK (fam e sz T) := by
  intro b x h
  obtain ⟨j, t, rfl, _, rfl⟩ := fam_inv h
  exact ⟨rfl, fid_ble j⟩
theorem del_ok {b : Nat} {Tl : List (Nat × OBlk)} (h : TailOK Tl) : TailOK (delO b Tl) := by
  intro i x hi
  rw [olk_delO] at hi
  split at hi
  · cases hi
  · exact h i x hi
/-- an explicit list without ids of the family -/
def noFid : List (Nat × OBlk) → Bool
  | [] => true
  | (b, _) :: r => !(Nat.beq (b % 16) 15) && noFid r
theorem noFid_get : ∀ {V : List (Nat × OBlk)}, noFid V = true → ∀ j, olk V (fid j) = none
  | [], _, j => rfl
  | (b, x) :: r, h, j => by
    simp only [noFid, Bool.and_eq_true, Bool.not_eq_true'] at h
    rw [olk_cons, if_neg (fun e => ?_), noFid_get h.2 j]
    have := beq_false h.1
    rw [e] at this
    exact this (by unfold fid; omega)
theorem fam_apart {e sz : Nat} {T : List (List (List AV))} {V : List (Nat × OBlk)} (h : noFid V = true) : Apart V (fam e sz T) := by
  intro b x hb
  obtain ⟨j, t, rfl, _, _⟩ := fam_inv hb
  exact noFid_get h j
theorem del_apart {b : Nat} {V Tl : List (Nat × OBlk)} (h : Apart V Tl) : Apart V (delO b Tl) := by
  intro i x hi
  rw [olk_delO] at hi
  split at hi
  · cases hi
  · exact h i x hi
def lits (us : List Value) : List (List AV) := us.map fun v => [.lit v]
theorem lits_len (us : List Value) : (lits us).length = us.length := by simp [lits]
theorem lits_row (us : List Value) : ∀ row ∈ lits us, row.length = 1 := by
  intro row h; obtain ⟨v, _, rfl⟩ := List.mem_map.1 h; rfl
theorem lits_flat : ∀ us : List Value, (lits us).flatten = us.map .lit
  | [] => rfl
  | v :: us => by
    have := lits_flat us
    simp only [lits, List.map_cons, List.flatten_cons] at this ⊢
    rw [this]; rfl
theorem hasRow_lits (b : Nat) : ∀ us : List Value, hasRow b (lits us) = false
  | [] => rfl
  | v :: us => by
    have := hasRow_lits b us
    simp only [lits, List.map_cons, hasRow] at this ⊢
    rw [this]; rfl
theorem hasRow_set {b : Nat} {r : List AV} (hr : AV.hasL b r = false) : ∀ {rows : List (List AV)} (k : Nat), hasRow b rows = false → hasRow b (rows.set k r) = false
  | [], k, _ => rfl
  | x :: xs, 0, h => by
    simp only [hasRow, Bool.or_eq_false_iff] at h
    simp only [List.set_cons_zero, hasRow, hr, h.2, Bool.or_self]
  | x :: xs, k + 1, h => by
    simp only [hasRow, Bool.or_eq_false_iff] at h
    simp only [List.set_cons_succ, hasRow, h.1, hasRow_set hr k h.2, Bool.or_self]
theorem one_flat : ∀ {rows : List (List AV)} {j : Nat} {u : AV}, (∀ row ∈ rows, row.length = 1) → (rows.flatten[j]? = some u ↔ rows[j]? = some [u])
  | [], j, u, _ => by simp
  | [y] :: rows, 0, u, _ => by simp
  | [y] :: rows, j + 1, u, h => by
    have := one_flat (rows := rows) (j := j) (u := u) fun row hr => h row (by simp [hr])
    simpa using this
  | [] :: rows, j, u, h => by have := h [] (by simp); simp at this
  | (y :: z :: r) :: rows, j, u, h => by have := h (y :: z :: r) (by simp); simp at this
theorem set_row {rows : List (List AV)} {u : AV} (h : ∀ row ∈ rows, row.length = 1) (k : Nat) : ∀ row ∈ rows.set k [u], row.length = 1 := by
  intro row hr
  rcases List.mem_or_eq_of_mem_set hr with hr | rfl
  · exact h row hr
  · rfl
/-- the values in the outer slice lead to the family's blocks -/
def LitF (w : World) (K : KM) (sz : Nat) (us : List Value) (T : List (List (List AV))) : Prop :=
  ∀ j t, T[j]? = some t → ∃ v, us[j]? = some v ∧ VR w (fun _ => True) K (.osl (fid j) sz t.length) v
theorem LitF.len {w : World} {K : KM} {sz : Nat} {us : List Value} {T : List (List (List AV))} (h : LitF w K sz us T) : T.length ≤ us.length := by
  rcases Nat.eq_zero_or_pos T.length with h0 | h0
  · omega
  · obtain ⟨t, ht⟩ : ∃ t, T[T.length - 1]? = some t := ⟨T[T.length - 1], by simp⟩
    obtain ⟨v, hv, _⟩ := h _ t ht
    have := (List.getElem?_eq_some_iff.1 hv).1
    omega
theorem LitF.keep {w w' : World} {K K' : KM} {sz : Nat} {us : List Value} {T : List (List (List AV))} {X : Nat → Prop} (h : LitF w K sz us T) (hk : Keep X w w') (hK : ∀ j, K' (fid j) = K (fid j)) : LitF w' K' sz us T := by
  intro j t ht
  obtain ⟨v, hv, h1⟩ := h j t ht
  exact ⟨v, hv, h1.keep (hk.mono fun _ _ _ => trivial) (fun _ _ h => h) fun b hb => by
    simp [AV.has] at hb; subst hb; exact hK j⟩
theorem LitF.left {w w' : World} {K K' : KM} {sz : Nat} {us : List Value} {T : List (List (List AV))} {V : List (Nat × OBlk)} (h : LitF w K sz us T) (hl : Left K V w K' w') : LitF w' K' sz us T := by
  intro j t ht
  obtain ⟨v, hv, h1⟩ := h j t ht
  refine ⟨v, hv, ?_⟩
  have hK : K' (fid j) = K (fid j) := by
    rcases VR.osl_inv h1 with ⟨h2, _⟩ | ⟨g, cap, cur, e, m, h2, _⟩
    · rw [h2]; exact hl.pin _ _ (fid_ble j) h2
    · rw [h2]; exact hl.pin _ _ (fid_ble j) h2
  exact h1.keep (X' := fun _ => True) ⟨hl.size, fun g hg hx => (hx trivial).elim, hl.shape⟩ (fun _ _ h => h) fun b hb => by
    simp [AV.has] at hb; subst hb; exact hK
theorem VR.osl_id {w : World} {X X' : Nat → Prop} {K K' : KM} {b b' sz n : Nat} {v : Value} (h : VR w X K (.osl b sz n) v) (hK : K' b' = K b) : VR w X' K' (.osl b' sz n) v := by
  rcases VR.osl_inv h with ⟨h1, rfl, rfl⟩ | ⟨g, cap, cur, e, m, h1, h2, rfl, h3, h4, h5, h6⟩
  · exact .oslnil (hK.trans h1)
  · exact .osl (hK.trans h1) h2 h3 h4 h5 h6
section
variable {E : Env} {K : KM} {c : Cfg} {a : Act} {w : World} {fr : List (Nat × AV)} {V : List (Nat × OBlk)}
theorem SRK.congrO {O O' : List (Nat × OBlk)} (h : SRK E K ⟨fr, O⟩ a w) (hO : ∀ b, olk O' b = olk O b) : SRK E K ⟨fr, O'⟩ a w :=
  h.weak (fun t => .inl rfl) fun b x hb => by rw [← hO b]; exact hb
/-- a block gets another id, whatever it is -/
theorem SRK.renameAny (h : SRK E K c a w) {b b' : Nat} {blk : OBlk} (hpn : E.pin b' = none) (hb : olk c.O b = some blk) (h1 : olk c.O b' = none) (h2 : ∀ t, (lk c.fr t).has b' = false) (h3 : ∀ i x, olk c.O i = some x → x.kd = .any → hasRow b' x.rows = false) :
    ∃ K', (∀ i, i ≠ b' → K' i = K i) ∧ K' b' = K b ∧ SRK E K' ⟨c.fr, setO b' blk (delO b c.O)⟩ a w := by
  have hne : b ≠ b' := by rintro rfl; rw [hb] at h1; cases h1
  have hlk : ∀ i, olk (setO b' blk (delO b c.O)) i = if b' = i then some blk else if b = i then none else olk c.O i := fun i => by rw [olk_setO, olk_delO]
  obtain ⟨x, hx⟩ : ∃ x, K b = some x := by
    rcases h.own b blk hb with ⟨k, _⟩ | ⟨g, k, _⟩
    · exact ⟨_, k⟩
    · exact ⟨_, k⟩
  have hK : ∀ i, i ≠ b' → upd K b' x i = K i := fun i hi => upd_other _ _ hi
  have hKb : upd K b' x b' = K b := by rw [upd_same, hx]
  have hblk : ∀ i g, (olk (setO b' blk (delO b c.O)) i).isSome = true → blkOf (upd K b' x) i = some g → ∃ i', (olk c.O i').isSome = true ∧ blkOf K i' = some g ∧ ((i = b' ∧ i' = b) ∨ (i ≠ b' ∧ i ≠ b ∧ i' = i)) := by
    intro i g hi hg
    rw [hlk] at hi
    by_cases e : b' = i
    · subst e
      refine ⟨b, by rw [hb]; rfl, ?_, .inl ⟨rfl, rfl⟩⟩
      have : blkOf (upd K b' x) b' = blkOf K b := by unfold blkOf; rw [hKb]
      rw [← this]; exact hg
    · rw [if_neg e] at hi
      by_cases e2 : b = i
      · rw [if_pos e2] at hi; cases hi
      · rw [if_neg e2] at hi
        exact ⟨i, hi, by rw [← upd_blk_other K x (fun e' => e e'.symm)]; exact hg, .inr ⟨fun e' => e e'.symm, fun e' => e2 e'.symm, rfl⟩⟩
  have hX : ∀ g, g < w.heap.size → XX E (upd K b' x) (setO b' blk (delO b c.O)) g → XX E K c.O g := by
    rintro g hg (⟨i, hi, hk⟩ | hX)
    · obtain ⟨i', k1, k2, _⟩ := hblk i g hi hk
      exact .inl ⟨i', k1, k2⟩
    · exact .inr hX
  refine ⟨upd K b' x, hK, hKb, h.size, h.defers, h.ext, fun t => (h.fr t).keep (Keep.refl _ _) hX fun i hi => hK i (by rintro rfl; rw [h2 t] at hi; cases hi), fun i y hi => ?_, fun i y hi => ?_, fun i i' g k1 k2 l1 l2 => ?_, fun i g k1 l1 => ?_, fun i y hy => ?_⟩
  · simp only [hlk] at hi
    by_cases e : b' = i
    · rw [if_pos e] at hi; injection hi with hi; subst hi; exact h.rows b blk hb
    · rw [if_neg e] at hi
      by_cases e2 : b = i
      · rw [if_pos e2] at hi; cases hi
      · rw [if_neg e2] at hi; exact h.rows i y hi
  · simp only [hlk] at hi
    have keepB : ∀ {i y g}, olk c.O i = some y → BlkR w (XX E K c.O) K g y → BlkR w (XX E (upd K b' x) (setO b' blk (delO b c.O))) (upd K b' x) g y := by
      intro i y g hy hB
      refine hB.keep rfl (Keep.refl _ _) hX fun hk j u i' hj hu => hK i' ?_
      rintro rfl
      rw [hasRow_get (h3 i y hy hk) hj] at hu; cases hu
    by_cases e : b' = i
    · rw [if_pos e] at hi; injection hi with hi; subst hi; subst e
      rcases h.own b blk hb with ⟨k1, k2⟩ | ⟨g, k1, k2⟩
      · exact .inl ⟨hKb.trans k1, k2⟩
      · exact .inr ⟨g, hKb.trans k1, keepB hb k2⟩
    · rw [if_neg e] at hi
      by_cases e2 : b = i
      · rw [if_pos e2] at hi; cases hi
      · rw [if_neg e2] at hi
        rcases h.own i y hi with ⟨k1, k2⟩ | ⟨g, k1, k2⟩
        · exact .inl ⟨(hK i fun e' => e e'.symm).trans k1, k2⟩
        · exact .inr ⟨g, (hK i fun e' => e e'.symm).trans k1, keepB hi k2⟩
  · obtain ⟨j, m1, m2, m3⟩ := hblk i g k1 l1
    obtain ⟨j', n1, n2, n3⟩ := hblk i' g k2 l2
    have := h.inj j j' g m1 n1 m2 n2
    rcases m3 with ⟨rfl, rfl⟩ | ⟨m4, m5, rfl⟩ <;> rcases n3 with ⟨rfl, rfl⟩ | ⟨n4, n5, rfl⟩
    · rfl
    · exact absurd this.symm n5
    · exact absurd this m5
    · exact this
  · obtain ⟨j, m1, m2, _⟩ := hblk i g k1 l1
    exact h.mine j g m1 m2
  · rw [hK i (by rintro rfl; rw [hpn] at hy; cases hy)]
    exact h.pin i y hy
end
end Go.Abs
