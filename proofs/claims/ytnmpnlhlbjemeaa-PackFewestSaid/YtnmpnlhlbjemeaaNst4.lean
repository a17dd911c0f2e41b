import Derived.Test.YtnmpnlhlbjemeaaFnw
namespace Go.Abs
open Go.RowKit
set_option linter.unusedVariables false
/-! ### ids of a family are in no explicit value -/
def nf (b : Nat) : Bool := !(Nat.beq (b % 16) 15)
mutual
def AV.noF : AV → Bool
  | .osl b _ _ => nf b
  | .optr b _ _ _ => nf b
  | .osuf b _ _ _ => nf b
  | .ovar b _ => nf b
  | .agg xs => AV.noFL xs
  | .tup xs => AV.noFL xs
  | .func _ xs => AV.noFL xs
  | .opt _ _ v => AV.noF v
  | _ => true
def AV.noFL : List AV → Bool
  | [] => true
  | u :: us => AV.noF u && AV.noFL us
end
theorem nf_fid {b j : Nat} (h : nf b = true) : (b == fid j) = false := by
  simp only [nf, Bool.not_eq_true'] at h
  have := beq_false h
  simp only [beq_eq_false_iff_ne]
  rintro rfl
  exact this (by unfold fid; omega)
mutual
theorem has_noF (j : Nat) : ∀ u : AV, u.noF = true → u.has (fid j) = false
  | .osl b _ _, h => nf_fid h
  | .optr b _ _ _, h => nf_fid h
  | .osuf b _ _ _, h => nf_fid h
  | .ovar b _, h => nf_fid h
  | .agg xs, h => hasL_noF j xs h
  | .tup xs, h => hasL_noF j xs h
  | .func _ xs, h => hasL_noF j xs h
  | .opt _ _ v, h => has_noF j v h
  | .top, _ => rfl
  | .bool _, _ => rfl
  | .int _ _, _ => rfl
  | .str _, _ => rfl
  | .nilsl, _ => rfl
  | .nilfn, _ => rfl
  | .esl, _ => rfl
  | .und, _ => rfl
  | .lit _, _ => rfl
  | .rsl _ _ _, _ => rfl
  | .rptr _ _, _ => rfl
  | .fsl _ _ _ _ _, _ => rfl
theorem hasL_noF (j : Nat) : ∀ xs : List AV, AV.noFL xs = true → AV.hasL (fid j) xs = false
  | [], _ => rfl
  | x :: xs, h => by
    simp only [AV.noFL, Bool.and_eq_true] at h
    simp only [AV.hasL, has_noF j x h.1, hasL_noF j xs h.2, Bool.or_self]
end
def noFF : List (Nat × AV) → Bool
  | [] => true
  | (_, v) :: r => v.noF && noFF r
theorem noFF_lk (j : Nat) : ∀ {fr : List (Nat × AV)}, noFF fr = true → ∀ s, (lk fr s).has (fid j) = false
  | [], _, s => rfl
  | (t, v) :: r, h, s => by
    simp only [noFF, Bool.and_eq_true] at h
    rw [lk_cons]
    split
    · exact has_noF j v h.1
    · exact noFF_lk j h.2 s
def noFR : List (List AV) → Bool
  | [] => true
  | r :: rs => AV.noFL r && noFR rs
theorem hasRow_noF (j : Nat) : ∀ {rows : List (List AV)}, noFR rows = true → hasRow (fid j) rows = false
  | [], _ => rfl
  | r :: rs, h => by
    simp only [noFR, Bool.and_eq_true] at h
    simp only [hasRow, hasL_noF j r h.1, hasRow_noF j h.2, Bool.or_self]
/-- every block but o that may hold ids holds none of the family's -/
def noFO (o : Nat) : List (Nat × OBlk) → Bool
  | [] => true
  | (b, blk) :: r => (match Nat.beq b o with
    | true => true
    | false => match blk.kd with
      | .any => noFR blk.rows
      | _ => true) && noFO o r
theorem noFO_get (o j : Nat) : ∀ {V : List (Nat × OBlk)}, noFO o V = true → ∀ i z, olk V i = some z → i ≠ o → z.kd = .any → hasRow (fid j) z.rows = false
  | [], _, i, z, h, _, _ => by simp [olk] at h
  | (b, blk) :: r, hn, i, z, h, hi, hk => by
    simp only [noFO, Bool.and_eq_true] at hn
    rw [olk_cons] at h
    split at h
    · rename_i e
      subst e
      injection h with h; subst h
      have h1 := hn.1
      rw [show Nat.beq b o = false from by
        cases hb : Nat.beq b o with
        | false => rfl
        | true => exact absurd (beq_true hb) hi, hk] at h1
      exact hasRow_noF j h1
    · exact noFO_get o j hn.2 i z h hi hk
/-- the rows of an outer slice with one member taken out -/
theorem hasRow_open {x sz n : Nat} (b : Nat) : ∀ (us : List Value) (k : Nat), k < us.length → hasRow b ((lits us).set k [.osl x sz n]) = (x == b)
  | [], k, h => by simp at h
  | v :: us, 0, _ => by
    have := hasRow_lits b us
    simp only [lits, List.map_cons, List.set_cons_zero, hasRow, AV.hasL, AV.has] at this ⊢
    rw [this]; simp
  | v :: us, k + 1, h => by
    have := hasRow_open (x := x) (sz := sz) (n := n) b us k (by simpa using h)
    simp only [lits, List.map_cons, List.set_cons_succ, hasRow, AV.hasL, AV.has] at this ⊢
    rw [this]; simp
theorem purge_open {x sz n : Nat} : ∀ (us : List Value) (k : Nat), k < us.length → purgeR x ((lits us).set k [.osl x sz n]) = (lits us).set k [.top]
  | [], k, h => by simp at h
  | v :: us, 0, _ => by
    have h0 : ∀ us : List Value, purgeR x (lits us) = lits us := by
      intro us
      induction us with
      | nil => rfl
      | cons v us ih => simp only [lits, List.map_cons, purgeR, purgeL, AV.has] at ih ⊢; rw [ih]
    have := h0 us
    simp only [lits, List.map_cons, List.set_cons_zero, purgeR, purgeL, AV.has] at this ⊢
    rw [this]; simp
  | v :: us, k + 1, h => by
    have := purge_open (x := x) (sz := sz) (n := n) us k (by simpa using h)
    simp only [lits, List.map_cons, List.set_cons_succ, purgeR, purgeL, AV.has] at this ⊢
    rw [this]
end Go.Abs
namespace Go.Abs
/-! ### checks over rows that are not spelt out -/
theorem mtrue {D : Bool} {X : Prop} : D = true → X → (match D with | true => X | false => False) := by rintro rfl hx; exact hx
theorem chk3 {a b c : Bool} (ha : a = true) (hb : b = true) (hc : c = true) : (a && b && c) = true := by rw [ha, hb, hc]; rfl
theorem freshD_new {c : Cfg} {b : Nat} {x : OBlk} (h1 : freshF b c.fr = true) (h2 : freshO b c.O = true) (h3 : Nat.ble (b % 16) 1 = true) : freshD c true [(b, x)] = true := by
  simp only [freshD, fresh, h1, h2, h3, Bool.and_self]
theorem freshO_any {b i e sz : Nat} {R : List (List AV)} {r : List (Nat × OBlk)} (h1 : Nat.beq b i = false) (h2 : hasRow b R = false) (h3 : freshO b r = true) : freshO b ((i, ⟨e, sz, .any, R⟩) :: r) = true := by
  simp only [freshO, h1, h2, h3]
theorem freshO_pure {b i e sz : Nat} {R : List (List AV)} {r : List (Nat × OBlk)} (h1 : Nat.beq b i = false) (h3 : freshO b r = true) : freshO b ((i, ⟨e, sz, .pure, R⟩) :: r) = true := by
  simp only [freshO, h1, h3]
end Go.Abs
namespace Go.Abs
open Go.RowKit
theorem fam_set {e sz k b : Nat} {T : List (List (List AV))} {t : List (List AV)} (hb : fid k ≠ b) : olk (fam e sz (T.set k t)) b = olk (fam e sz T) b := by
  cases hq : olk (fam e sz T) b with
  | some x =>
    obtain ⟨j, s, rfl, h1, rfl⟩ := fam_inv hq
    rw [fam_at, List.getElem?_set_ne (fun h => hb (by rw [h])), h1]; rfl
  | none =>
    cases hq2 : olk (fam e sz (T.set k t)) b with
    | none => rfl
    | some x =>
      obtain ⟨j, s, rfl, h1, rfl⟩ := fam_inv hq2
      rw [List.getElem?_set_ne (fun h => hb (by rw [h]))] at h1
      rw [fam_at, h1] at hq; cases hq
section
variable {E : Env} {K : KM} {a : Act} {w : World} {fr : List (Nat × AV)} {V : List (Nat × OBlk)} {e sz eo o : Nat} {us : List Value} {T : List (List (List AV))}
/-- the member that was taken out comes back, changed -/
theorem nest_back {y k : Nat} {t' : List (List AV)} {rows : List (List AV)} (hs : SRK E K ⟨fr, V ++ delO (fid k) (fam e sz T)⟩ a w) (hl : LitF w K sz us T) (hnf : noFid V = true) (hk : k < T.length)
    (ho : olk V o = some ⟨eo, 1, .any, rows⟩) (hrows : rows = (lits us).set k [.osl y sz t'.length]) (hy : olk V y = some ⟨e, sz, .pure, t'⟩) (hoy : o ≠ y) (hpx : ∀ j, E.pin (fid j) = none) (hfr : noFF fr = true) (hVx : noFO o V = true) (hyf : y % 16 ≠ 15) :
    ∃ K' v', SRK E K' ⟨fr, setO o ⟨eo, 1, .pure, lits (us.set k v')⟩ (delO y V) ++ fam e sz (T.set k t')⟩ a w ∧ LitF w K' sz (us.set k v') (T.set k t') ∧ ∀ i, i ≠ fid k → K' i = K i := by
  have hkl : k < us.length := Nat.lt_of_lt_of_le hk hl.len
  subst hrows
  refine nest_close (T' := T.set k t') (us' := us) hs hnf (fun b => ?_) (by rw [List.getElem?_set_self hk]) (fun j t hj ht => ?_) ho hy hoy (by rw [List.length_set, lits_len]) (by rw [List.getElem?_set_self (by rw [lits_len]; exact hkl)]) (fun j hj => by rw [List.getElem?_set_ne (fun h => hj h.symm)]) (hpx k) (noFF_lk k hfr) (noFO_get o k hVx) hyf
  · rw [olk_delO]
    by_cases h : fid k = b
    · rw [if_pos h, if_pos h]
    · rw [if_neg h, if_neg h, fam_set h]
  · rw [List.getElem?_set_ne (fun h => hj h.symm)] at ht
    exact hl j t ht
/-- a new member, in a block of one's own, at the end -/
theorem nest_push {y : Nat} {t' : List (List AV)} {rows : List (List AV)} (hs : SRK E K ⟨fr, V ++ fam e sz T⟩ a w) (hl : LitF w K sz us T) (hnf : noFid V = true)
    (ho : olk V o = some ⟨eo, 1, .any, rows⟩) (hrows : rows = (lits us).take T.length ++ [[.osl y sz t'.length]]) (hy : olk V y = some ⟨e, sz, .pure, t'⟩) (hoy : o ≠ y) (hpx : ∀ j, E.pin (fid j) = none) (hfr : noFF fr = true) (hVx : noFO o V = true) (hyf : y % 16 ≠ 15) :
    ∃ K' v', SRK E K' ⟨fr, setO o ⟨eo, 1, .pure, lits (us.take T.length ++ [v'])⟩ (delO y V) ++ fam e sz (T ++ [t'])⟩ a w ∧ LitF w K' sz (us.take T.length ++ [v']) (T ++ [t']) ∧ ∀ i, i ≠ fid T.length → K' i = K i := by
  have hlen := hl.len
  subst hrows
  have h1 : (us.take T.length ++ [nilS]).length = T.length + 1 := by simp; omega
  have htl : (lits us).take T.length = lits (us.take T.length) := by simp [lits]
  have hfam : ∀ b, fid T.length ≠ b → olk (fam e sz (T ++ [t'])) b = olk (fam e sz T) b := by
    intro b hb
    cases hq : olk (fam e sz T) b with
    | some x =>
      obtain ⟨j, t, rfl, h1, rfl⟩ := fam_inv hq
      rw [fam_at, List.getElem?_append_left (List.getElem?_eq_some_iff.1 h1).1, h1]; rfl
    | none =>
      cases hq2 : olk (fam e sz (T ++ [t'])) b with
      | none => rfl
      | some x =>
        obtain ⟨j, t, rfl, h1, rfl⟩ := fam_inv hq2
        have hjl := (List.getElem?_eq_some_iff.1 h1).1
        rw [List.length_append] at hjl
        simp only [List.length_cons, List.length_nil] at hjl
        have hne : j ≠ T.length := fun e => hb (by rw [e])
        rw [List.getElem?_append_left (by omega)] at h1
        rw [fam_at, h1] at hq; cases hq
  obtain ⟨K', v', k1, k2, k3⟩ := nest_close (T' := T ++ [t']) (us' := us.take T.length ++ [nilS]) (k := T.length) (Tl := fam e sz T) hs hnf (fun b => by
      by_cases h : fid T.length = b
      · rw [if_pos h, ← h, fam_at, List.getElem?_eq_none (Nat.le_refl _)]; rfl
      · rw [if_neg h, hfam b h]) (by simp) (fun j t hj ht => by
      have hjl := (List.getElem?_eq_some_iff.1 ht).1
      rw [List.length_append] at hjl
      simp only [List.length_cons, List.length_nil] at hjl
      rw [List.getElem?_append_left (by omega)] at ht
      obtain ⟨v, hv, h2⟩ := hl j t ht
      refine ⟨v, ?_, h2⟩
      rw [List.getElem?_append_left (by simp; omega), List.getElem?_take_of_lt (by omega)]; exact hv) ho hy hoy (by rw [htl, List.length_append, lits_len, h1, List.length_take]; simp; omega)
      (by rw [htl, List.getElem?_append_right (by rw [lits_len, List.length_take]; omega), lits_len, List.length_take, Nat.min_eq_left hlen, Nat.sub_self]; rfl)
      (fun j hj => by
        rw [htl]
        rcases Nat.lt_or_ge j T.length with hlt | hge
        · rw [List.getElem?_append_left (by rw [lits_len, List.length_take]; omega)]
          unfold lits
          rw [List.getElem?_map, List.getElem?_map, List.getElem?_append_left (by simp; omega)]
        · rw [List.getElem?_eq_none (by rw [List.length_append, lits_len, List.length_take]; simp; omega), List.getElem?_eq_none (by rw [lits_len, h1]; omega)]) (hpx _) (noFF_lk _ hfr) (noFO_get o _ hVx) hyf
  have hset : (us.take T.length ++ [nilS]).set T.length v' = us.take T.length ++ [v'] := by
    rw [List.set_append_right _ _ (by simp; omega)]
    simp [Nat.min_eq_left hlen]
  rw [hset] at k1 k2
  exact ⟨K', v', k1, k2, k3⟩
end
end Go.Abs
namespace Go.Abs
theorem LitF.app {w : World} {K : KM} {sz : Nat} {us : List Value} {T : List (List (List AV))} (h : LitF w K sz us T) (xs : List Value) : LitF w K sz (us ++ xs) T := by
  intro j t ht
  obtain ⟨v, hv, h1⟩ := h j t ht
  exact ⟨v, by rw [List.getElem?_append_left (List.getElem?_eq_some_iff.1 hv).1]; exact hv, h1⟩
theorem lits_toLit (us : List Value) : (lits us).map toLit = us := by
  induction us with
  | nil => rfl
  | cons v us ih => simp only [lits, List.map_cons, toLit] at ih ⊢; rw [ih]
theorem lits_ok (us : List Value) : ∀ row ∈ lits us, litOrNil row = true := by
  intro row h; obtain ⟨v, _, rfl⟩ := List.mem_map.1 h; rfl
end Go.Abs
namespace Go.Abs
theorem noFO_all {V : List (Nat × OBlk)} (h : noFO 0 V = true) (h0 : olk V 0 = none) (j : Nat) : ∀ i z, olk V i = some z → z.kd = .any → hasRow (fid j) z.rows = false := by
  intro i z hz hk
  refine noFO_get 0 j h i z hz ?_ hk
  rintro rfl
  rw [h0] at hz; cases hz
end Go.Abs
