import Derived.Test.YtjpcpnakcapojaaN2
import Derived.Test.YtjpcpnakcapojaaN1
import Derived.Test.YtjpcpnakcapojaaA3
namespace Go.Abs
open Go.RowKit
set_option linter.unusedVariables false
/-! ### ids of a family are in no explicit value -/
def nf (b : Nat) : Bool := !(Nat.beq (b % 16) 15)
mutual
def AV.noF : AV → Bool
  | .osl b _ _ => nf b
  | .optr b _ _ _ => nf b
  | .osuf b _ _ _ => nf b
  | .ovar b _ => nf b
  | .agg xs => AV.noFL xs
  | .tup xs => AV.noFL xs
  | .func _ xs => AV.noFL xs
  | .opt _ _ v => AV.noF v
  | _ => true
def AV.noFL : List AV → Bool
  | [] => true
  | u :: us => AV.noF u && AV.noFL us
end
theorem nf_fid {b j : Nat} (h : nf b = true) : (b == fid j) = false := by
  simp only [nf, Bool.not_eq_true'] at h
  have := beq_false h
  simp only [beq_eq_false_iff_ne]
  rintro rfl
  exact this (by unfold fid; omega)
mutual
theorem has_noF (j : Nat) : ∀ u : AV, u.noF = true → u.has (fid j) = false
  | .osl b _ _, h => nf_fid h
  | .optr b _ _ _, h => nf_fid h
  | .osuf b _ _ _, h => nf_fid h
  | .ovar b _, h => nf_fid h
  | .agg xs, h => hasL_noF j xs h
  | .tup xs, h => hasL_noF j xs h
  | .func _ xs, h => hasL_noF j xs h
  | .opt _ _ v, h => has_noF j v h
  | .top, _ => rfl
  | .bool _, _ => rfl
  | .int _ _, _ => rfl
  | .str _, _ => rfl
  | .nilsl, _ => rfl
  | .nilfn, _ => rfl
  | .esl, _ => rfl
  | .und, _ => rfl
  | .lit _, _ => rfl
  | .rsl _ _ _, _ => rfl
  | .rptr _ _, _ => rfl
  | .fsl _ _ _ _ _, _ => rfl
theorem hasL_noF (j : Nat) : ∀ xs : List AV, AV.noFL xs = true → AV.hasL (fid j) xs = false
  | [], _ => rfl
  | x :: xs, h => by
    simp only [AV.noFL, Bool.and_eq_true] at h
    simp only [AV.hasL, has_noF j x h.1, hasL_noF j xs h.2, Bool.or_self]
end
def noFF : List (Nat × AV) → Bool
  | [] => true
  | (_, v) :: r => v.noF && noFF r
theorem noFF_lk (j : Nat) : ∀ {fr : List (Nat × AV)}, noFF fr = true → ∀ s, (lk fr s).has (fid j) = false
  | [], _, s => rfl
  | (t, v) :: r, h, s => by
    simp only [noFF, Bool.and_eq_true] at h
    rw [lk_cons]
    split
    · exact has_noF j v h.1
    · exact noFF_lk j h.2 s
def noFR : List (List AV) → Bool
  | [] => true
  | r :: rs => AV.noFL r && noFR rs
theorem hasRow_noF (j : Nat) : ∀ {rows : List (List AV)}, noFR rows = true → hasRow (fid j) rows = false
  | [], _ => rfl
  | r :: rs, h => by
    simp only [noFR, Bool.and_eq_true] at h
    simp only [hasRow, hasL_noF j r h.1, hasRow_noF j h.2, Bool.or_self]
/-- every block but o that may hold ids holds none of the family's -/
def noFO (o : Nat) : List (Nat × OBlk) → Bool
  | [] => true
  | (b, blk) :: r => (match Nat.beq b o with
    | true => true
    | false => match blk.kd with
      | .any => noFR blk.rows
      | _ => true) && noFO o r
theorem noFO_get (o j : Nat) : ∀ {V : List (Nat × OBlk)}, noFO o V = true → ∀ i z, olk V i = some z → i ≠ o → z.kd = .any → hasRow (fid j) z.rows = false
  | [], _, i, z, h, _, _ => by simp [olk] at h
  | (b, blk) :: r, hn, i, z, h, hi, hk => by
    simp only [noFO, Bool.and_eq_true] at hn
    rw [olk_cons] at h
    split at h
    · rename_i e
      subst e
      injection h with h; subst h
      have h1 := hn.1
      rw [show Nat.beq b o = false from by
        cases hb : Nat.beq b o with
        | false => rfl
        | true => exact absurd (beq_true hb) hi, hk] at h1
      exact hasRow_noF j h1
    · exact noFO_get o j hn.2 i z h hi hk
/-- the rows of an outer slice with one member taken out -/
theorem hasRow_open {x sz n : Nat} (b : Nat) : ∀ (us : List Value) (k : Nat), k < us.length → hasRow b ((lits us).set k [.osl x sz n]) = (x == b)
  | [], k, h => by simp at h
  | v :: us, 0, _ => by
    have := hasRow_lits b us
    simp only [lits, List.map_cons, List.set_cons_zero, hasRow, AV.hasL, AV.has] at this ⊢
    rw [this]; simp
  | v :: us, k + 1, h => by
    have := hasRow_open (x := x) (sz := sz) (n := n) b us k (by simpa using h)
    simp only [lits, List.map_cons, List.set_cons_succ, hasRow, AV.hasL, AV.has] at this ⊢
    rw [this]; simp
theorem purge_open {x sz n : Nat} : ∀ (us : List Value) (k : Nat), k < us.length → purgeR x ((lits us).set k [.osl x sz n]) = (lits us).set k [.top]
  | [], k, h => by simp at h
  | v :: us, 0, _ => by
    have h0 : ∀ us : List Value, purgeR x (lits us) = lits us := by
      intro us
      induction us with
      | nil => rfl
      | cons v us ih => simp only [lits, List.map_cons, purgeR, purgeL, AV.has] at ih ⊢; rw [ih]
    have := h0 us
    simp only [lits, List.map_cons, List.set_cons_zero, purgeR, purgeL, AV.has] at this ⊢
    rw [this]; simp
  | v :: us, k + 1, h => by
    have := purge_open (x := x) (sz := sz) (n := n) us k (by simpa using h)
    simp only [lits, List.map_cons, List.set_cons_succ, purgeR, purgeL, AV.has] at this ⊢
    rw [this]
end Go.Abs
namespace Go.Abs
/-! ### checks over rows that are not spelt out -/
theorem mtrue {D : Bool} {X : Prop} : D = true → X → (match D with | true => X | false => False) := by rintro rfl hx; exact hx
theorem chk3 {a b c : Bool} (ha : a = true) (hb : b = true) (hc : c = true) : (a && b && c) = true := by rw [ha, hb, hc]; rfl
theorem freshD_new {c : Cfg} {b : Nat} {x : OBlk} (h1 : freshF b c.fr = true) (h2 : freshO b c.O = true) (h3 : Nat.ble (b % 16) 1 = true) : freshD c true [(b, x)] = true := by
  simp only [freshD, fresh, h1, h2, h3, Bool.and_self]
theorem freshO_any {b i e sz : Nat} {R : List (List AV)} {r : List (Nat × OBlk)} (h1 : Nat.beq b i = false) (h2 : hasRow b R = false) (h3 : freshO b r = true) : freshO b ((i, ⟨e, sz, .any, R⟩) :: r) = true := by
  simp only [freshO, h1, h2, h3]
theorem freshO_pure {b i e sz : Nat} {R : List (List AV)} {r : List (Nat × OBlk)} (h1 : Nat.beq b i = false) (h3 : freshO b r = true) : freshO b ((i, ⟨e, sz, .pure, R⟩) :: r) = true := by
  simp only [freshO, h1, h3]
end Go.Abs
namespace Go.Abs
open Go.RowKit
theorem fam_set {e sz k b : Nat} {T : List (List (List AV))} {t : List (List AV)} (hb : fid k ≠ b) : olk (fam e sz (T.set k t)) b = olk (fam e sz T) b := by
  cases hq : olk (fam e sz T) b with
  | some x =>
    obtain ⟨j, s, rfl, h1, rfl⟩ := fam_inv hq
    rw [fam_at, List.getElem?_set_ne (fun h => hb (by rw [h])), h1]; rfl
  | none =>
    cases hq2 : olk (fam e sz (T.set k t)) b with
    | none => rfl
    | some x =>
      obtain ⟨j, s, rfl, h1, rfl⟩ := fam_inv hq2
      rw [List.getElem?_set_ne (fun h => hb (by rw [h]))] at h1
      rw [fam_at, h1] at hq; cases hq
section
variable {E : Env} {K : KM} {a : Act} {w : World} {fr : List (Nat × AV)} {V : List (Nat × OBlk)} {e sz eo o : Nat} {us : List Value} {T : List (List (List AV))}
/-- the member that was taken out comes back, changed -/
theorem nest_back {y k : Nat} {t' : List (List AV)} {rows : List (List AV)} (hs : SRK E K ⟨fr, V ++ delO (fid k) (fam e sz T)⟩ a w) (hl : LitF w K sz us T) (hnf : noFid V = true) (hk : k < T.length)
    (ho : olk V o = some ⟨eo, 1, .any, rows⟩) (hrows : rows = (lits us).set k [.osl y sz t'.length]) (hy : olk V y = some ⟨e, sz, .pure, t'⟩) (hoy : o ≠ y) (hpx : ∀ j, E.pin (fid j) = none) (hfr : noFF fr = true) (hVx : noFO o V = true) (hyf : y % 16 ≠ 15) :
    ∃ K' v', SRK E K' ⟨fr, setO o ⟨eo, 1, .pure, lits (us.set k v')⟩ (delO y V) ++ fam e sz (T.set k t')⟩ a w ∧ LitF w K' sz (us.set k v') (T.set k t') ∧ ∀ i, i ≠ fid k → K' i = K i := by
  have hkl : k < us.length := Nat.lt_of_lt_of_le hk hl.len
  subst hrows
  refine nest_close (T' := T.set k t') (us' := us) hs hnf (fun b => ?_) (by rw [List.getElem?_set_self hk]) (fun j t hj ht => ?_) ho hy hoy (by rw [List.length_set, lits_len]) (by rw [List.getElem?_set_self (by rw [lits_len]; exact hkl)]) (fun j hj => by rw [List.getElem?_set_ne (fun h => hj h.symm)]) (hpx k) (noFF_lk k hfr) (noFO_get o k hVx) hyf
  · rw [olk_delO]
    by_cases h : fid k = b
    · rw [if_pos h, if_pos h]
    · rw [if_neg h, if_neg h, fam_set h]
  · rw [List.getElem?_set_ne (fun h => hj h.symm)] at ht
    exact hl j t ht
/-- a new member, in a block of one's own, at the end -/
theorem nest_push {y : Nat} {t' : List (List AV)} {rows : List (List AV)} (hs : SRK E K ⟨fr, V ++ fam e sz T⟩ a w) (hl : LitF w K sz us T) (hnf : noFid V = true)
    (ho : olk V o = some ⟨eo, 1, .any, rows⟩) (hrows : rows = (lits us).take T.length ++ [[.osl y sz t'.length]]) (hy : olk V y = some ⟨e, sz, .pure, t'⟩) (hoy : o ≠ y) (hpx : ∀ j, E.pin (fid j) = none) (hfr : noFF fr = true) (hVx : noFO o V = true) (hyf : y % 16 ≠ 15) :
    ∃ K' v', SRK E K' ⟨fr, setO o ⟨eo, 1, .pure, lits (us.take T.length ++ [v'])⟩ (delO y V) ++ fam e sz (T ++ [t'])⟩ a w ∧ LitF w K' sz (us.take T.length ++ [v']) (T ++ [t']) ∧ ∀ i, i ≠ fid T.length → K' i = K i := by
  have hlen := hl.len
  subst hrows
  have h1 : (us.take T.length ++ [nilS]).length = T.length + 1 := by simp; omega
  have htl : (lits us).take T.length = lits (us.take T.length) := by simp [lits]
  have hfam : ∀ b, fid T.length ≠ b → olk (fam e sz (T ++ [t'])) b = olk (fam e sz T) b := by
    intro b hb
    cases hq : olk (fam e sz T) b with
    | some x =>
      obtain ⟨j, t, rfl, h1, rfl⟩ := fam_inv hq
      rw [fam_at, List.getElem?_append_left (List.getElem?_eq_some_iff.1 h1).1, h1]; rfl
    | none =>
      cases hq2 : olk (fam e sz (T ++ [t'])) b with
      | none => rfl
      | some x =>
        obtain ⟨j, t, rfl, h1, rfl⟩ := fam_inv hq2
        have hjl := (List.getElem?_eq_some_iff.1 h1).1
        rw [List.length_append] at hjl
        simp only [List.length_cons, List.length_nil] at hjl
        have hne : j ≠ T.length := fun e => hb (by rw [e])
        rw [List.getElem?_append_left (by omega)] at h1
        rw [fam_at, h1] at hq; cases hq
  obtain ⟨K', v', k1, k2, k3⟩ := nest_close (T' := T ++ [t']) (us' := us.take T.length ++ [nilS]) (k := T.length) (Tl := fam e sz T) hs hnf (fun b => by
      by_cases h : fid T.length = b
      · rw [if_pos h, ← h, fam_at, List.getElem?_eq_none (Nat.le_refl _)]; rfl
      · rw [if_neg h, hfam b h]) (by simp) (fun j t hj ht => by
      have hjl := (List.getElem?_eq_some_iff.1 ht).1
      rw [List.length_append] at hjl
      simp only [List.length_cons, List.length_nil] at hjl
      rw [List.getElem?_append_left (by omega)] at ht
      obtain ⟨v, hv, h2⟩ := hl j t ht
      refine ⟨v, ?_, h2⟩
      rw [List.getElem?_append_left (by simp; omega), List.getElem?_take_of_lt (by omega)]; exact hv) ho hy hoy (by rw [htl, List.length_append, lits_len, h1, List.length_take]; simp; omega)
      (by rw [htl, List.getElem?_append_right (by rw [lits_len, List.length_take]; omega), lits_len, List.length_take, Nat.min_eq_left hlen, Nat.sub_self]; rfl)
      (fun j hj => by
        rw [htl]
        rcases Nat.lt_or_ge j T.length with hlt | hge
        · rw [List.getElem?_append_left (by rw [lits_len, List.length_take]; omega)]
          unfold lits
          rw [List.getElem?_map, List.getElem?_map, List.getElem?_append_left (by simp; omega)]
        · rw [List.getElem?_eq_none (by rw [List.length_append, lits_len, List.length_take]; simp; omega), List.getElem?_eq_none (by rw [lits_len, h1]; omega)]) (hpx _) (noFF_lk _ hfr) (noFO_get o _ hVx) hyf
  have hset : (us.take T.length ++ [nilS]).set T.length v' = us.take T.length ++ [v'] := by
    rw [List.set_append_right _ _ (by simp; omega)]
    simp [Nat.min_eq_left hlen]
  rw [hset] at k1 k2
  exact ⟨K', v', k1, k2, k3⟩
end
end Go.Abs
namespace Go.Abs
theorem LitF.app {w : World} {K : KM} {sz : Nat} {us : List Value} {T : List (List (List AV))} (h : LitF w K sz us T) (xs : List Value) : LitF w K sz (us ++ xs) T := by
  intro j t ht
  obtain ⟨v, hv, h1⟩ := h j t ht
  exact ⟨v, by rw [List.getElem?_append_left (List.getElem?_eq_some_iff.1 hv).1]; exact hv, h1⟩
theorem lits_toLit (us : List Value) : (lits us).map toLit = us := by
  induction us with
  | nil => rfl
  | cons v us ih => simp only [lits, List.map_cons, toLit] at ih ⊢; rw [ih]
theorem lits_ok (us : List Value) : ∀ row ∈ lits us, litOrNil row = true := by
  intro row h; obtain ⟨v, _, rfl⟩ := List.mem_map.1 h; rfl
end Go.Abs
namespace Go.Abs
theorem noFO_all {V : List (Nat × OBlk)} (h : noFO 0 V = true) (h0 : olk V 0 = none) (j : Nat) : ∀ i z, olk V i = some z → z.kd = .any → hasRow (fid j) z.rows = false := by
  intro i z hz hk
  refine noFO_get 0 j h i z hz ?_ hk
  rintro rfl
  rw [h0] at hz; cases hz
end Go.Abs
namespace Go.Abs
set_option linter.unusedVariables false
/-! ### checks of regions that draw their order, over rows that are not spelt out -/
theorem drOK_new {ops : Array Oper} {A : Acc} {i b : Nat} {x : OBlk} {vals : List AV} {O : List (Nat × OBlk)} {v : AV} {pg : Option Nat} (h2 : sepB (befores ops.toList) i ⟨vals, O, v, [(b, x)], pg⟩ A.qs = true) (h3 : nwOK A.c0 A.qs [(b, x)] = true) : drOK true ops A true i ⟨vals, O, v, [(b, x)], pg⟩ = true := by
  simp only [drOK, wids, h2, h3]
theorem nwOK_one {c0 : Cfg} {qs : List (Nat × Rec)} {b : Nat} {x : OBlk} (h1 : freshF b c0.fr = true) (h2 : freshO b c0.O = true) (h3 : Nat.ble (b % 16) 1 = true) (h4 : noOut b qs = true) : nwOK c0 qs [(b, x)] = true := by
  simp only [nwOK, fresh, h1, h2, h3, h4, Bool.and_self]
theorem sep_ord {bs : List Nat} {i k : Nat} {s q : Rec} {r : List (Nat × Rec)} (h : ordB bs k i = true) (hr : sepB bs i s r = true) : sepB bs i s ((k, q) :: r) = true := by
  simp only [sepB, h, hr]
theorem sep_ind {bs : List Nat} {i k : Nat} {s q : Rec} {r : List (Nat × Rec)} (h : indepB q s = true) (hr : sepB bs i s r = true) : sepB bs i s ((k, q) :: r) = true := by
  simp only [sepB, h, hr]
  cases ordB bs k i <;> rfl
theorem indep_one {vals : List AV} {O : List (Nat × OBlk)} {v : AV} {s : Rec} {b : Nat} (hs : wids s.D s.pg = [b]) (h1 : AV.hasL b vals = false) (h2 : reachO O vals b = false) (h3 : v.has b = false) : indepB ⟨vals, O, v, [], none⟩ s = true := by
  simp only [indepB, wids, cleanB, hs, reachB, h1, h2, outB, h3, outD, isP]
theorem reach_any {i e sz b : Nat} {R : List (List AV)} {r : List (Nat × OBlk)} {vals : List AV} (h : hasRow b R = false) (hr : reachO r vals b = false) : reachO ((i, ⟨e, sz, .any, R⟩) :: r) vals b = false := by
  simp only [reachO, h, hr]
  cases AV.hasL i vals <;> rfl
theorem reach_pure {i e sz b : Nat} {R : List (List AV)} {r : List (Nat × OBlk)} {vals : List AV} (hr : reachO r vals b = false) : reachO ((i, ⟨e, sz, .pure, R⟩) :: r) vals b = false := by
  simp only [reachO, hr]
end Go.Abs
namespace Go.Abs
theorem indep_gen {q s : Rec} (h1 : cleanB s (wids q.D q.pg) = true) (h2 : cleanB q (wids s.D s.pg) = true) : indepB q s = true := by
  simp only [indepB, h1, h2]
theorem clean_one {q : Rec} {b : Nat} (h1 : reachB q b = false) (h2 : outB q b = false) : cleanB q [b] = true := by
  simp only [cleanB, h1, h2]
theorem reachB_of {q : Rec} {b : Nat} (h1 : AV.hasL b q.vals = false) (h2 : reachO q.O q.vals b = false) : reachB q b = false := by
  simp only [reachB, h1, h2]
theorem outB_of {q : Rec} {b : Nat} (h1 : q.v.has b = false) (h2 : outD b q.D = false) (h3 : isP b q.pg = false) : outB q b = false := by
  simp only [outB, h1, h2, h3]
theorem outD_any {i e sz b : Nat} {R : List (List AV)} {r : List (Nat × OBlk)} (h1 : Nat.beq i b = false) (h2 : hasRow b R = false) (hr : outD b r = false) : outD b ((i, ⟨e, sz, .any, R⟩) :: r) = false := by
  simp only [outD, h1, h2, hr]
theorem noOut_cons {b k : Nat} {q : Rec} {r : List (Nat × Rec)} (h : outB q b = false) (hr : noOut b r = true) : noOut b ((k, q) :: r) = true := by
  simp only [noOut, h, hr]
end Go.Abs
namespace Go.Abs
open Go.RowKit
set_option linter.unusedVariables false
section
variable {E : Env} {K : KM} {c : Cfg} {a : Act} {w : World} {fr : List (Nat × AV)} {V : List (Nat × OBlk)} {e sz eo o : Nat} {us : List Value} {T : List (List (List AV))}
/-- only the first rows of a block are told, where nothing else speaks of it -/
theorem SRK.trunc (h : SRK E K c a w) {b j : Nat} {blk : OBlk} (hpn : E.pin b = none) (hb : olk c.O b = some blk) (hj : j ≤ blk.rows.length) (hfr : ∀ t, (lk c.fr t).has b = false) (hO : ∀ i x, olk c.O i = some x → x.kd = .any → hasRow b x.rows = false) (hkd : blk.kd = .pure) :
    ∃ K', SRK E K' ⟨c.fr, setO b { blk with rows := blk.rows.take j } c.O⟩ a w ∧ (∀ i, i ≠ b → K' i = K i) ∧ ∀ {X X' : Nat → Prop} {sz : Nat} {v : Value}, VR w X K (.osl b sz j) v → VR w X' K' (.osl b sz j) v := by
  rcases h.own b blk hb with ⟨k1, k2⟩ | ⟨g, k1, k2⟩
  · refine ⟨K, h.congrO fun i => ?_, fun _ _ => rfl, fun hv => hv.osl_id rfl⟩
    rw [olk_setO]
    split
    · rename_i e; subst e
      rw [hb]
      obtain ⟨e, sz, kd, rows⟩ := blk
      simp only at k2; subst k2; simp
    · rfl
  · have hblk : ∀ i, blkOf (upd K b (some g, j)) i = blkOf K i := by
      intro i
      by_cases e : i = b
      · subst e; rw [upd_blk, blkOf_of k1]
      · rw [upd_blk_other _ _ e]
    have hsome : ∀ i, (olk (setO b { blk with rows := blk.rows.take j } c.O) i).isSome = true → (olk c.O i).isSome = true := by
      intro i hi
      rw [olk_setO] at hi
      split at hi
      · rename_i e; subst e; rw [hb]; rfl
      · exact hi
    have hX : ∀ r, XX E (upd K b (some g, j)) (setO b { blk with rows := blk.rows.take j } c.O) r → XX E K c.O r := by
      rintro r (⟨i, hi, hk⟩ | hx)
      · exact .inl ⟨i, hsome i hi, by rw [← hblk i]; exact hk⟩
      · exact .inr hx
    refine ⟨upd K b (some g, j), ⟨h.size, h.defers, h.ext, fun t => (h.fr t).keep (Keep.refl _ _) (fun r _ => hX r) fun i hi => ?_, fun i x hi => ?_, fun i x hi => ?_, fun i i' r h1 h2 l1 l2 => ?_, fun i r h1 l1 => ?_, fun i y hy => ?_⟩, fun i hi => upd_other _ _ hi, fun hv => ?_⟩
    · by_cases e : i = b
      · subst e; rw [hfr t] at hi; cases hi
      · exact upd_other _ _ e
    · simp only [olk_setO] at hi
      split at hi
      · injection hi with hi; subst hi
        exact fun row hr => h.rows b blk hb row (List.mem_of_mem_take hr)
      · exact h.rows i x hi
    · simp only [olk_setO] at hi
      by_cases e : b = i
      · rw [if_pos e] at hi; injection hi with hi; subst hi; subst e
        refine .inr ⟨g, by rw [upd_same, List.length_take, Nat.min_eq_left hj], ?_⟩
        obtain ⟨cur, hc, hu⟩ := k2
        refine ⟨cur, hc, fun p u hp => ?_⟩
        have hpre : blk.rows.flatten[p]? = some u := by
          have : blk.rows = blk.rows.take j ++ blk.rows.drop j := (List.take_append_drop _ _).symm
          rw [this, List.flatten_append, List.getElem?_append_left (List.getElem?_eq_some_iff.1 hp).1]
          exact hp
        obtain ⟨y, hy, h1, h2⟩ := hu p u hpre
        refine ⟨y, hy, h1, ?_⟩
        rw [hkd] at h2
        show VR w (KdX blk.kd _) (KdK blk.kd _) u y
        rw [hkd]
        exact h2
      · rw [if_neg e] at hi
        rcases h.own i x hi with ⟨l1, l2⟩ | ⟨r, l1, l2⟩
        · exact .inl ⟨by rw [upd_other _ _ (fun e' => e e'.symm)]; exact l1, l2⟩
        · refine .inr ⟨r, by rw [upd_other _ _ (fun e' => e e'.symm)]; exact l1, l2.keep rfl (Keep.refl _ _) (fun r _ => hX r) fun hk p u b' hp hu => ?_⟩
          by_cases e' : b' = b
          · subst e'
            rw [hasRow_get (hO i x hi hk) hp] at hu; cases hu
          · exact upd_other _ _ e'
    · rw [hblk] at l1 l2
      exact h.inj i i' r (hsome i h1) (hsome i' h2) l1 l2
    · rw [hblk] at l1
      exact h.mine i r (hsome i h1) l1
    · rw [upd_other _ _ (by rintro rfl; rw [hpn] at hy; cases hy)]
      exact h.pin i y hy
    · rcases VR.osl_inv hv with ⟨l1, _⟩ | ⟨g', cap, cur, e, m, l1, l2, rfl, l3, l4, l5, l6⟩
      · rw [k1] at l1; cases l1
      · rw [k1] at l1; injection l1 with l1; injection l1 with l1 _; injection l1 with l1; subst l1
        exact .osl (upd_same _ _ _) (Nat.le_refl _) l3 l4 l5 l6
/-- a member comes back (k < length), or is a new one (k = length) -/
theorem nest_closeT {y k n : Nat} {t' tt : List (List AV)} {rows : List (List AV)} {us' : List Value} {T' : List (List (List AV))} {Tl : List (Nat × OBlk)}
    (hs : SRK E K ⟨fr, V ++ Tl⟩ a w) (hnf : noFid V = true) (hTl : ∀ b, olk Tl b = if fid k = b then none else olk (fam e sz T') b) (hTk : T'[k]? = some t')
    (hl : ∀ j t, j ≠ k → T'[j]? = some t → ∃ v, us'[j]? = some v ∧ VR w (fun _ => True) K (.osl (fid j) sz t.length) v)
    (ho : olk V o = some ⟨eo, 1, .any, rows⟩) (hy : olk V y = some ⟨e, sz, .pure, tt⟩) (hn : n ≤ tt.length) (ht' : t' = tt.take n) (hoy : o ≠ y) (hr : rows.length = us'.length) (hrk : rows[k]? = some [.osl y sz n]) (hrj : ∀ j, j ≠ k → rows[j]? = (lits us')[j]?)
    (hpx : E.pin (fid k) = none) (hfx : ∀ s, (lk fr s).has (fid k) = false) (hVx : ∀ i z, olk V i = some z → i ≠ o → z.kd = .any → hasRow (fid k) z.rows = false) (hyf : y % 16 ≠ 15) :
    ∃ K' v', SRK E K' ⟨fr, setO o ⟨eo, 1, .pure, lits (us'.set k v')⟩ (delO y V) ++ fam e sz T'⟩ a w ∧ LitF w K' sz (us'.set k v') T' ∧ ∀ i, i ≠ fid k → K' i = K i := by
  have hyj : ∀ j, y ≠ fid j := fun j h => hyf (by rw [h]; unfold fid; omega)
  have hkl : k < rows.length := (List.getElem?_eq_some_iff.1 hrk).1
  have hrows : ∀ row ∈ rows, row.length = 1 := hs.rows o _ (olk_app_l ho)
  have hhas : hasRow (fid k) rows = false := by
    have key : ∀ (rs : List (List AV)), (∀ row ∈ rs, AV.hasL (fid k) row = false) → hasRow (fid k) rs = false := by
      intro rs
      induction rs with
      | nil => intro _; rfl
      | cons r rs ih => intro h; simp only [hasRow, h r (by simp), ih fun row hr => h row (by simp [hr]), Bool.or_self]
    refine key rows fun row hrow => ?_
    obtain ⟨j, hj⟩ := List.getElem?_of_mem hrow
    by_cases hjk : j = k
    · subst hjk
      rw [hrk] at hj; injection hj with hj; subst hj
      simp only [AV.hasL, AV.has, Bool.or_false]
      simp; exact hyj j
    · rw [hrj j hjk] at hj
      obtain ⟨v, _, h⟩ := List.mem_map.1 (List.mem_of_getElem? hj)
      subst h; rfl
  have hfn : olk (V ++ Tl) (fid k) = none := by rw [olk_cat, noFid_get hnf k, hTl, if_pos rfl]; rfl
  have hnl : t'.length = n := by rw [ht', List.length_take]; omega
  obtain ⟨K1, hK1, hKx1, hs0⟩ := hs.renameAny (b := y) hpx (olk_app_l hy) hfn hfx fun i z hi hk => by
    rcases olk_app_inv hi with h | ⟨_, h⟩
    · by_cases hio : i = o
      · subst hio; rw [ho] at h; injection h with h; subst h; exact hhas
      · exact hVx i z h hio hk
    · rw [hTl] at h
      split at h
      · cases h
      · obtain ⟨_, _, _, _, rfl⟩ := fam_inv h; cases hk
  obtain ⟨K', hs1', hK2, hKv⟩ := hs0.trunc (b := fid k) (j := n) (blk := ⟨e, sz, .pure, tt⟩) hpx (by rw [olk_setO, if_pos rfl]) hn hfx (fun i z hi hk => by
    rw [olk_setO] at hi
    by_cases h1 : fid k = i
    · rw [if_pos h1] at hi; injection hi with hi; subst hi; cases hk
    · rw [if_neg h1, olk_delO] at hi
      by_cases h2 : y = i
      · rw [if_pos h2] at hi; cases hi
      · rw [if_neg h2] at hi
        rcases olk_app_inv hi with h | ⟨_, h⟩
        · by_cases hio : i = o
          · subst hio; rw [ho] at h; injection h with h; subst h; exact hhas
          · exact hVx i z h hio hk
        · rw [hTl] at h
          split at h
          · cases h
          · obtain ⟨_, _, _, _, rfl⟩ := fam_inv h; cases hk) rfl
  have hs1 : SRK E K' ⟨fr, setO (fid k) ⟨e, sz, .pure, t'⟩ (delO y (V ++ Tl))⟩ a w := hs1'.congrO fun b => by
    rw [olk_setO, olk_setO, olk_setO, ht']
    split <;> rfl
  have hK : ∀ i, i ≠ fid k → K' i = K i := fun i hi => (hK2 i hi).trans (hK1 i hi)
  have hof : ∀ j, fid j ≠ o := by rintro j rfl; rw [noFid_get hnf j] at ho; cases ho
  have ho1 : olk (setO (fid k) ⟨e, sz, .pure, t'⟩ (delO y (V ++ Tl))) o = some ⟨eo, 1, .any, rows⟩ := by
    rw [olk_setO, if_neg (hof k), olk_delO, if_neg (fun h => hoy h.symm), olk_cat, ho]; rfl
  have hne : rows ≠ [] := by rintro rfl; simp at hkl
  rcases hs1.own o _ ho1 with ⟨_, h2⟩ | ⟨g, hg1, cur, hc, hu⟩
  · exact absurd h2 hne
  obtain ⟨v', hv', hone, hvr⟩ := hu k _ ((one_flat hrows).2 hrk)
  have hlu : (lits (us'.set k v')).length = rows.length := by rw [lits_len, List.length_set, hr]
  have hs2 := hs1.recast (blk := ⟨eo, 1, .pure, lits (us'.set k v')⟩) ho1 hne hlu (lits_row _) fun g' hg' hB => by
    rw [blkOf_of hg1] at hg'
    injection hg' with hg'
    subst hg'
    refine ⟨cur, hc, fun j u hj => ?_⟩
    rw [one_flat (lits_row _)] at hj
    by_cases hjk : k = j
    · subst hjk
      have h1 : (us'.set k v')[k]? = some v' := by rw [List.getElem?_set_self (by omega)]
      rw [lits_at.2 h1] at hj
      injection hj with hj; injection hj with hj; subst hj
      exact ⟨v', hv', hone, .lit⟩
    · have hj2 : (lits us')[j]? = some [u] := by
        rw [← hj]
        unfold lits
        rw [List.getElem?_map, List.getElem?_map, List.getElem?_set_ne hjk]
      obtain ⟨z, hz, hz1, hz2⟩ := hu j u ((one_flat hrows).2 (by rw [hrj j (fun h => hjk h.symm)]; exact hj2))
      obtain ⟨v2, _, h⟩ := List.mem_map.1 (List.mem_of_getElem? hj2)
      injection h with h; subst h
      cases hz2
      exact ⟨_, hz, hz1, .lit⟩
  refine ⟨K', v', hs2.congrO fun b => ?_, fun j t hj => ?_, hK⟩
  · show olk (setO o ⟨eo, 1, .pure, lits (us'.set k v')⟩ (delO y V) ++ fam e sz T') b = olk (setO o ⟨eo, 1, .pure, lits (us'.set k v')⟩ (setO (fid k) ⟨e, sz, .pure, t'⟩ (delO y (V ++ Tl)))) b
    rw [olk_cat, olk_setO, olk_delO, olk_setO, olk_setO, olk_delO, olk_cat, hTl]
    by_cases h2 : o = b
    · subst h2; rw [if_pos rfl, if_pos rfl]; rfl
    · rw [if_neg h2, if_neg h2]
      by_cases h3 : fid k = b
      · subst h3
        rw [if_pos rfl, fam_at, hTk]
        by_cases h4 : y = fid k
        · rw [if_pos h4]; rfl
        · rw [if_neg h4, noFid_get hnf k]; rfl
      · rw [if_neg h3, if_neg h3]
        by_cases h4 : y = b
        · subst h4
          rw [if_pos rfl, if_pos rfl]
          cases hq : olk (fam e sz T') y with
          | none => rfl
          | some z => obtain ⟨j, _, h, _⟩ := fam_inv hq; exact absurd h (hyj j)
        · rw [if_neg h4, if_neg h4]
  · by_cases hjk : j = k
    · subst hjk
      rw [hTk] at hj
      injection hj with hj; subst hj
      refine ⟨v', by rw [List.getElem?_set_self (by omega)], ?_⟩
      rw [hnl]
      have hvr' : VR w (fun _ => True) K1 (.osl (fid j) sz n) v' := VR.osl_id (K := K') hvr (hKx1.trans (hK y (hyj _)).symm)
      exact hKv hvr'
    · obtain ⟨v2, h1, h2⟩ := hl j t hjk hj
      refine ⟨v2, by rw [List.getElem?_set_ne (fun h => hjk h.symm)]; exact h1, h2.osl_id (hK _ (fun h => hjk (fid_inj h)))⟩
/-- the member that was taken out comes back, cut -/
theorem nest_backT {y k n : Nat} {tt : List (List AV)} {rows : List (List AV)} (hs : SRK E K ⟨fr, V ++ delO (fid k) (fam e sz T)⟩ a w) (hl : LitF w K sz us T) (hnf : noFid V = true) (hk : k < T.length)
    (ho : olk V o = some ⟨eo, 1, .any, rows⟩) (hrows : rows = (lits us).set k [.osl y sz n]) (hy : olk V y = some ⟨e, sz, .pure, tt⟩) (hn : n ≤ tt.length) (hoy : o ≠ y) (hpx : ∀ j, E.pin (fid j) = none) (hfr : noFF fr = true) (hVx : noFO o V = true) (hyf : y % 16 ≠ 15) :
    ∃ K' v', SRK E K' ⟨fr, setO o ⟨eo, 1, .pure, lits (us.set k v')⟩ (delO y V) ++ fam e sz (T.set k (tt.take n))⟩ a w ∧ LitF w K' sz (us.set k v') (T.set k (tt.take n)) ∧ ∀ i, i ≠ fid k → K' i = K i := by
  have hkl : k < us.length := Nat.lt_of_lt_of_le hk hl.len
  subst hrows
  refine nest_closeT (T' := T.set k (tt.take n)) (us' := us) (n := n) (tt := tt) hs hnf (fun b => ?_) (by rw [List.getElem?_set_self hk]) (fun j t hj ht => ?_) ho hy hn rfl hoy (by rw [List.length_set, lits_len]) (by rw [List.getElem?_set_self (by rw [lits_len]; exact hkl)]) (fun j hj => by rw [List.getElem?_set_ne (fun h => hj h.symm)]) (hpx k) (noFF_lk k hfr) (noFO_get o k hVx) hyf
  · rw [olk_delO]
    by_cases h : fid k = b
    · rw [if_pos h, if_pos h]
    · rw [if_neg h, if_neg h, fam_set h]
  · rw [List.getElem?_set_ne (fun h => hj h.symm)] at ht
    exact hl j t ht
end
end Go.Abs
namespace Go.Abs
open Go.RowKit
section
variable {E : Env} {K : KM} {c : Cfg} {a : Act} {w : World} {fr : List (Nat × AV)} {V : List (Nat × OBlk)}
/-- a block's entry is said anew, with the same rows -/
theorem SRK.recastK {b : Nat} {blk blk0 : OBlk} (h : SRK E K c a w) (hb : olk c.O b = some blk0) (hr : blk.rows = blk0.rows) (hsz : blk.sz = blk0.sz)
    (hblk : ∀ g, BlkR w (XX E K c.O) K g blk0 → BlkR w (XX E K c.O) K g blk) : SRK E K ⟨c.fr, setO b blk c.O⟩ a w := by
  have hsome : ∀ i, (olk (setO b blk c.O) i).isSome = true → (olk c.O i).isSome = true := by
    intro i hi
    rw [olk_setO] at hi
    split at hi
    · rename_i e; subst e; rw [hb]; rfl
    · exact hi
  have hX : ∀ r, XX E K (setO b blk c.O) r → XX E K c.O r := by
    rintro r (⟨i, hi, hk⟩ | hx)
    · exact .inl ⟨i, hsome i hi, hk⟩
    · exact .inr hx
  refine ⟨h.size, h.defers, h.ext, fun t => (h.fr t).sub (fun g _ => hX g), fun i x hi => ?_, fun i x hi => ?_, fun i i' r h1 h2 => h.inj i i' r (hsome i h1) (hsome i' h2), fun i r h1 => h.mine i r (hsome i h1), h.pin⟩
  · simp only [olk_setO] at hi
    split at hi
    · injection hi with hi; subst hi
      rw [hr, hsz]; exact h.rows b blk0 hb
    · exact h.rows i x hi
  · simp only [olk_setO] at hi
    split at hi
    · rename_i e; subst e
      injection hi with hi; subst hi
      rcases h.own b blk0 hb with ⟨h1, h2⟩ | ⟨g, h1, h2⟩
      · exact .inl ⟨h1, by rw [hr]; exact h2⟩
      · exact .inr ⟨g, by rw [hr]; exact h1, (hblk g h2).keep rfl (Keep.refl _ _) (fun g _ => hX g) (fun _ _ _ _ _ _ => rfl)⟩
    · rcases h.own i x hi with h1 | ⟨g, h1, h2⟩
      · exact .inl h1
      · exact .inr ⟨g, h1, h2.keep rfl (Keep.refl _ _) (fun g _ => hX g) (fun _ _ _ _ _ _ => rfl)⟩
/-- rows of literals, of whatever kind -/
theorem SRK.litsAny {o eo : Nat} {us : List Value} {O : List (Nat × OBlk)} (h : SRK E K ⟨fr, O⟩ a w) (ho : olk O o = some ⟨eo, 1, .pure, Abs.lits us⟩) : SRK E K ⟨fr, setO o ⟨eo, 1, .any, Abs.lits us⟩ O⟩ a w :=
  h.recastK ho rfl rfl fun g hB => by
    obtain ⟨cur, hc, hu⟩ := hB
    refine ⟨cur, hc, fun j u hj => ?_⟩
    obtain ⟨x, hx, h1, h2⟩ := hu j u hj
    refine ⟨x, hx, h1, ?_⟩
    simp only [lits_flat] at hj
    obtain ⟨v, _, rfl⟩ := List.mem_map.1 (List.mem_of_getElem? hj)
    cases h2
    exact .lit
/-- the block of a variable's slice gets another id, in the variable too -/
theorem SRK.revar {bv b b' ev sz n : Nat} {blk : OBlk} {O : List (Nat × OBlk)} (h : SRK E K ⟨fr, O⟩ a w) (hpn : E.pin b' = none) (hbv : olk O bv = some ⟨ev, 1, .any, [[.osl b sz n]]⟩) (hb : olk O b = some blk) (h1 : olk O b' = none) (hne : bv ≠ b)
    (h2 : ∀ t, (lk fr t).has b' = false) (h3 : ∀ i x, olk O i = some x → x.kd = .any → hasRow b' x.rows = false) :
    ∃ K', SRK E K' ⟨fr, setO bv ⟨ev, 1, .any, [[.osl b' sz n]]⟩ (setO b' blk (delO b O))⟩ a w ∧ ∀ i, i ≠ b' → K' i = K i := by
  have hbb : b ≠ b' := by rintro rfl; rw [hb] at h1; cases h1
  have hvb : bv ≠ b' := by rintro rfl; rw [hbv] at h1; cases h1
  obtain ⟨K', hK, hKb, hs⟩ := h.renameAny hpn hb h1 h2 h3
  have hbv' : olk (setO b' blk (delO b O)) bv = some ⟨ev, 1, .any, [[.osl b sz n]]⟩ := by
    rw [olk_setO, if_neg (fun e => hvb e.symm), olk_delO, if_neg (fun e => hne e.symm)]; exact hbv
  refine ⟨K', hs.recast hbv' (by simp) rfl (by simp) fun g _ hB => ?_, hK⟩
  obtain ⟨cur, hc, hu⟩ := hB
  refine ⟨cur, hc, fun j u hj => ?_⟩
  cases j with
  | zero =>
    simp at hj; subst hj
    obtain ⟨x, hx, g1, g2⟩ := hu 0 (.osl b sz n) (by simp)
    exact ⟨x, hx, g1, VR.osl_id (K := K') g2 (hKb.trans (hK b hbb).symm)⟩
  | succ j => simp at hj
end
theorem LitF.keepK {w : World} {K K' : KM} {sz : Nat} {us : List Value} {T : List (List (List AV))} (h : LitF w K sz us T) (hK : ∀ j, K' (fid j) = K (fid j)) : LitF w K' sz us T := fun j t ht => by
  obtain ⟨v, hv, h1⟩ := h j t ht
  exact ⟨v, hv, h1.osl_id (hK j)⟩
end Go.Abs
namespace Go.Abs
theorem fam_none {e sz b : Nat} {T : List (List (List AV))} (h : b % 16 ≠ 15) : olk (fam e sz T) b = none := by
  cases hx : olk (fam e sz T) b with
  | none => rfl
  | some x =>
    obtain ⟨j, _, rfl, _, _⟩ := fam_inv hx
    exact absurd (by unfold fid; omega) h
/-- the same, beside a family -/
theorem SRK.revarT {E : Env} {K : KM} {a : Act} {w : World} {fr : List (Nat × AV)} {V : List (Nat × OBlk)} {bv b b' ev sz n e' sz' : Nat} {blk : OBlk} {T : List (List (List AV))} (h : SRK E K ⟨fr, V ++ fam e' sz' T⟩ a w) (hpn : E.pin b' = none) (hbv : olk V bv = some ⟨ev, 1, .any, [[.osl b sz n]]⟩) (hb : olk V b = some blk) (h1 : olk V b' = none) (hne : bv ≠ b)
    (hm : b % 16 ≠ 15) (hm' : b' % 16 ≠ 15) (h2 : freshF b' fr = true) (h3 : freshO b' V = true) :
    ∃ K', SRK E K' ⟨fr, setO bv ⟨ev, 1, .any, [[.osl b' sz n]]⟩ (setO b' blk (delO b V)) ++ fam e' sz' T⟩ a w ∧ ∀ i, i ≠ b' → K' i = K i := by
  obtain ⟨K', hs, hK⟩ := h.revar (b := b) (b' := b') hpn (olk_app_l hbv) (olk_app_l hb) (by rw [olk_app_r h1]; exact fam_none hm') hne (fun t => freshF_lk t h2) (fun i x hx hk => by
    rcases olk_app_inv hx with hx | ⟨_, hx⟩
    · exact (freshO_olk h3 hx).2 hk
    · obtain ⟨_, _, _, _, rfl⟩ := fam_inv hx; cases hk)
  refine ⟨K', hs.congrO fun i => ?_, hK⟩
  rw [olk_cat, olk_setO, olk_setO, olk_delO, olk_setO, olk_setO, olk_delO, olk_cat]
  by_cases e1 : bv = i
  · rw [if_pos e1, if_pos e1]; rfl
  · rw [if_neg e1, if_neg e1]
    by_cases e2 : b' = i
    · rw [if_pos e2, if_pos e2]; rfl
    · rw [if_neg e2, if_neg e2]
      by_cases e3 : b = i
      · subst e3
        rw [if_pos rfl, if_pos rfl, fam_none hm]; rfl
      · rw [if_neg e3, if_neg e3]
end Go.Abs
namespace Go.Abs
open Go.RowKit
set_option linter.unusedVariables false
/-! ### functions that bind blocks anew that are handed over -/
def FnT (P : Program) (f : FuncId) (args : List AV) (O : List (Nat × OBlk)) (pins : List Nat) (Pre : World → KM → Prop) (Post : World → KM → List (Nat × OBlk) → AV → Prop) : Prop :=
  Head P f ∧ ∀ (XF : Nat → Prop) (w : World) (K : KM) (vs : Array Value), (∀ w', Ext (Live K O) w w' → WI w') → (∀ g, XF g → ¬ Live K O g ∧ g < w.heap.size) → OwnR w (fun g => Live K O g ∨ XF g) K O → args.length = vs.size →
    (∀ (j : Nat) u c, args[j]? = some u → vs[j]? = some c → VR w (fun g => Live K O g ∨ XF g) K u c) → Pre w K →
    Calls P f vs w fun e w' => ∃ v K' O' r, e = .returned v ∧ Post w' K' O' r ∧ VR w' (fun _ => True) K0 r v ∧ r.scalar = true ∧ (∀ b, memN b pins = true → K' b = K b) ∧ OwnR w' (fun g => Live K' O' g ∨ XF g) K' O' ∧ (∀ g, Live K' O' g → Live K O g ∨ w.heap.size ≤ g) ∧ Ext (Live K O) w w'
section
variable {P : Program} {N : Nat}
def EndT (t : Nat) (E : Env) (Post : World → KM → List (Nat × OBlk) → AV → Prop) : Exit → Act → World → Prop := fun e a w => (e = .normal ∨ e = .ret) ∧ ∃ K c, SRK E K c a w ∧ (lk c.fr t).scalar = true ∧ Post w K c.O (lk c.fr t)
theorem fnT_of {f : FuncId} {fn : Func} {code : Code} {args : List AV} {O : List (Nat × OBlk)} {pins : List Nat} {Pre : World → KM → Prop} {Post : World → KM → List (Nat × OBlk) → AV → Prop} (t : Nat)
    (hf : P.funcs[f]? = some fn) (hb : fn.body = some code) (hname : (fn.name == "runtime.NumGoroutine") = false) (hn : Nat.ble args.length fn.ntmps = true) (hN : fn.ntmps = N)
    (hr : fn.results.toList = [.tmp t]) (hpins : ∀ b, memN b pins = true → Nat.ble 2 (b % 16) = true ∧ (olk O b).isSome = true)
    (h : ∀ (E : Env) (K : KM) (a : Act) (w : World), E.N = N → (∀ b, memN b pins = false → E.pin b = none) → SRK E K ⟨idx 0 args, O⟩ a w → Pre w K → code.wp P (EndT t E Post) a w) : FnT P f args O pins Pre Post := by
  refine ⟨⟨fn, hf, hname, by rw [hb]; rfl⟩, fun XF w K vs hwi hxf hown hlen hargs hpre => ?_⟩
  refine calls_of_wp hf hb ?_
  have hn' := Nat.le_of_ble_eq_true hn
  subst hN
  let E : Env := ⟨Live K O, XF, w, fn.ntmps, hwi, fun b => if memN b pins = true then K b else none, fun b x hx => by
    by_cases hm : memN b pins = true
    · exact (hpins b hm).1
    · rw [if_neg hm] at hx; exact (by cases hx), fun g hg => (hxf g hg).1⟩
  have hXX : ∀ g, XX E K O g → Live K O g ∨ XF g := by
    rintro g (h | h)
    · exact .inl h
    · exact .inr h.1
  refine wp_mono (h E K _ _ rfl (fun b hb => by simp only [E]; rw [if_neg (by rw [hb]; simp)]) ?_ hpre) ?_
  · refine ⟨by simp [E]; omega, rfl, ⟨rfl, rfl, rfl, Nat.le_refl _, fun _ _ _ => rfl, fun _ cur _ h => ⟨cur, h, rfl⟩⟩, fun s => ?_, hown.rows, fun b y hb => ?_, hown.inj, fun b g h1 h2 => .inl ⟨b, h1, h2⟩, fun b x hx => ?_⟩
    · simp only [lk_idx, Nat.zero_le, if_true, Nat.sub_zero]
      cases hu : args[s]? with
      | none => rw [List.getD_eq_getElem?_getD, hu]; exact FV.top
      | some u =>
        rw [List.getD_eq_getElem?_getD, hu]
        have hs : s < vs.size := by rw [← hlen]; exact (List.getElem?_eq_some_iff.1 hu).1
        have hvs : vs[s]? = some vs[s] := by simp [hs]
        have := hargs s u _ hu hvs
        rw [show (vs ++ Array.replicate (fn.ntmps - vs.size) undef).getD s undef = vs[s] by
          rw [Array.getD_eq_getD_getElem?, Array.getElem?_append_left hs]
          simp [hs]]
        exact FV.of (this.sub fun g _ hg => hXX g hg)
    · rcases hown.own b y hb with h1 | ⟨g, h1, h2⟩
      · exact .inl h1
      · exact .inr ⟨g, h1, h2.keep rfl (Keep.refl _ _) (fun g _ hg => hXX g hg) (fun _ _ _ _ _ _ => rfl)⟩
    · simp only [E] at hx
      by_cases hm : memN b pins = true
      · rw [if_pos hm] at hx; exact hx
      · rw [if_neg hm] at hx; cases hx
  · rintro e a w' ⟨he, K', c, hs, hsc, hpost⟩
    have hv' : VR w' (XX E K' c.O) K' (lk c.fr t) (a.tmps.getD t undef) := (hs.fr t).vr (by rintro d want u' h; rw [h] at hsc; cases hsc)
    have hKK : ∀ b, memN b pins = true → K' b = K b := by
      intro b hb
      rcases hK : K b with _ | x
      · obtain ⟨y, hy⟩ := Option.isSome_iff_exists.1 (hpins b hb).2
        rcases hown.own b y hy with ⟨h1, _⟩ | ⟨g, h1, _⟩
        · rw [hK] at h1; cases h1
        · rw [hK] at h1; cases h1
      · exact hs.pin b x (by simp only [E]; rw [if_pos hb]; exact hK)
    have hXX' : ∀ g, Live K' c.O g ∨ XF g → XX E K' c.O g := by
      rintro g (h | h)
      · exact .inl h
      · exact .inr ⟨h, (hxf g h).2⟩
    have key : a.defers = [] ∧ ∃ v1, (results fn a.tmps).run P w' = .ok v1 w' ∧ ∃ v K' O' r, Ending.returned v1 = .returned v ∧ Post w' K' O' r ∧ VR w' (fun _ => True) K0 r v ∧ r.scalar = true ∧ (∀ b, memN b pins = true → K' b = K b) ∧ OwnR w' (fun g => Live K' O' g ∨ XF g) K' O' ∧ (∀ g, Live K' O' g → Live K O g ∨ w.heap.size ≤ g) ∧ Ext (Live K O) w w' := by
      refine ⟨hs.defers, a.tmps.getD t undef, results_run hr _ _ (vs := [a.tmps.getD t undef]) rfl (fun j x v2 hx hv2 => by
          cases j with
          | zero => simp at hx hv2; subst hx hv2; simp [resRun]
          | succ j => simp at hx), _, K', c.O, lk c.fr t, rfl, hpost, scalar_sound hsc hv' _ _, hsc, hKK, ⟨hs.rows, fun b blk hb => ?_, hs.inj⟩, fun g ⟨b, h1, h2⟩ => hs.mine b g h1 h2, hs.ext⟩
      rcases hs.own b blk hb with h1 | ⟨g, h1, h2⟩
      · exact .inl h1
      · exact .inr ⟨g, h1, h2.keep rfl (Keep.refl _ _) (fun g _ hg => hXX' g hg) (fun _ _ _ _ _ _ => rfl)⟩
    rcases he with rfl | rfl
    · exact key
    · exact key
/-- what a call of such a function leaves -/
theorem SRK.callT {E : Env} {K K' : KM} {fr : List (Nat × AV)} {O O' : List (Nat × OBlk)} {a : Act} {w w' : World} {pins : List Nat} (h : SRK E K ⟨fr, O⟩ a w)
    (hK : ∀ b, memN b pins = true → K' b = K b) (hown : OwnR w' (fun g => Live K' O' g ∨ (E.XF g ∧ g < E.w0.heap.size)) K' O') (hl : ∀ g, Live K' O' g → Live K O g ∨ w.heap.size ≤ g) (hx : Ext (Live K O) w w')
    (hfr : ∀ t b, (lk fr t).has b = true → memN b pins = true) (hpin : ∀ b, memN b pins = false → E.pin b = none) : SRK E K' ⟨fr, O'⟩ a w' := by
  have hmine : ∀ g, Live K O g → E.X0 g ∨ E.w0.heap.size ≤ g := fun g ⟨b, hb, hk⟩ => h.mine b g hb hk
  have hX : ∀ g, g < w.heap.size → XX E K' O' g → XX E K O g := by
    rintro g hg (hL | hL)
    · rcases hl g hL with h1 | h1
      · exact .inl h1
      · omega
    · exact .inr hL
  have hkeep : Keep (XX E K O) w w' := ⟨hx.size, fun g hg hn => hx.block g hg fun hL => hn (.inl hL), hx.shape⟩
  refine ⟨h.size, h.defers, ⟨hx.os.trans h.ext.os, hx.tape.trans h.ext.tape, hx.output.trans h.ext.output, Nat.le_trans h.ext.size hx.size, fun g hg hX => ?_, fun g cur e hc => ?_⟩, fun t => (h.fr t).keep hkeep hX fun b hb => hK b (hfr t b hb), hown.rows, hown.own, hown.inj, fun b g h1 k1 => ?_, fun b x hb => ?_⟩
  · rw [hx.block g (Nat.lt_of_lt_of_le hg h.ext.size) fun hL => ?_]
    · exact h.ext.block g hg hX
    · rcases hmine g hL with h1 | h1
      · exact hX h1
      · omega
  · obtain ⟨c1, h1, s1⟩ := h.ext.shape g cur e hc
    obtain ⟨c2, h2, s2⟩ := hx.shape g c1 e h1
    exact ⟨c2, h2, s2.trans s1⟩
  · rcases hl g ⟨b, h1, k1⟩ with h2 | h2
    · exact hmine g h2
    · exact .inr (Nat.le_trans h.ext.size h2)
  · have hm : memN b pins = true := by
      cases hq : memN b pins with
      | true => rfl
      | false => rw [hpin b hq] at hb; cases hb
    rw [hK b hm]
    exact h.pin b x hb
/-- the operation that calls it -/
theorem wpOp_callT {E : Env} {K : KM} {fr : List (Nat × AV)} {O : List (Nat × OBlk)} {a : Act} {w : World} {pins : List Nat} {Pre : World → KM → Prop} {Post : World → KM → List (Nat × OBlk) → AV → Prop} {ops : Array Oper} {o : Oper} {Q : Exit → Act → World → Prop} {Kk : Act → World → Prop} {i g : Nat} {f : Operand} {args : Array Operand} {ts : Array TypeId} {caps us : List AV}
    (ho : ops[i]? = some o) (hop : o.op = .call { callee := .value f, args := args, argTypes := ts }) (hw : Region.wanted o (yielded ops a.tmps) = true) (hs : SRK E K ⟨fr, O⟩ a w) (hfn : FnT P g us O pins Pre Post) (hpre : Pre w K)
    (hf : opv ⟨fr, O⟩ f = .func g caps) (hus : args.toList.map (opv ⟨fr, O⟩) ++ caps = us) (hno : ∀ u ∈ us, ∀ d want u', u ≠ .opt d want u')
    (hfr : ∀ t b, (lk fr t).has b = true → memN b pins = true) (hpin : ∀ b, memN b pins = false → E.pin b = none) (hd : dstOK E.N ⟨fr, O⟩ o.dst = true)
    (hk : ∀ K' O' r v w', Post w' K' O' r → r.scalar = true → SRK E K' ⟨putF o.dst r fr, O'⟩ (a.put o.dst v) w' → Kk (a.put o.dst v) w') : wpOp P ops Q i Kk a w := by
  obtain ⟨⟨fn, hfn1, hname, hbody⟩, hfun⟩ := hfn
  have hval := opv_vals (c := ⟨fr, O⟩) hs
  obtain ⟨cv, ef, cl, cvv⟩ := VR.func_inv (hval.at hf)
  obtain ⟨ml, mv⟩ := map_vals hval args
  unfold wpOp
  rw [ho]
  simp only
  rw [if_pos hw]
  left
  unfold Oper.wp
  have hrun : (execOp a.eval o).run P w = .ok (.enter g (args.map a.eval ++ cv)) w := by
    simp only [execOp, hop, resolve, ef, Deferred.ofValue, Sem.run_bind, Sem.run_pure, Result.andThen_ok, invoke, callFunc, run_program]
    simp [hfn1, hname, hbody]
  rw [hrun, Oper.upon_enter]
  have hsize : us.length = (args.map a.eval ++ cv).size := by
    rw [← hus]; simp [cl]
  have hargs : ∀ (j : Nat) u v, us[j]? = some u → (args.map a.eval ++ cv)[j]? = some v → VR w (fun g => Live K O g ∨ (E.XF g ∧ g < E.w0.heap.size)) K u v := by
    intro j u v hu hv
    have hnu := hno u (List.mem_of_getElem? hu)
    rw [← hus] at hu
    have hasl : (args.toList.map (opv ⟨fr, O⟩)).length = (args.map a.eval).size := by simp
    rcases Nat.lt_or_ge j (args.toList.map (opv ⟨fr, O⟩)).length with hlt | hge
    · rw [List.getElem?_append_left hlt] at hu
      rw [Array.getElem?_append_left (by omega)] at hv
      exact FV.vr (mv j u v hu (by simpa using hv)) hnu
    · rw [List.getElem?_append_right hge] at hu
      rw [Array.getElem?_append_right (by omega)] at hv
      rw [hasl] at hu
      exact cvv _ u v hu hv
  have hwi : ∀ w', Ext (Live K O) w w' → WI w' := by
    intro w' hx
    refine E.hwi _ ⟨hx.os.trans hs.ext.os, hx.tape.trans hs.ext.tape, hx.output.trans hs.ext.output, Nat.le_trans hs.ext.size hx.size, fun g hg hX => ?_, fun g cur e hc => ?_⟩
    · rw [hx.block g (Nat.lt_of_lt_of_le hg hs.ext.size) fun ⟨b, hb, hk⟩ => ?_]
      · exact hs.ext.block g hg hX
      · rcases hs.mine b g hb hk with h | h
        · exact hX h
        · omega
    · obtain ⟨c1, h1, s1⟩ := hs.ext.shape g cur e hc
      obtain ⟨c2, h2, s2⟩ := hx.shape g c1 e h1
      exact ⟨c2, h2, s2.trans s1⟩
  refine (hfun (fun g => E.XF g ∧ g < E.w0.heap.size) w K _ hwi (fun g hg => ⟨fun ⟨b, hb, hk⟩ => ?_, Nat.lt_of_lt_of_le hg.2 hs.ext.size⟩) ⟨hs.rows, hs.own, hs.inj⟩ hsize hargs hpre).mono ?_
  · rcases hs.mine b g hb hk with h | h
    · exact E.hxf g hg.1 h
    · have := hg.2; omega
  · rintro e w1 ⟨v, K', O', r, rfl, hpost, hrv, hsc, hKK, hown, hl, hx⟩
    have hs1 := hs.callT hKK hown hl hx hfr hpin
    refine hk K' O' r v w1 hpost hsc (hs1.put (dst := o.dst) (u := r) (v := v) ?_ fun d _ => ?_)
    · exact hd
    · exact FV.of (scalar_sound hsc hrv _ _)
end
end Go.Abs
namespace Go.Abs
mutual
/-- no id but these -/
def AV.inP (ps : List Nat) : AV → Bool
  | .osl b _ _ => memN b ps
  | .optr b _ _ _ => memN b ps
  | .osuf b _ _ _ => memN b ps
  | .ovar b _ => memN b ps
  | .agg xs => AV.inPL ps xs
  | .tup xs => AV.inPL ps xs
  | .func _ xs => AV.inPL ps xs
  | .opt _ _ v => AV.inP ps v
  | _ => true
def AV.inPL (ps : List Nat) : List AV → Bool
  | [] => true
  | u :: us => AV.inP ps u && AV.inPL ps us
end
mutual
theorem has_inP {ps : List Nat} {b : Nat} : ∀ u : AV, u.inP ps = true → u.has b = true → memN b ps = true
  | .osl b' _ _, h, hb => by simp only [AV.has, beq_iff_eq] at hb; subst hb; exact h
  | .optr b' _ _ _, h, hb => by simp only [AV.has, beq_iff_eq] at hb; subst hb; exact h
  | .osuf b' _ _ _, h, hb => by simp only [AV.has, beq_iff_eq] at hb; subst hb; exact h
  | .ovar b' _, h, hb => by simp only [AV.has, beq_iff_eq] at hb; subst hb; exact h
  | .agg xs, h, hb => hasL_inP xs h hb
  | .tup xs, h, hb => hasL_inP xs h hb
  | .func _ xs, h, hb => hasL_inP xs h hb
  | .opt _ _ v, h, hb => has_inP v h hb
  | .top, _, hb => by cases hb
  | .bool _, _, hb => by cases hb
  | .int _ _, _, hb => by cases hb
  | .str _, _, hb => by cases hb
  | .nilsl, _, hb => by cases hb
  | .nilfn, _, hb => by cases hb
  | .esl, _, hb => by cases hb
  | .und, _, hb => by cases hb
  | .lit _, _, hb => by cases hb
  | .rsl _ _ _, _, hb => by cases hb
  | .rptr _ _, _, hb => by cases hb
  | .fsl _ _ _ _ _, _, hb => by cases hb
theorem hasL_inP {ps : List Nat} {b : Nat} : ∀ xs : List AV, AV.inPL ps xs = true → AV.hasL b xs = true → memN b ps = true
  | [], _, hb => by cases hb
  | x :: xs, h, hb => by
    simp only [AV.inPL, Bool.and_eq_true] at h
    simp only [AV.hasL, Bool.or_eq_true] at hb
    rcases hb with hb | hb
    · exact has_inP x h.1 hb
    · exact hasL_inP xs h.2 hb
end
def inPF (ps : List Nat) : List (Nat × AV) → Bool
  | [] => true
  | (_, v) :: r => v.inP ps && inPF ps r
theorem inPF_lk {ps : List Nat} : ∀ {fr : List (Nat × AV)}, inPF ps fr = true → ∀ t b, (lk fr t).has b = true → memN b ps = true
  | [], _, t, b, h => by simp [lk, AV.has] at h
  | (s, v) :: r, hf, t, b, h => by
    simp only [inPF, Bool.and_eq_true] at hf
    rw [lk_cons] at h
    split at h
    · exact has_inP v hf.1 h
    · exact inPF_lk hf.2 t b h
def noOptL : List AV → Bool
  | [] => true
  | u :: us => notOpt u && noOptL us
theorem noOptL_get : ∀ {us : List AV}, noOptL us = true → ∀ u ∈ us, ∀ d want u', u ≠ .opt d want u'
  | x :: xs, h, u, hu, d, want, u', e => by
    simp only [noOptL, Bool.and_eq_true] at h
    rcases List.mem_cons.1 hu with rfl | hu
    · subst e; cases h.1
    · exact noOptL_get h.2 u hu d want u' e
end Go.Abs
namespace Go.Abs
theorem wanted_no' {ops : Array Oper} {o : Oper} {tm : Array Value} (hg : o.guard = none) : Region.wanted o (yielded ops tm) = true := by
  simp [Region.wanted, hg]
end Go.Abs
namespace Go.Abs
theorem wp_evOpsN {P : Program} {T : Tab} {E : Env} {N : Nat} (hT : TabOK P T) (h1 : TabOne T = true) (hN : E.N = N) {K : KM} {fr : List (Nat × AV)} {V Tl : List (Nat × OBlk)} {a : Act} {w : World} {ops : Array Oper} {dm : List (Nat × Bool)} {Kk : Cfg → Prop} {Q : Exit → Act → World → Prop} {is : List Nat}
    (hs : SRK E K ⟨fr, V ++ Tl⟩ a w) (htl : TailOK Tl) (hap : Apart V Tl) (A : Acc) (i n : Nat)
    (hn : ((ops.toList.drop i).take n).length = n) (h : evOps false P T N dm ops A i ((ops.toList.drop i).take n) ⟨fr, V⟩ Kk)
    (hQ : ∀ c' K' a' w', Kk c' → SRK E K' ⟨c'.fr, c'.O ++ Tl⟩ a' w' → Left K V w K' w' → wpOps P ops Q is a' w') : wpOps P ops Q (List.range' i n ++ is) a w := by
  have := wp_evOps (Tl := Tl) (is := is) (Q := Q) (l := (ops.toList.drop i).take n) hT h1 hN htl hap (fun j hj => by
    rw [List.getElem?_take_of_lt (by omega), List.getElem?_drop]; simp) h hs hQ
  rw [hn] at this
  exact this
end Go.Abs
namespace Go.Abs
open Go.RowKit
set_option linter.unusedVariables false
/-! ### functions that bind blocks anew that are handed over -/
def FnV (P : Program) (f : FuncId) (args : List AV) (O : List (Nat × OBlk)) (pins : List Nat) (Pre : World → KM → Prop) (Post : World → KM → List (Nat × OBlk) → Prop) : Prop :=
  Head P f ∧ ∀ (XF : Nat → Prop) (w : World) (K : KM) (vs : Array Value), (∀ w', Ext (Live K O) w w' → WI w') → (∀ g, XF g → ¬ Live K O g ∧ g < w.heap.size) → OwnR w (fun g => Live K O g ∨ XF g) K O → args.length = vs.size →
    (∀ (j : Nat) u c, args[j]? = some u → vs[j]? = some c → VR w (fun g => Live K O g ∨ XF g) K u c) → Pre w K →
    Calls P f vs w fun e w' => ∃ v K' O', e = .returned v ∧ Post w' K' O' ∧ (∀ b, memN b pins = true → K' b = K b) ∧ OwnR w' (fun g => Live K' O' g ∨ XF g) K' O' ∧ (∀ g, Live K' O' g → Live K O g ∨ w.heap.size ≤ g) ∧ Ext (Live K O) w w'
section
variable {P : Program} {N : Nat}
def EndV (E : Env) (Post : World → KM → List (Nat × OBlk) → Prop) : Exit → Act → World → Prop := fun e a w => (e = .normal ∨ e = .ret) ∧ ∃ K c, SRK E K c a w ∧ Post w K c.O
theorem fnV_of {f : FuncId} {fn : Func} {code : Code} {args : List AV} {O : List (Nat × OBlk)} {pins : List Nat} {Pre : World → KM → Prop} {Post : World → KM → List (Nat × OBlk) → Prop}
    (hf : P.funcs[f]? = some fn) (hb : fn.body = some code) (hname : (fn.name == "runtime.NumGoroutine") = false) (hn : Nat.ble args.length fn.ntmps = true) (hN : fn.ntmps = N)
    (hr : fn.results.toList = []) (hpins : ∀ b, memN b pins = true → Nat.ble 2 (b % 16) = true ∧ (olk O b).isSome = true)
    (h : ∀ (E : Env) (K : KM) (a : Act) (w : World), E.N = N → (∀ b, memN b pins = false → E.pin b = none) → SRK E K ⟨idx 0 args, O⟩ a w → Pre w K → code.wp P (EndV E Post) a w) : FnV P f args O pins Pre Post := by
  refine ⟨⟨fn, hf, hname, by rw [hb]; rfl⟩, fun XF w K vs hwi hxf hown hlen hargs hpre => ?_⟩
  refine calls_of_wp hf hb ?_
  have hn' := Nat.le_of_ble_eq_true hn
  subst hN
  let E : Env := ⟨Live K O, XF, w, fn.ntmps, hwi, fun b => if memN b pins = true then K b else none, fun b x hx => by
    by_cases hm : memN b pins = true
    · exact (hpins b hm).1
    · rw [if_neg hm] at hx; exact (by cases hx), fun g hg => (hxf g hg).1⟩
  have hXX : ∀ g, XX E K O g → Live K O g ∨ XF g := by
    rintro g (h | h)
    · exact .inl h
    · exact .inr h.1
  refine wp_mono (h E K _ _ rfl (fun b hb => by simp only [E]; rw [if_neg (by rw [hb]; simp)]) ?_ hpre) ?_
  · refine ⟨by simp [E]; omega, rfl, ⟨rfl, rfl, rfl, Nat.le_refl _, fun _ _ _ => rfl, fun _ cur _ h => ⟨cur, h, rfl⟩⟩, fun s => ?_, hown.rows, fun b y hb => ?_, hown.inj, fun b g h1 h2 => .inl ⟨b, h1, h2⟩, fun b x hx => ?_⟩
    · simp only [lk_idx, Nat.zero_le, if_true, Nat.sub_zero]
      cases hu : args[s]? with
      | none => rw [List.getD_eq_getElem?_getD, hu]; exact FV.top
      | some u =>
        rw [List.getD_eq_getElem?_getD, hu]
        have hs : s < vs.size := by rw [← hlen]; exact (List.getElem?_eq_some_iff.1 hu).1
        have hvs : vs[s]? = some vs[s] := by simp [hs]
        have := hargs s u _ hu hvs
        rw [show (vs ++ Array.replicate (fn.ntmps - vs.size) undef).getD s undef = vs[s] by
          rw [Array.getD_eq_getD_getElem?, Array.getElem?_append_left hs]
          simp [hs]]
        exact FV.of (this.sub fun g _ hg => hXX g hg)
    · rcases hown.own b y hb with h1 | ⟨g, h1, h2⟩
      · exact .inl h1
      · exact .inr ⟨g, h1, h2.keep rfl (Keep.refl _ _) (fun g _ hg => hXX g hg) (fun _ _ _ _ _ _ => rfl)⟩
    · simp only [E] at hx
      by_cases hm : memN b pins = true
      · rw [if_pos hm] at hx; exact hx
      · rw [if_neg hm] at hx; cases hx
  · rintro e a w' ⟨he, K', c, hs, hpost⟩
    have hKK : ∀ b, memN b pins = true → K' b = K b := by
      intro b hb
      rcases hK : K b with _ | x
      · obtain ⟨y, hy⟩ := Option.isSome_iff_exists.1 (hpins b hb).2
        rcases hown.own b y hy with ⟨h1, _⟩ | ⟨g, h1, _⟩
        · rw [hK] at h1; cases h1
        · rw [hK] at h1; cases h1
      · exact hs.pin b x (by simp only [E]; rw [if_pos hb]; exact hK)
    have hXX' : ∀ g, Live K' c.O g ∨ XF g → XX E K' c.O g := by
      rintro g (h | h)
      · exact .inl h
      · exact .inr ⟨h, (hxf g h).2⟩
    have key : a.defers = [] ∧ ∃ v1, (results fn a.tmps).run P w' = .ok v1 w' ∧ ∃ v K' O', Ending.returned v1 = .returned v ∧ Post w' K' O' ∧ (∀ b, memN b pins = true → K' b = K b) ∧ OwnR w' (fun g => Live K' O' g ∨ XF g) K' O' ∧ (∀ g, Live K' O' g → Live K O g ∨ w.heap.size ≤ g) ∧ Ext (Live K O) w w' := by
      refine ⟨hs.defers, _, results_run hr _ _ (vs := []) rfl (fun j x v2 hx hv2 => by simp at hx), _, K', c.O, rfl, hpost, hKK, ⟨hs.rows, fun b blk hb => ?_, hs.inj⟩, fun g ⟨b, h1, h2⟩ => hs.mine b g h1 h2, hs.ext⟩
      rcases hs.own b blk hb with h1 | ⟨g, h1, h2⟩
      · exact .inl h1
      · exact .inr ⟨g, h1, h2.keep rfl (Keep.refl _ _) (fun g _ hg => hXX' g hg) (fun _ _ _ _ _ _ => rfl)⟩
    rcases he with rfl | rfl
    · exact key
    · exact key
/-- the operation that calls it -/
theorem wpOp_callV {E : Env} {K : KM} {fr : List (Nat × AV)} {O : List (Nat × OBlk)} {a : Act} {w : World} {pins : List Nat} {Pre : World → KM → Prop} {Post : World → KM → List (Nat × OBlk) → Prop} {ops : Array Oper} {o : Oper} {Q : Exit → Act → World → Prop} {Kk : Act → World → Prop} {i g : Nat} {f : Operand} {args : Array Operand} {ts : Array TypeId} {caps us : List AV}
    (ho : ops[i]? = some o) (hop : o.op = .call { callee := .value f, args := args, argTypes := ts }) (hw : Region.wanted o (yielded ops a.tmps) = true) (hs : SRK E K ⟨fr, O⟩ a w) (hfn : FnV P g us O pins Pre Post) (hpre : Pre w K)
    (hf : opv ⟨fr, O⟩ f = .func g caps) (hus : args.toList.map (opv ⟨fr, O⟩) ++ caps = us) (hno : ∀ u ∈ us, ∀ d want u', u ≠ .opt d want u')
    (hfr : ∀ t b, (lk fr t).has b = true → memN b pins = true) (hpin : ∀ b, memN b pins = false → E.pin b = none) (hd : dstOK E.N ⟨fr, O⟩ o.dst = true)
    (hk : ∀ K' O' v w', Post w' K' O' → SRK E K' ⟨putF o.dst .top fr, O'⟩ (a.put o.dst v) w' → Kk (a.put o.dst v) w') : wpOp P ops Q i Kk a w := by
  obtain ⟨⟨fn, hfn1, hname, hbody⟩, hfun⟩ := hfn
  have hval := opv_vals (c := ⟨fr, O⟩) hs
  obtain ⟨cv, ef, cl, cvv⟩ := VR.func_inv (hval.at hf)
  obtain ⟨ml, mv⟩ := map_vals hval args
  unfold wpOp
  rw [ho]
  simp only
  rw [if_pos hw]
  left
  unfold Oper.wp
  have hrun : (execOp a.eval o).run P w = .ok (.enter g (args.map a.eval ++ cv)) w := by
    simp only [execOp, hop, resolve, ef, Deferred.ofValue, Sem.run_bind, Sem.run_pure, Result.andThen_ok, invoke, callFunc, run_program]
    simp [hfn1, hname, hbody]
  rw [hrun, Oper.upon_enter]
  have hsize : us.length = (args.map a.eval ++ cv).size := by
    rw [← hus]; simp [cl]
  have hargs : ∀ (j : Nat) u v, us[j]? = some u → (args.map a.eval ++ cv)[j]? = some v → VR w (fun g => Live K O g ∨ (E.XF g ∧ g < E.w0.heap.size)) K u v := by
    intro j u v hu hv
    have hnu := hno u (List.mem_of_getElem? hu)
    rw [← hus] at hu
    have hasl : (args.toList.map (opv ⟨fr, O⟩)).length = (args.map a.eval).size := by simp
    rcases Nat.lt_or_ge j (args.toList.map (opv ⟨fr, O⟩)).length with hlt | hge
    · rw [List.getElem?_append_left hlt] at hu
      rw [Array.getElem?_append_left (by omega)] at hv
      exact FV.vr (mv j u v hu (by simpa using hv)) hnu
    · rw [List.getElem?_append_right hge] at hu
      rw [Array.getElem?_append_right (by omega)] at hv
      rw [hasl] at hu
      exact cvv _ u v hu hv
  have hwi : ∀ w', Ext (Live K O) w w' → WI w' := by
    intro w' hx
    refine E.hwi _ ⟨hx.os.trans hs.ext.os, hx.tape.trans hs.ext.tape, hx.output.trans hs.ext.output, Nat.le_trans hs.ext.size hx.size, fun g hg hX => ?_, fun g cur e hc => ?_⟩
    · rw [hx.block g (Nat.lt_of_lt_of_le hg hs.ext.size) fun ⟨b, hb, hk⟩ => ?_]
      · exact hs.ext.block g hg hX
      · rcases hs.mine b g hb hk with h | h
        · exact hX h
        · omega
    · obtain ⟨c1, h1, s1⟩ := hs.ext.shape g cur e hc
      obtain ⟨c2, h2, s2⟩ := hx.shape g c1 e h1
      exact ⟨c2, h2, s2.trans s1⟩
  refine (hfun (fun g => E.XF g ∧ g < E.w0.heap.size) w K _ hwi (fun g hg => ⟨fun ⟨b, hb, hk⟩ => ?_, Nat.lt_of_lt_of_le hg.2 hs.ext.size⟩) ⟨hs.rows, hs.own, hs.inj⟩ hsize hargs hpre).mono ?_
  · rcases hs.mine b g hb hk with h | h
    · exact E.hxf g hg.1 h
    · have := hg.2; omega
  · rintro e w1 ⟨v, K', O', rfl, hpost, hKK, hown, hl, hx⟩
    have hs1 := hs.callT hKK hown hl hx hfr hpin
    refine hk K' O' v w1 hpost (hs1.put (dst := o.dst) (u := .top) (v := v) ?_ fun d _ => ?_)
    · exact hd
    · exact FV.of .top
end
end Go.Abs
namespace Go.Abs
open Go.RowKit
set_option linter.unusedVariables false

section
variable {P : Program} {T : Tab} {E : Env} {c c' : Cfg} {a : Act} {w : World} {o : Oper} {r : Res} {ops : Array Oper} {dm : List (Nat × Bool)} {N : Nat} {dr : Bool}
/-! ### a region that draws its order, with a call behind all else -/
set_option maxHeartbeats 1000000 in
theorem draw_any (hT : TabOK P T) (h1 : TabOne T = true) (hN : E.N = N) (hst : drawSt ops = true) {Kk : Cfg → Prop} {Q : Exit → Act → World → Prop}
    (hQ : ∀ c a w, Kk c → SR E c a w → Q .normal a w) (h : evOps true P T N dm ops ⟨c, [], []⟩ 0 ops.toList c Kk) (hs : SR E c a w) : wpAny P .any ops Q ops.size (Array.replicate ops.size false) a { w with drawn := w.drawn + 1 } := by
  simp only [drawSt, Bool.and_eq_true] at hst
  obtain ⟨⟨hju, hed⟩, hpa⟩ := hst
  obtain ⟨rs, hlen, houts, hfin⟩ := evOps_outs h
  have hacc : AccOK ⟨c, [], []⟩ := by intro q hq; cases hq
  have hj : ∀ (j : Nat) o r, ops.toList[j]? = some o → rs[j]? = some r → StepOK true P T N ops o (cfgS (fun k => decide (k < j)) 0 ops.toList rs c) r ∧ NoP r ∧
      (∀ (k : Nat) o' r', k < j → ops.toList[k]? = some o' → rs[k]? = some r' → ordB (befores ops.toList) k j = true ∨ IndepP (mkRec o' (cfgS (fun m => decide (m < k)) 0 ops.toList rs c) r'.D r'.pg r'.v) (mkRec o (cfgS (fun m => decide (m < j)) 0 ops.toList rs c) r.D r.pg r.v)) ∧
      (r.nw = true → ∀ b x, (b, x) ∈ r.D → fresh b c = true ∧ ∀ (k : Nat) o' r', k < j → ops.toList[k]? = some o' → rs[k]? = some r' → outB (mkRec o' (cfgS (fun m => decide (m < k)) 0 ops.toList rs c) r'.D r'.pg r'.v) b = false) := by
    intro j o r ho hr
    obtain ⟨B, b1, b2, _, b4, b5, b6⟩ := outs_get houts hacc ho hr
    simp only [Nat.zero_add] at b4 b5 b6
    obtain ⟨d1, d2, d3⟩ := dr_of b1 b5
    refine ⟨b4, d1, fun k o' r' hk ho' hr' => d2 _ (b6 k o' r' hk ho' hr'), fun hnw b x hb => ?_⟩
    obtain ⟨f1, f2⟩ := d3 hnw b x hb
    rw [b2] at f1
    exact ⟨f1, fun k o' r' hk ho' hr' => f2 _ (b6 k o' r' hk ho' hr')⟩
  simp only [Nat.zero_add] at hfin
  have hn : ops.toList.length = ops.size := by simp
  have hget : ∀ j, j < ops.size → ∃ o r, ops.toList[j]? = some o ∧ rs[j]? = some r := fun j hj' => ⟨_, _, List.getElem?_eq_getElem (by simpa using hj'), List.getElem?_eq_getElem (by rw [hlen]; simpa using hj')⟩
  have hpg : ∀ r ∈ rs, NoP r := by
    intro r hr
    obtain ⟨j, hjr⟩ := List.getElem?_of_mem hr
    have hjl : j < ops.size := by have := (List.getElem?_eq_some_iff.1 hjr).1; rw [hlen] at this; simpa using this
    obtain ⟨o, r', ho, hr'⟩ := hget j hjl
    rw [hjr] at hr'; injection hr' with hr'; subst hr'
    exact (hj j o r ho hjr).2.1
  -- unordered pairs are apart
  have hapart : ∀ (i j : Nat) (x y : Oper), i < j → ops.toList[i]? = some x → ops.toList[j]? = some y → ordB (befores ops.toList) i j = false → x.apart ops y = true := by
    intro i j x y hij hx hy ho
    have hjl : j < ops.size := by have := (List.getElem?_eq_some_iff.1 hy).1; simpa using this
    have h2 := List.all_eq_true.1 (List.all_eq_true.1 hpa j (List.mem_range.2 hjl)) i (List.mem_range.2 hij)
    rw [ho, Bool.false_or] at h2
    simp only [Array.getElem?_toList] at hx hy
    rw [hx, hy] at h2
    exact h2
  have key : ∀ (fuel : Nat) (listed : Array Bool) (a : Act) (w : World), listed.size = ops.size → listed.toList.count false = fuel →
      (∀ (j : Nat) o, ops.toList[j]? = some o → listed.getD j false = true → ∀ e ∈ o.after, Region.binds .any e = true → listed.getD e.on false = true) →
      SR E (cfgS (fun k => listed.getD k false) 0 ops.toList rs c) a w → wpAny P .any ops Q fuel listed a w := by
    intro fuel
    induction fuel with
    | zero =>
      intro listed a w hsz hcnt hcl hs
      have hall : ∀ k, k < ops.size → listed.getD k false = true := by
        intro k hk
        have hk' : k < listed.size := by omega
        have : false ∉ listed.toList := List.count_eq_zero.1 hcnt
        cases hb : listed[k] with
        | true => simp [Array.getD, hk', hb]
        | false => exact absurd (Array.mem_toList_iff.2 (by rw [← hb]; exact Array.getElem_mem hk')) this
      refine ⟨?_, hQ _ a w hfin ?_⟩
      · unfold Region.ready
        rw [List.filter_eq_nil_iff]
        intro k hk
        have hk' : k < ops.size := List.mem_range.1 hk
        have := hall k hk'
        have hk'' : k < listed.size := by omega
        simp [Array.getD, hk''] at this ⊢
        simp [this]
      · have e : cfgS (fun k => decide (k < ops.toList.length)) 0 ops.toList rs c = cfgS (fun k => listed.getD k false) 0 ops.toList rs c := cfgS_congr fun k hk => by
          simp only [Nat.zero_add]
          rw [hall k (by simpa using hk)]
          simpa using hk
        rw [e]
        exact hs
    | succ fuel ih =>
      intro listed a w hsz hcnt hcl hs
      have hmem : ∀ i, i ∈ Region.ready .any ops listed ↔ i < ops.size ∧ listed.getD i false = false ∧ ∀ o, ops.toList[i]? = some o → ∀ e ∈ o.after, Region.binds .any e = true → listed.getD e.on false = true := by
        intro i
        unfold Region.ready
        rw [List.mem_filter, List.mem_range]
        constructor
        · rintro ⟨hi, hb⟩
          rw [Bool.and_eq_true] at hb
          have hi' : i < listed.size := by omega
          refine ⟨hi, by have := hb.1; simp [Array.getD, hi'] at this ⊢; exact this, fun o ho e he hbe => ?_⟩
          have ho' : ops[i]? = some o := by simpa using ho
          have h2 := hb.2
          rw [ho'] at h2
          simp only [Option.map_some, Option.getD_some, Array.all_eq_true_iff_forall_mem] at h2
          have := h2 e he
          simpa [hbe] using this
        · rintro ⟨hi, hl, hb⟩
          refine ⟨hi, ?_⟩
          rw [Bool.and_eq_true]
          have hi' : i < listed.size := by omega
          refine ⟨by simp [Array.getD, hi'] at hl ⊢; exact hl, ?_⟩
          have ho' : ops[i]? = some ops[i] := by simp [hi]
          rw [ho']
          simp only [Option.map_some, Option.getD_some, Array.all_eq_true_iff_forall_mem]
          intro e he
          cases hbe : Region.binds .any e
          · rfl
          · simpa using hb ops[i] (by simp [hi]) e he hbe
      refine ⟨fun hnil => ?_, fun i hi => ?_⟩
      · -- something is left, and the first that is left can come
        exfalso
        have hex : ∃ k, k < ops.size ∧ listed.getD k false = false := by
          have : false ∈ listed.toList := List.count_pos_iff.1 (by omega)
          obtain ⟨k, hk, he⟩ := List.mem_iff_getElem.1 this
          have hk' : k < listed.size := by simpa using hk
          exact ⟨k, by omega, by simp [Array.getD, hk']; simpa using he⟩
        obtain ⟨k, hk1, hk2, hk3⟩ : ∃ k, k < ops.size ∧ listed.getD k false = false ∧ ∀ m, m < k → listed.getD m false = true := by
          obtain ⟨k, hk⟩ := hex
          induction k using Nat.strongRecOn with
          | _ k ihk =>
            by_cases hm' : ∃ m, m < k ∧ listed.getD m false = false
            · obtain ⟨m, hm1, hm2⟩ := hm'
              exact ihk m hm1 ⟨by omega, hm2⟩
            · exact ⟨k, hk.1, hk.2, fun m hm1 => by
                cases hb : listed.getD m false
                · exact absurd ⟨m, hm1, hb⟩ hm'
                · rfl⟩
        have : k ∈ Region.ready .any ops listed := (hmem k).2 ⟨hk1, hk2, fun o ho e he hbe => by
          have h2 := List.all_eq_true.1 hed k (List.mem_range.2 (by simpa using hk1))
          rw [ho] at h2
          have h3 := List.all_eq_true.1 h2 e (by simpa using he)
          rw [hbe] at h3
          simp only [Bool.not_true, Bool.false_or] at h3
          exact hk3 e.on (Nat.le_of_ble_eq_true h3)⟩
        rw [hnil] at this
        cases this
      · obtain ⟨hil, hiu, hir⟩ := (hmem i).1 hi
        obtain ⟨o, r, ho, hr⟩ := hget i hil
        have hstep := (hj i o r ho hr).1
        have hil' : i < listed.size := by omega
        -- who is chosen
        have before : ∀ k, k < i → listed.getD k false = false → ordB (befores ops.toList) k i = false := by
          intro k hk hl
          cases hb : ordB (befores ops.toList) k i
          · rfl
          · have := ord_in hju hcl i o ho (hir o ho) k (by simp; omega) hb
            rw [hl] at this; cases this
        have behind : ∀ k, i < k → k < ops.size → listed.getD k false = true → ordB (befores ops.toList) i k = false := by
          intro k hk hkl hl
          cases hb : ordB (befores ops.toList) i k
          · rfl
          · obtain ⟨o', r', ho', _⟩ := hget k hkl
            have := ord_in hju hcl k o' ho' (hcl k o' ho' hl) i (by simp; omega) hb
            rw [hiu] at this; cases this
        -- who is chosen and touches what the operation looks at
        have touch : ∀ (k : Nat) x t, ops.toList[k]? = some x → x.dst = some t → t ∈ o.looksAt ops → listed.getD k false = decide (k < i) := by
          intro k x t hx hxt hto
          have hkl : k < ops.size := by have := (List.getElem?_eq_some_iff.1 hx).1; simpa using this
          rcases Nat.lt_trichotomy k i with hlt | heq | hgt
          · cases hl : listed.getD k false
            · have := hapart k i x o hlt hx ho (before k hlt hl)
              exact absurd hto ((Oper.apart_spec this).1 t hxt)
            · simp [hlt]
          · subst heq; rw [hiu]; simp
          · cases hl : listed.getD k false
            · simp; omega
            · have := hapart i k o x hgt ho hx (behind k hgt hkl hl)
              exact absurd hto ((Oper.apart_spec this).2.2 t hxt)
        have writers : ∀ (b k : Nat) r', k < ops.size → rs[k]? = some r' → b ∈ wids r'.D r'.pg → k ≠ i → (b ∈ wids r.D r.pg ∨ (lookO o = true ∧ RReach (olk (cfgS (fun m => decide (m < i)) 0 ops.toList rs c).O) (o.op.operands.toList.map (opv (cfgS (fun m => decide (m < i)) 0 ops.toList rs c))) b)) → listed.getD k false = decide (k < i) := by
          intro b k r' hkl hr' hb hki hor
          obtain ⟨o', r'', ho', hr''⟩ := hget k hkl
          rw [hr'] at hr''; injection hr'' with hr''; subst hr''
          have no : reachB (mkRec o (cfgS (fun m => decide (m < i)) 0 ops.toList rs c) r.D r.pg r.v) b = false ∧ outB (mkRec o (cfgS (fun m => decide (m < i)) 0 ops.toList rs c) r.D r.pg r.v) b = false → False := by
            rintro ⟨n1, n2⟩
            rcases hor with hor | hor
            · exact (out_of n2).2.2 hor
            · have e : mkRec o (cfgS (fun m => decide (m < i)) 0 ops.toList rs c) r.D r.pg r.v = ⟨o.op.operands.toList.map (opv (cfgS (fun m => decide (m < i)) 0 ops.toList rs c)), (cfgS (fun m => decide (m < i)) 0 ops.toList rs c).O, r.v, r.D, r.pg⟩ := by
                unfold mkRec; rw [hor.1]
              rw [e] at n1
              exact reach_of n1 hor.2
          rcases Nat.lt_or_ge k i with hlt | hge
          · cases hl : listed.getD k false
            · rcases (hj i o r ho hr).2.2.1 k o' r' hlt ho' hr' with h2 | h2
              · rw [before k hlt hl] at h2; cases h2
              · exact (no (h2.1 b hb)).elim
            · simp [hlt]
          · have hgt : i < k := by omega
            cases hl : listed.getD k false
            · simp; omega
            · rcases (hj k o' r' ho' hr').2.2.1 i o r hgt ho hr with h2 | h2
              · rw [behind k hgt hkl hl] at h2; cases h2
              · exact (no (h2.2 b hb)).elim
        -- the step in the state that is there
        have hstep' : StepOK true P T N ops o (cfgS (fun k => listed.getD k false) 0 ops.toList rs c) r := by
          have holk : ∀ b, (b ∈ wids r.D r.pg ∨ (lookO o = true ∧ RReach (olk (cfgS (fun m => decide (m < i)) 0 ops.toList rs c).O) (o.op.operands.toList.map (opv (cfgS (fun m => decide (m < i)) 0 ops.toList rs c))) b)) →
              olk (cfgS (fun k => listed.getD k false) 0 ops.toList rs c).O b = olk (cfgS (fun m => decide (m < i)) 0 ops.toList rs c).O b := by
            intro b hor
            refine cfgS_olk hpg (fun k r' hk hr' hb => ?_) rfl
            simp only [Nat.zero_add]
            by_cases hki : k = i
            · subst hki; rw [hiu]; simp
            · exact writers b k r' (by simpa using hk) hr' hb hki hor
          refine hstep.transport (fun t ht => ?_) (fun b hm hb => holk b (.inr ⟨hm, hb⟩)) ?_ fun hfd => ?_
          · exact cfgS_lk hpg (fun k x hx hxt => by simp only [Nat.zero_add]; exact touch k x t hx hxt ht) rfl
          · have hd0 : dstOK N (cfgS (fun k => decide (k < i)) 0 ops.toList rs c) o.dst = true := by cases hstep <;> assumption
            cases hdst : o.dst with
            | none => rfl
            | some d =>
              rw [hdst] at hd0
              simp only [dstOK, Bool.and_eq_true] at hd0 ⊢
              refine ⟨hd0.1, ?_⟩
              obtain ⟨n1, n2⟩ := noOpt_cfgS hpg hd0.2
              refine cfgS_noOpt hpg n1 fun k x r' hx hr' hsel hxd w' v' hv => ?_
              simp only [Nat.zero_add] at hsel n2
              have hkl : k < ops.size := by have := (List.getElem?_eq_some_iff.1 hx).1; simpa using this
              rcases Nat.lt_trichotomy k i with hlt | heq | hgt
              · exact n2 k x r' hx hr' (by simpa using hlt) hxd w' v' hv
              · subst heq; rw [hiu] at hsel; cases hsel
              · have hap := hapart i k o x hgt ho hx (behind k hgt hkl hsel)
                exact (Oper.apart_spec hap).1 d hdst ((hj k x r' hx hr').1.tag hv)
          · rw [freshD_all] at hfd ⊢
            intro b x hb
            obtain ⟨h1', h2'⟩ := hfd b x hb
            refine ⟨fun hnw => ?_, fun hnw => by rw [holk b (.inl (wids_of hb))]; exact h2' hnw⟩
            obtain ⟨g1, g2⟩ := (hj i o r ho hr).2.2.2 hnw b x hb
            refine cfgS_fresh hpg g1 fun k o' r' ho' hr' hsel => ?_
            simp only [Nat.zero_add] at hsel
            have hkl : k < ops.size := by have := (List.getElem?_eq_some_iff.1 ho').1; simpa using this
            rcases Nat.lt_trichotomy k i with hlt | heq | hgt
            · have := out_of (g2 k o' r' hlt ho' hr')
              exact ⟨this.1, this.2.1⟩
            · subst heq; rw [hiu] at hsel; cases hsel
            · rcases (hj k o' r' ho' hr').2.2.1 i o r hgt ho hr with h2 | h2
              · rw [behind k hgt hkl hsel] at h2; cases h2
              · have := out_of (h2.1 b (wids_of hb)).2
                exact ⟨this.1, this.2.1⟩
        refine wpOp_mono (fun a' w' hs' => ?_) (step_sound hT h1 hN (by simpa using ho) hstep' hs)
        -- the state behind it
        have hL : ∀ k, (listed.setIfInBounds i true).getD k false = if k = i then true else listed.getD k false := by
          intro k
          simp only [Array.getD_eq_getD_getElem?, Array.getElem?_setIfInBounds]
          by_cases hk : i = k
          · subst hk; simp [hil']
          · rw [if_neg hk, if_neg (fun e => hk e.symm)]
        refine ih (listed.setIfInBounds i true) a' w' (by simp [hsz]) ?_ ?_ ?_
        · have hli : listed.toList[i]? = some false := by
            have := hiu
            simp [Array.getD, hil'] at this
            simp [hil', this]
          have := count_set hli
          rw [Array.toList_setIfInBounds]
          omega
        · intro j o' ho' hl e he hbe
          rw [hL] at hl ⊢
          split
          · rfl
          · split at hl
            · rename_i hji; subst hji
              exact hir o' ho' e he hbe
            · exact hcl j o' ho' hl e he hbe
        · refine hs'.same (fun t => ?_) ?_
          · rw [lk_app (hpg r (List.mem_of_getElem? hr))]
            by_cases hdt : o.dst = some t
            · rw [if_pos hdt]
              refine cfgS_last hpg ho hr hdt (by simp [hL]) fun k x hik hx hxt => ?_
              simp only [Nat.zero_add, hL]
              rw [if_neg (by omega)]
              cases hl : listed.getD k false
              · rfl
              · have hkl : k < ops.size := by have := (List.getElem?_eq_some_iff.1 hx).1; simpa using this
                have hap := hapart i k o x hik ho hx (behind k hik hkl hl)
                exact absurd hxt ((Oper.apart_spec hap).2.1 t hdt)
            · rw [if_neg hdt]
              refine cfgS_lk hpg (fun k x hx hxt => ?_) rfl
              simp only [Nat.zero_add, hL]
              rw [if_neg]
              rintro rfl
              rw [ho] at hx; injection hx with hx; subst hx; exact hdt hxt
          · intro b
            by_cases hb : b ∈ wids r.D r.pg
            · refine cfgS_olk_last hpg ho hr hb (by simp [hL]) fun k r' hik hr' hb' => ?_
              simp only [Nat.zero_add, hL]
              rw [if_neg (by omega)]
              have hkl : k < ops.size := by have := (List.getElem?_eq_some_iff.1 hr').1; rw [hlen] at this; simpa using this
              rw [writers b k r' hkl hr' hb' (by omega) (.inl hb)]
              simp; omega
            · rw [olk_app_not (hpg r (List.mem_of_getElem? hr)) hb]
              refine cfgS_olk hpg (fun k r' hk hr' hb' => ?_) rfl
              simp only [Nat.zero_add, hL]
              rw [if_neg]
              rintro rfl
              rw [hr] at hr'; injection hr' with hr'; subst hr'; exact hb hb'
  have hrep : ∀ k, (Array.replicate ops.size false).getD k false = false := by
    intro k
    rw [Array.getD_eq_getD_getElem?]
    rw [Array.getElem?_replicate]
    split <;> rfl
  refine key ops.size (Array.replicate ops.size false) a _ (by simp) (by simp) (fun j o ho hl => ?_) ?_
  · rw [hrep] at hl; cases hl
  · obtain ⟨K, hs⟩ := hs
    rw [cfgS_none _ _ _ _ _ (fun k _ => hrep k)]
    exact ⟨K, hs.move (Step.drawn _ w (w.drawn + 1))⟩

theorem upon_monoQ {o : Oper} {a : Act} {w : World} {K : Act → World → Prop} {Q Q' : Exit → Act → World → Prop} (h : ∀ e a w, e ≠ .normal → Q' e a w → Q e a w)
    (hh : o.wp P a w K Q') : o.wp P a w K Q := by
  unfold Oper.wp at *
  generalize (execOp a.eval o).run P w = r at *
  have hl : LetsOut Q' → LetsOut Q := fun ⟨a, w, q⟩ => ⟨a, w, h _ _ _ (by simp) q⟩
  cases r with
  | ok n w' =>
    cases n <;> simp only [Oper.upon] at hh ⊢ <;>
      first
        | exact hh
        | exact Calls.mono hh (fun e w'' he => by cases e <;> first | exact he | exact h _ _ _ (by simp) he | exact hl he)
  | halt x w' => cases x <;> simp only [Oper.upon] at hh ⊢ <;> first | exact hh | exact h _ _ _ (by simp) hh | exact hl hh
/-- what is asked, once, of the last operation -/
def lastOK (ops : Array Oper) (n : Nat) : Bool := justified ops.toList (befores ops.toList) && edgesDown ops.toList && (List.range n).all (fun k => ordB (befores ops.toList) k n)
def noGuards (ops : Array Oper) : Bool := ops.toList.all fun o => o.guard.isNone
theorem mem_ready {ops : Array Oper} {listed : Array Bool} (hsz : listed.size = ops.size) (i : Nat) : i ∈ Region.ready .any ops listed ↔ i < ops.size ∧ listed.getD i false = false ∧ ∀ o, ops.toList[i]? = some o → ∀ e ∈ o.after, Region.binds .any e = true → listed.getD e.on false = true := by
  unfold Region.ready
  rw [List.mem_filter, List.mem_range]
  constructor
  · rintro ⟨hi, hb⟩
    rw [Bool.and_eq_true] at hb
    have hi' : i < listed.size := by omega
    refine ⟨hi, by have := hb.1; simp [Array.getD, hi'] at this ⊢; exact this, fun o ho e he hbe => ?_⟩
    have ho' : ops[i]? = some o := by simpa using ho
    have h2 := hb.2
    rw [ho'] at h2
    simp only [Option.map_some, Option.getD_some, Array.all_eq_true_iff_forall_mem] at h2
    have := h2 e he
    simpa [hbe] using this
  · rintro ⟨hi, hl, hb⟩
    refine ⟨hi, ?_⟩
    rw [Bool.and_eq_true]
    have hi' : i < listed.size := by omega
    refine ⟨by simp [Array.getD, hi'] at hl ⊢; exact hl, ?_⟩
    have ho' : ops[i]? = some ops[i] := by simp [hi]
    rw [ho']
    simp only [Option.map_some, Option.getD_some, Array.all_eq_true_iff_forall_mem]
    intro e he
    cases hbe : Region.binds .any e
    · rfl
    · simpa using hb ops[i] (by simp [hi]) e he hbe
theorem getD_push (l : Array Bool) (i : Nat) : (l.push false).getD i false = l.getD i false := by
  simp only [Array.getD_eq_getD_getElem?, Array.getElem?_push]
  split
  · rename_i h; subst h; simp
  · rfl
theorem wpOp_up {opsA : Array Oper} {o : Oper} {Q Q' : Exit → Act → World → Prop} (hQ : ∀ e a w, e ≠ .normal → Q' e a w → Q e a w) (hg : noGuards opsA = true) {i : Nat} (hi : i < opsA.size) {K K' : Act → World → Prop} (hK : ∀ a w, K a w → K' a w) (h : wpOp P opsA Q' i K a w) : wpOp P (opsA.push o) Q i K' a w := by
  have ho : opsA[i]? = some opsA[i] := by simp [hi]
  have hg1 : opsA[i].guard = none := by
    have := List.all_eq_true.1 hg opsA[i] (by simp)
    simpa using this
  have hw : ∀ y, Region.wanted opsA[i] y = true := fun y => by unfold Region.wanted; rw [hg1]
  unfold wpOp at h ⊢
  rw [ho] at h
  rw [show (opsA.push o)[i]? = some opsA[i] by rw [Array.getElem?_push, if_neg (by omega)]; exact ho]
  simp only [hw, if_true] at h ⊢
  rcases h with h | ⟨h1, h2⟩
  · exact .inl (Oper.wp_mono hK (upon_monoQ hQ h))
  · obtain ⟨a', w', h2⟩ := h2
    exact .inr ⟨h1, a', w', hQ _ _ _ (by simp) h2⟩
theorem wpAny_last {opsA : Array Oper} {o : Oper} {Q Q' : Exit → Act → World → Prop} (hQ : ∀ e a w, e ≠ .normal → Q' e a w → Q e a w) (hok : lastOK (opsA.push o) opsA.size = true) (hg : noGuards opsA = true) (hlast : ∀ a w, Q' .normal a w → wpOp P (opsA.push o) Q opsA.size (fun a w => Q .normal a w) a w) :
    ∀ (fuel : Nat) (listed : Array Bool) (a : Act) (w : World), listed.size = opsA.size → listed.toList.count false = fuel → (∀ (j : Nat) o, opsA.toList[j]? = some o → listed.getD j false = true → ∀ e ∈ o.after, Region.binds .any e = true → listed.getD e.on false = true) →
      wpAny P .any opsA Q' fuel listed a w → wpAny P .any (opsA.push o) Q (fuel + 1) (listed.push false) a w := by
  simp only [lastOK, Bool.and_eq_true] at hok
  obtain ⟨⟨hju, hed⟩, hall⟩ := hok
  have hps : (opsA.push o).size = opsA.size + 1 := by simp
  have hop : ∀ {j : Nat}, j < opsA.size → (opsA.push o).toList[j]? = opsA.toList[j]? := by
    intro j hj
    simp only [Array.getElem?_toList]
    rw [Array.getElem?_push, if_neg (by omega)]
  have hol : (opsA.push o).toList[opsA.size]? = some o := by simp
  intro fuel
  induction fuel with
  | zero =>
    intro listed a w hsz hcnt hcl h
    have hl : ∀ k, k < opsA.size → listed.getD k false = true := by
      intro k hk
      have hk' : k < listed.size := by omega
      have : false ∉ listed.toList := List.count_eq_zero.1 hcnt
      cases hb : listed[k] with
      | true => simp [Array.getD, hk', hb]
      | false => exact absurd (Array.mem_toList_iff.2 (by rw [← hb]; exact Array.getElem_mem hk')) this
    obtain ⟨_, hn⟩ := h
    have hr : opsA.size ∈ Region.ready .any (opsA.push o) (listed.push false) := by
      refine (mem_ready (by simp [hsz]) _).2 ⟨by simp, by rw [getD_push]; simp [Array.getD, hsz], fun o' ho' e he hbe => ?_⟩
      have h2 := List.all_eq_true.1 hed opsA.size (List.mem_range.2 (by simp))
      rw [hol] at h2 ho'
      injection ho' with ho'; subst ho'
      have h3 := List.all_eq_true.1 h2 e (by simpa using he)
      rw [hbe] at h3
      simp only [Bool.not_true, Bool.false_or] at h3
      rw [getD_push]
      exact hl _ (Nat.le_of_ble_eq_true h3)
    refine ⟨fun h0 => (by rw [h0] at hr; cases hr), fun i hi => ?_⟩
    obtain ⟨h1, h2, h3⟩ := (mem_ready (by simp [hsz]) i).1 hi
    have hin : i = opsA.size := by
      by_cases hlt : i < opsA.size
      · rw [getD_push, hl i hlt] at h2; cases h2
      · omega
    subst hin
    refine wpOp_mono (fun a w q => ⟨?_, q⟩) (hlast a w hn)
    rw [List.eq_nil_iff_forall_not_mem]
    intro k hk
    obtain ⟨k1, k2, _⟩ := (mem_ready (by simp [hsz]) k).1 hk
    have : ((listed.push false).setIfInBounds opsA.size true).getD k false = true := by
      simp only [Array.getD_eq_getD_getElem?, Array.getElem?_setIfInBounds]
      by_cases hkn : opsA.size = k
      · rw [if_pos hkn, if_pos (by simp [hsz])]; rfl
      · rw [if_neg hkn]
        have := hl k (by simp at k1; omega)
        rw [← getD_push, Array.getD_eq_getD_getElem?] at this
        exact this
    rw [this] at k2; cases k2
  | succ fuel ih =>
    intro listed a w hsz hcnt hcl h
    have hex : ∃ k, k < opsA.size ∧ listed.getD k false = false := by
      have : false ∈ listed.toList := List.count_pos_iff.1 (by omega)
      obtain ⟨k, hk, he⟩ := List.mem_iff_getElem.1 this
      have hk' : k < listed.size := by simpa using hk
      exact ⟨k, by omega, by simp [Array.getD, hk']; simpa using he⟩
    obtain ⟨k, hk1, hk2, hk3⟩ : ∃ k, k < opsA.size ∧ listed.getD k false = false ∧ ∀ m, m < k → listed.getD m false = true := by
      obtain ⟨k, hk⟩ := hex
      induction k using Nat.strongRecOn with
      | _ k ihk =>
        by_cases hm' : ∃ m, m < k ∧ listed.getD m false = false
        · obtain ⟨m, hm1, hm2⟩ := hm'
          exact ihk m hm1 ⟨by omega, hm2⟩
        · exact ⟨k, hk.1, hk.2, fun m hm1 => by
            cases hb : listed.getD m false
            · exact absurd ⟨m, hm1, hb⟩ hm'
            · rfl⟩
    have hrk : k ∈ Region.ready .any (opsA.push o) (listed.push false) := by
      refine (mem_ready (by simp [hsz]) _).2 ⟨by simp; omega, by rw [getD_push]; exact hk2, fun o' ho' e he hbe => ?_⟩
      have h2 := List.all_eq_true.1 hed k (List.mem_range.2 (by simp; omega))
      rw [ho'] at h2
      have h3 := List.all_eq_true.1 h2 e (by simpa using he)
      rw [hbe] at h3
      simp only [Bool.not_true, Bool.false_or] at h3
      rw [getD_push]
      exact hk3 e.on (Nat.le_of_ble_eq_true h3)
    refine ⟨fun h0 => (by rw [h0] at hrk; cases hrk), fun i hi => ?_⟩
    obtain ⟨h1, h2, h3⟩ := (mem_ready (by simp [hsz]) i).1 hi
    rw [getD_push] at h2
    by_cases hin : i = opsA.size
    · exfalso
      subst hin
      have hk : listed.getD k false = true := by
        refine ord_in hju (L := fun j => listed.getD j false) (fun j o' ho' hl e he hbe => ?_) opsA.size o hol (fun e he hbe => ?_) k (by simp; omega) (List.all_eq_true.1 hall k (List.mem_range.2 hk1))
        · by_cases hj : j < opsA.size
          · rw [hop hj] at ho'
            exact hcl j o' ho' hl e he hbe
          · have : listed.getD j false = false := by simp [Array.getD, hsz, hj]
            rw [show listed.getD j false = true from hl] at this; cases this
        · have := h3 o hol e he hbe
          rwa [getD_push] at this
      rw [hk2] at hk; cases hk
    · have hil : i < opsA.size := by simp at h1; omega
      have hiA : i ∈ Region.ready .any opsA listed := (mem_ready hsz i).2 ⟨hil, h2, fun o' ho' e he hbe => by
        have := h3 o' (by rw [hop hil]; exact ho') e he hbe
        rwa [getD_push] at this⟩
      have hil' : i < listed.size := by omega
      have hL : ∀ k, (listed.setIfInBounds i true).getD k false = if k = i then true else listed.getD k false := by
        intro k
        simp only [Array.getD_eq_getD_getElem?, Array.getElem?_setIfInBounds]
        by_cases hk : i = k
        · subst hk; simp [hil']
        · rw [if_neg hk, if_neg (fun e => hk e.symm)]
      have hpush : (listed.push false).setIfInBounds i true = (listed.setIfInBounds i true).push false := by
        apply Array.ext'
        rw [Array.toList_setIfInBounds, Array.toList_push, Array.toList_push, Array.toList_setIfInBounds, List.set_append_left _ _ (by simpa using hil')]
      rw [hpush]
      refine wpOp_up hQ hg hil (fun a' w' q => ih (listed.setIfInBounds i true) a' w' (by simp [hsz]) ?_ ?_ q) (h.2 i hiA)
      · have hli : listed.toList[i]? = some false := by
          have := h2
          simp [Array.getD, hil'] at this
          simp [hil', this]
        have := count_set hli
        rw [Array.toList_setIfInBounds]
        omega
      · intro j o' ho' hl e he hbe
        rw [hL] at hl ⊢
        split
        · rfl
        · split at hl
          · rename_i hji; subst hji
            have := h3 o' (by rw [hop hil]; exact ho') e he hbe
            rwa [getD_push] at this
          · exact hcl j o' ho' hl e he hbe
theorem wp_region_last (hT : TabOK P T) (h1 : TabOne T = true) (hN : E.N = N) (hm : P.follows .mixedOrders = true) {opsA : Array Oper} {o : Oper} (hst : drawSt opsA = true) (hok : lastOK (opsA.push o) opsA.size = true) (hg : noGuards opsA = true) {Kk : Cfg → Prop} {Q : Exit → Act → World → Prop} {id : Nat}
    (h : evOps true P T N dm opsA ⟨c, [], []⟩ 0 opsA.toList c Kk) (hs : SR E c a w) (hk : ∀ c a w, Kk c → SR E c a w → wpOp P (opsA.push o) Q opsA.size (fun a w => Q .normal a w) a w) : (Code.region id (opsA.push o) true).wp P Q a w := by
  have := draw_any (Q := fun e a w => e = .normal ∧ wpOp P (opsA.push o) Q opsA.size (fun a w => Q .normal a w) a w) hT h1 hN hst (fun c a w q s => ⟨rfl, hk c a w q s⟩) h hs
  have hrep : ∀ k, (Array.replicate opsA.size false).getD k false = false := by
    intro k
    rw [Array.getD_eq_getD_getElem?]
    rw [Array.getElem?_replicate]
    split <;> rfl
  have h2 := wpAny_last (Q := Q) (fun e a w ne q => absurd q.1 ne) hok hg (fun a w q => q.2) opsA.size (Array.replicate opsA.size false) a _ (by simp) (by simp) (fun j o ho hl => by rw [hrep] at hl; cases hl) this
  refine wp_region_any hm ?_
  rw [show (opsA.push o).size = opsA.size + 1 by simp, show Array.replicate (opsA.size + 1) false = (Array.replicate opsA.size false).push false by rw [Array.replicate_succ]]
  exact h2
end
end Go.Abs
namespace Go.Abs
open Go.RowKit
set_option linter.unusedVariables false
/-! ### code beside a block of one's own, which it may read and does not write -/
section
variable {P : Program} {T : Tab} {E : Env} {c c' : Cfg} {a : Act} {w : World} {ops : Array Oper} {dm : List (Nat × Bool)} {N : Nat}
theorem put_other {a : Act} {dst : Option Nat} {t : Nat} {v : Value} (h : dst ≠ some t) : (a.put dst v).tmps.getD t undef = a.tmps.getD t undef := by
  cases dst with
  | none => rfl
  | some d =>
    simp only [Act.put, Array.getD_eq_getD_getElem?, Array.getElem?_setIfInBounds]
    rw [if_neg (fun e => h (by rw [e]))]
theorem opwp_frame {o : Oper} {a : Act} {w : World} {K : Act → World → Prop} {Q : Exit → Act → World → Prop} {t : Nat} (hd : o.dst ≠ some t)
    (hh : o.wp P a w K Q) : o.wp P a w (fun a' w' => K a' w' ∧ a'.tmps.getD t undef = a.tmps.getD t undef) Q := by
  unfold Oper.wp at *
  generalize (execOp a.eval o).run P w = r at *
  cases r with
  | ok n w' =>
    cases n <;> simp only [Oper.upon] at hh ⊢ <;>
      first
        | exact ⟨hh, put_other hd⟩
        | exact Calls.mono hh (fun e w'' he => by cases e <;> first | exact ⟨he, put_other hd⟩ | exact he)
        | exact Rows.mono hh (fun _ _ he => ⟨he, put_other hd⟩)
  | halt x w' => cases x <;> simp only [Oper.upon] at hh ⊢ <;> exact hh
/-- slot t holds x still -/
def Stays (t : Nat) (x : Value) (Q : Exit → Act → World → Prop) : Exit → Act → World → Prop := fun e a w => Q e a w ∧ (e = .normal → a.tmps.getD t undef = x)
def dstsOK (t : Nat) (ops : Array Oper) : Bool := ops.toList.all fun o => match o.dst with | some d => !Nat.beq d t | none => true
theorem dstsOK_get {t : Nat} {ops : Array Oper} (h : dstsOK t ops = true) {i : Nat} {o : Oper} (ho : ops[i]? = some o) : o.dst ≠ some t := by
  have h1 := List.all_eq_true.1 h o (by
    obtain ⟨h2, h3⟩ := Array.getElem?_eq_some_iff.1 ho
    rw [← h3]; simp)
  intro e
  rw [e] at h1
  simp at h1
theorem wpOp_frame {Q : Exit → Act → World → Prop} {t : Nat} {x : Value} (hd : dstsOK t ops = true) {i : Nat} {K : Act → World → Prop} (hx : a.tmps.getD t undef = x) (h : wpOp P ops Q i K a w) :
    wpOp P ops (Stays t x Q) i (fun a w => K a w ∧ a.tmps.getD t undef = x) a w := by
  have hQ : ∀ e a w, e ≠ .normal → Q e a w → Stays t x Q e a w := fun e a w ne q => ⟨q, fun h => absurd h ne⟩
  unfold wpOp at h ⊢
  split
  · rename_i hn
    rw [hn] at h
    exact ⟨h, hx⟩
  · rename_i o ho
    rw [ho] at h
    simp only at h
    have hdo := dstsOK_get hd ho
    split
    · rename_i hw
      rw [if_pos hw] at h
      rcases h with h | ⟨h1, a', w', h2⟩
      · refine .inl (Oper.wp_mono (fun a' w' q => ⟨q.1, q.2.trans hx⟩) (opwp_frame (t := t) hdo (upon_monoQ hQ h)))
      · exact .inr ⟨h1, a', w', hQ _ _ _ (by simp) h2⟩
    · rename_i hw
      rw [if_neg hw] at h
      exact ⟨h, (put_other hdo).trans hx⟩
theorem wpOps_frame {Q : Exit → Act → World → Prop} {t : Nat} {x : Value} (hd : dstsOK t ops = true) : ∀ (is : List Nat) (a : Act) (w : World), a.tmps.getD t undef = x → wpOps P ops Q is a w → wpOps P ops (Stays t x Q) is a w
  | [], a, w, hx, h => ⟨h, fun _ => hx⟩
  | i :: is, a, w, hx, h => by
    rw [wpOps_cons] at h ⊢
    exact wpOp_mono (fun a' w' q => wpOps_frame hd is a' w' q.2 q.1) (wpOp_frame hd hx h)
theorem wpAny_frame {Q : Exit → Act → World → Prop} {t : Nat} {x : Value} (hd : dstsOK t ops = true) : ∀ (fuel : Nat) (listed : Array Bool) (a : Act) (w : World), a.tmps.getD t undef = x → wpAny P .any ops Q fuel listed a w → wpAny P .any ops (Stays t x Q) fuel listed a w
  | 0, listed, a, w, hx, h => ⟨h.1, h.2, fun _ => hx⟩
  | fuel + 1, listed, a, w, hx, h => ⟨fun h0 => ⟨h.1 h0, fun _ => hx⟩, fun i hi => wpOp_mono (fun a' w' q => wpAny_frame hd fuel _ a' w' q.2 q.1) (wpOp_frame hd hx (h.2 i hi))⟩
theorem region_stays (hT : TabOK P T) (h1 : TabOne T = true) (hN : E.N = N) (hm : P.follows .mixedOrders = true) {t : Nat} {id : Nat} {dr : Bool} {Q : Exit → Act → World → Prop} {Kk : Cfg → Prop}
    (hd : dstsOK t ops = true) (hdr : (!dr || drawSt ops) = true) (h : evOps dr P T N dm ops ⟨c, [], []⟩ 0 ops.toList c Kk) (hs : SR E c a w)
    (hQ : ∀ c' a' w', Kk c' → SR E c' a' w' → a'.tmps.getD t undef = a.tmps.getD t undef → Q .normal a' w') : (Code.region id ops dr).wp P Q a w := by
  let Q0 : Exit → Act → World → Prop := fun e a' w' => e = .normal ∧ ∃ c', Kk c' ∧ SR E c' a' w'
  have fin : ∀ e a' w', Stays t (a.tmps.getD t undef) Q0 e a' w' → Q e a' w' := by
    rintro e a' w' ⟨⟨rfl, c', q, s⟩, hx⟩
    exact hQ c' a' w' q s (hx rfl)
  cases dr with
  | false =>
    have := evOps_sound (Q := Q0) hT h1 hN (fun c a w q s => ⟨rfl, c, q, s⟩) ops.toList _ 0 c a w (fun j => by simp) h hs
    rw [show ops.toList.length = ops.size by simp, ← List.range_eq_range'] at this
    exact wp_mono (wp_region (wpOps_frame hd _ a w rfl this)) fin
  | true =>
    have hdr : drawSt ops = true := by simpa using hdr
    have := draw_any (Q := Q0) hT h1 hN hdr (fun c a w q s => ⟨rfl, c, q, s⟩) h hs
    exact wp_mono (wp_region_any hm (wpAny_frame hd _ _ a _ rfl this)) fin
/-- the same, without the block -/
def innerE (E : Env) (w : World) (h : ∀ w', Ext (fun _ => False) w w' → WI w') : Env := ⟨fun _ => False, fun _ => False, w, E.N, h, fun _ => none, fun _ _ h => (by cases h), fun _ h => h.elim⟩
theorem ext_in {E : Env} {K : KM} {c : Cfg} {a : Act} {w w' : World} (hs : SRK E K c a w) (hx : Ext (fun _ => False) w w') : Ext E.X0 E.w0 w' :=
  ⟨hx.os.trans hs.ext.os, hx.tape.trans hs.ext.tape, hx.output.trans hs.ext.output, Nat.le_trans hs.ext.size hx.size, fun g hg hX => by
    rw [hx.block g (Nat.lt_of_lt_of_le hg hs.ext.size) (fun h => h)]
    exact hs.ext.block g hg hX, fun g cur e hc => by
    obtain ⟨c1, h1, s1⟩ := hs.ext.shape g cur e hc
    obtain ⟨c2, h2, s2⟩ := hx.shape g c1 e h1
    exact ⟨c2, h2, s2.trans s1⟩⟩
theorem SRK.goIn {K : KM} {c : Cfg} (hs : SRK E K c a w) {fr : List (Nat × AV)} (hfr : ∀ t, VR w (fun _ => False) K0 (lk fr t) (a.tmps.getD t undef)) :
    SRK (innerE E w fun w' hx => E.hwi w' (ext_in hs hx)) K0 ⟨fr, []⟩ a w := by
  refine ⟨hs.size, hs.defers, ⟨rfl, rfl, rfl, Nat.le_refl _, fun _ _ _ => rfl, fun _ cur _ h => ⟨cur, h, rfl⟩⟩, fun t => FV.of ((hfr t).sub fun g _ h => ?_), fun b x h => (by cases h), fun b x h => (by cases h), fun b b' g h => (by cases h), fun b g h => (by cases h), fun b x h => (by cases h)⟩
  rcases h with ⟨b, h, _⟩ | ⟨h, _⟩
  · cases h
  · exact h
def outV (b : Nat) : AV → Bool
  | .top => true
  | .osl i _ _ => !Nat.beq i b
  | u => u.scalar
def outF (b : Nat) : List (Nat × AV) → Bool
  | [] => true
  | (_, u) :: r => outV b u && outF b r
theorem outF_lk {b : Nat} : ∀ {fr : List (Nat × AV)}, outF b fr = true → ∀ t, lk fr t = .top ∨ (lk fr t).scalar = true ∨ ∃ i sz m, lk fr t = .osl i sz m ∧ i ≠ b
  | [], _, t => .inl rfl
  | (s, u) :: r, h, t => by
    simp only [outF, Bool.and_eq_true] at h
    rw [lk_cons]
    split
    · cases u <;> first | exact .inl rfl | exact .inr (.inl h.1) | skip
      exact .inr (.inr ⟨_, _, _, rfl, fun e => by
        have := h.1
        simp [outV, e] at this⟩)
    · exact outF_lk h.2 t
theorem SRK.goOut {K K' : KM} {fr0 : List (Nat × AV)} {b : Nat} {blk : OBlk} {n s : Nat} {a' : Act} {w' : World} {fr' : List (Nat × AV)} {O' : List (Nat × OBlk)} {hwi : ∀ w', Ext (fun _ => False) w w' → WI w'}
    (hs : SRK E K ⟨fr0, [(b, blk)]⟩ a w) (hk : blk.kd ≠ .any) (hp : ∀ b, E.pin b = none) (h0 : lk fr0 s = .osl b blk.sz n) (hs' : SRK (innerE E w hwi) K' ⟨fr', O'⟩ a' w') (hst : a'.tmps.getD s undef = a.tmps.getD s undef)
    (hb : olk O' b = none) (hO : ∀ i x, olk O' i = some x → x.kd = .pure) (hfr : ∀ t, lk fr' t = .top ∨ (lk fr' t).scalar = true ∨ ∃ i sz m, lk fr' t = .osl i sz m ∧ i ≠ b) :
    ∃ K'', SRK E K'' ⟨(s, .osl b blk.sz n) :: fr', (b, blk) :: O'⟩ a' w' := by
  have ob : olk [(b, blk)] b = some blk := by rw [olk_cons, if_pos rfl]
  let K'' : KM := fun i => if i = b then K b else K' i
  have kb : K'' b = K b := by simp [K'']
  have kn : ∀ i, i ≠ b → K'' i = K' i := fun i h => by simp [K'', h]
  have bn : ∀ i, i ≠ b → blkOf K'' i = blkOf K' i := fun i h => by unfold blkOf; rw [kn i h]
  have bb : blkOf K'' b = blkOf K b := by unfold blkOf; rw [kb]
  have hgb : ∀ g, blkOf K b = some g → g < w.heap.size := fun g h => hs.live_lt (b := b) (by rw [ob]; rfl) h
  have hge : ∀ i g, (olk O' i).isSome = true → blkOf K' i = some g → w.heap.size ≤ g := by
    intro i g h1 h2
    rcases hs'.mine i g h1 h2 with h | h
    · exact h.elim
    · exact h
  have oc : ∀ i, i ≠ b → olk ((b, blk) :: O') i = olk O' i := fun i h => by rw [olk_cons, if_neg (fun e => h e.symm)]
  have ocb : olk ((b, blk) :: O') b = some blk := by rw [olk_cons, if_pos rfl]
  have hXo : ∀ g, g < w.heap.size → XX E K'' ((b, blk) :: O') g → XX E K [(b, blk)] g := by
    rintro g hg (⟨i, h1, h2⟩ | h)
    · by_cases e : i = b
      · subst e; rw [bb] at h2; exact .inl ⟨i, by rw [ob]; rfl, h2⟩
      · rw [oc i e] at h1; rw [bn i e] at h2
        have := hge i g h1 h2; omega
    · exact .inr h
  have hkeep : Keep (XX E K [(b, blk)]) w w' := ⟨hs'.ext.size, fun g hg _ => hs'.ext.block g hg (fun h => h), hs'.ext.shape⟩
  refine ⟨K'', hs'.size, hs'.defers, ext_in hs hs'.ext, fun t => ?_, fun i x hi => ?_, fun i x hi => ?_, fun i i' g h1 h2 q1 q2 => ?_, fun i g h1 q1 => ?_, fun i x hx => by rw [hp i] at hx; cases hx⟩
  · show FV w' _ K'' _ (lk ((s, _) :: fr') t) _
    rw [lk_cons]
    split
    · rename_i e; subst e
      rw [hst]
      have hv := (hs.fr s).vr (by rw [show lk (Cfg.fr ⟨fr0, [(b, blk)]⟩) s = _ from h0]; rintro _ _ _ h; cases h)
      rw [show lk (Cfg.fr ⟨fr0, [(b, blk)]⟩) s = _ from h0] at hv
      refine .of (hv.keep hkeep hXo fun i hi => ?_)
      have : i = b := by
        simp only [AV.has] at hi
        exact (by simpa using hi : b = i).symm
      rw [this, kb]
    · have hv := hs'.fr t
      rcases hfr t with h | h | ⟨i, sz, m, h, hne⟩
      · rw [h]; exact FV.top
      · exact .of (scalar_sound h (hv.vr (by rintro _ _ _ e; rw [show lk (Cfg.fr ⟨fr', O'⟩) t = _ from e] at h; cases h)) _ _)
      · rw [show lk (Cfg.fr ⟨fr', O'⟩) t = _ from h] at hv
        rw [h]
        rcases VR.osl_inv (hv.vr (by rintro _ _ _ e; cases e)) with ⟨q1, rfl, q2⟩ | ⟨g', cap, cur', e', mm, hK, hnm, q2, hc', hnc, hmx, hcur⟩
        · rw [q2]; exact .of (.oslnil (by rw [kn i hne]; exact q1))
        · rw [q2]; exact .of (.osl (by rw [kn i hne]; exact hK) hnm hc' hnc hmx hcur)
  · by_cases e : i = b
    · subst e; rw [show olk (Cfg.O _) i = some blk from ocb] at hi; injection hi with hi; subst hi
      exact hs.rows i blk ob
    · rw [show olk (Cfg.O _) i = _ from oc i e] at hi
      exact hs'.rows i x hi
  · by_cases e : i = b
    · subst e; rw [show olk (Cfg.O _) i = some blk from ocb] at hi; injection hi with hi; subst hi
      rw [kb]
      rcases hs.own i blk ob with h | ⟨g, h1, h2⟩
      · exact .inl h
      · exact .inr ⟨g, h1, h2.keep (hs'.ext.block g (hgb g (blkOf_of h1)) (fun h => h)) hkeep hXo fun h => absurd h hk⟩
    · rw [show olk (Cfg.O _) i = _ from oc i e] at hi
      rw [kn i e]
      rcases hs'.own i x hi with h | ⟨g, h1, cur, hc, hu⟩
      · exact .inl h
      · refine .inr ⟨g, h1, cur, hc, fun j u hj => ?_⟩
        obtain ⟨y, y1, y2, y3⟩ := hu j u hj
        rw [hO i x hi] at y3 ⊢
        exact ⟨y, y1, y2, y3⟩
  · have h1 : (olk ((b, blk) :: O') i).isSome = true := h1
    have h2 : (olk ((b, blk) :: O') i').isSome = true := h2
    by_cases e : i = b <;> by_cases e' : i' = b
    · rw [e, e']
    · subst e
      rw [bb] at q1; rw [bn i' e'] at q2; rw [oc i' e'] at h2
      have := hgb g q1; have := hge i' g h2 q2; omega
    · subst e'
      rw [bb] at q2; rw [bn i e] at q1; rw [oc i e] at h1
      have := hgb g q2; have := hge i g h1 q1; omega
    · rw [bn i e] at q1; rw [bn i' e'] at q2; rw [oc i e] at h1; rw [oc i' e'] at h2
      exact hs'.inj i i' g h1 h2 q1 q2
  · have h1 : (olk ((b, blk) :: O') i).isSome = true := h1
    by_cases e : i = b
    · subst e; rw [bb] at q1
      exact hs.mine i g (by rw [show Cfg.O _ = [(i, blk)] from rfl, ob]; rfl) q1
    · rw [bn i e] at q1; rw [oc i e] at h1
      exact .inr (Nat.le_trans hs.ext.size (hge i g h1 q1))
theorem SRK.freezeF {K : KM} {fr : List (Nat × AV)} {O : List (Nat × OBlk)} (hs : SRK E K ⟨fr, O⟩ a w) {s b n : Nat} {blk : OBlk} (hs0 : lk fr s = .osl b blk.sz n) (hb : olk O b = some blk) (hkd : blk.kd = .flat) :
    SRK E K ⟨(s, .rsl blk.sz n (blk.rows.take n)) :: fr, delO b O⟩ a w := by
  have h' := hs.del b
  have hv : VR w (XX E K O) K (.osl b blk.sz n) (a.tmps.getD s undef) := by
    have h := (hs.fr s).vr (by rw [show lk (Cfg.fr ⟨fr, O⟩) s = _ from hs0]; rintro _ _ _ h; cases h)
    rw [show lk (Cfg.fr ⟨fr, O⟩) s = _ from hs0] at h
    exact h
  refine ⟨h'.size, h'.defers, h'.ext, fun t => ?_, h'.rows, h'.own, h'.inj, h'.mine, h'.pin⟩
  show FV w _ K _ (lk ((s, _) :: fr) t) _
  rw [lk_cons]
  split
  case isFalse => exact h'.fr t
  rename_i e
  subst e
  refine FV.of (VR.any ?_ K)
  have hsrc : srcRows (olk O) blk.sz (.osl b blk.sz n) = some (n, blk.rows.take n, blk.kd) := by
    simp only [srcRows, hb]
    rw [show Nat.beq blk.sz blk.sz = true from Nat.beq_refl _]
  obtain ⟨hl, hu, A, cp, news, e0, hnl, hcell, hone, hvn⟩ := src_sound hs hsrc hv
  have hcs : news.length = (blk.rows.take n).flatten.length := by rw [hnl, flat_len hu, ← hl]
  have hsub : ∀ g, XX E K (delO b O) g → XX E K O g := by
    rintro g (⟨i, h1, h2⟩ | h)
    · refine .inl ⟨i, ?_, h2⟩
      rw [olk_delO] at h1
      split at h1
      · cases h1
      · exact h1
    · exact .inr h
  have hvn' : ∀ (j : Nat) u x, (blk.rows.take n).flatten[j]? = some u → news[j]? = some x → VR w (XX E K (delO b O)) K0 u x := by
    intro j u x hj hx
    have := hvn j u x hj hx
    rw [hkd] at this
    exact this.sub fun g _ h => hsub g h
  rcases VR.osl_inv hv with ⟨hK, hz, e1⟩ | ⟨g, cap, cur, e', mm, hK, hnm, e1, hc, hnc, hm, hcur⟩
  · subst hz
    rw [e1]
    exact .rsl (cs := []) (by simp) (by simp) (Nat.le_refl _) (fun _ => rfl) (by simp) (by simp) (by simp) (by simp)
  · rw [e1] at e0
    injection e0 with e2 e3 e4
    rw [e1]
    refine .rsl hl hu hnc (fun h => by cases h) hcs hone (fun hne => ?_) hvn'
    have hpos : 0 < n := by
      rcases Nat.eq_zero_or_pos n with h | h
      · subst h; simp at hne
      · exact h
    obtain ⟨g', o', e5, hc'⟩ := hcell hpos
    rw [← e2] at e5
    injection e5 with e5; injection e5 with e5 e6; subst e5 e6
    refine ⟨g, 0, rfl, (Array.getElem?_eq_some_iff.1 hc).1, ?_, hc'⟩
    rintro (⟨i, hi, hk⟩ | ⟨hx1, hx2⟩)
    · have hne : b ≠ i := by
        rintro rfl
        rw [olk_delO, if_pos rfl] at hi; cases hi
      rw [olk_delO, if_neg hne] at hi
      exact hne (hs.inj b i g (by simp [hb]) hi (blkOf_of hK) hk)
    · rcases hs.mine b g (by simp [hb]) (blkOf_of hK) with h | h
      · exact E.hxf g hx1 h
      · omega
end
end Go.Abs
namespace Go.Abs
open Go.RowKit
set_option linter.unusedVariables false
/-! ### functions that return a slice with blocks of one's own behind it -/
def FnF (P : Program) (f : FuncId) (args : List AV) (Post : World → KM → List (Nat × OBlk) → AV → Prop) : Prop :=
  Head P f ∧ ∀ (XF : Nat → Prop) (w : World) (vs : Array Value), (∀ w', Ext (fun _ => False) w w' → WI w') → (∀ g, XF g → g < w.heap.size) → args.length = vs.size →
    (∀ (j : Nat) u c, args[j]? = some u → vs[j]? = some c → VR w XF K0 u c) →
    Calls P f vs w fun e w' => ∃ v K' O' r, e = .returned v ∧ Post w' K' O' r ∧ VR w' (fun g => Live K' O' g ∨ XF g) K' r v ∧ OwnR w' (fun g => Live K' O' g ∨ XF g) K' O' ∧ (∀ g, Live K' O' g → w.heap.size ≤ g) ∧ Ext (fun _ => False) w w'
section
variable {P : Program} {N : Nat}
theorem live_nil {K : KM} {g : Nat} : ¬ Live K [] g := by
  rintro ⟨b, h, _⟩
  simp [olk] at h
def EndF (t : Nat) (E : Env) (Post : World → KM → List (Nat × OBlk) → AV → Prop) : Exit → Act → World → Prop := fun e a w => (e = .normal ∨ e = .ret) ∧ ∃ K c, SRK E K c a w ∧ Post w K c.O (lk c.fr t)
theorem fnF_of {f : FuncId} {fn : Func} {code : Code} {args : List AV} {Post : World → KM → List (Nat × OBlk) → AV → Prop} (t : Nat)
    (hf : P.funcs[f]? = some fn) (hb : fn.body = some code) (hname : (fn.name == "runtime.NumGoroutine") = false) (hn : Nat.ble args.length fn.ntmps = true) (hN : fn.ntmps = N)
    (hr : fn.results.toList = [.tmp t]) (hP : ∀ w K O r, Post w K O r → ∀ d want u', r ≠ .opt d want u')
    (h : ∀ (E : Env) (K : KM) (a : Act) (w : World), E.N = N → (∀ b, E.pin b = none) → SRK E K ⟨idx 0 args, []⟩ a w → code.wp P (EndF t E Post) a w) : FnF P f args Post := by
  refine ⟨⟨fn, hf, hname, by rw [hb]; rfl⟩, fun XF w vs hwi hxf hlen hargs => ?_⟩
  refine calls_of_wp hf hb ?_
  have hn' := Nat.le_of_ble_eq_true hn
  subst hN
  let E : Env := ⟨fun _ => False, XF, w, fn.ntmps, hwi, fun _ => none, fun b x hx => (by cases hx), fun g _ h => h⟩
  have hXX : ∀ g, XX E K0 [] g → XF g := by
    rintro g (h | h)
    · exact absurd h live_nil
    · exact h.1
  refine wp_mono (h E K0 _ _ rfl (fun _ => rfl) ?_) ?_
  · refine ⟨by simp [E]; omega, rfl, ⟨rfl, rfl, rfl, Nat.le_refl _, fun _ _ _ => rfl, fun _ cur _ h => ⟨cur, h, rfl⟩⟩, fun s => ?_, fun b blk hb => by simp [olk] at hb, fun b blk hb => by simp [olk] at hb, fun b b' g hb => by simp [olk] at hb, fun b g hb => by simp [olk] at hb, fun b x hx => by cases hx⟩
    simp only [lk_idx, Nat.zero_le, if_true, Nat.sub_zero]
    cases hu : args[s]? with
    | none => rw [List.getD_eq_getElem?_getD, hu]; exact FV.top
    | some u =>
      rw [List.getD_eq_getElem?_getD, hu]
      have hs : s < vs.size := by rw [← hlen]; exact (List.getElem?_eq_some_iff.1 hu).1
      have hvs : vs[s]? = some vs[s] := by simp [hs]
      have := hargs s u _ hu hvs
      rw [show (vs ++ Array.replicate (fn.ntmps - vs.size) undef).getD s undef = vs[s] by
        rw [Array.getD_eq_getD_getElem?, Array.getElem?_append_left hs]
        simp [hs]]
      exact FV.of (this.sub fun g _ hg => hXX g hg)
  · rintro e a w' ⟨he, K', c, hs, hpost⟩
    have hv' : VR w' (XX E K' c.O) K' (lk c.fr t) (a.tmps.getD t undef) := (hs.fr t).vr (hP _ _ _ _ hpost)
    have hXX' : ∀ g, Live K' c.O g ∨ XF g → XX E K' c.O g := by
      rintro g (h | h)
      · exact .inl h
      · exact .inr ⟨h, hxf g h⟩
    have key : a.defers = [] ∧ ∃ v1, (results fn a.tmps).run P w' = .ok v1 w' ∧ ∃ v K' O' r, Ending.returned v1 = .returned v ∧ Post w' K' O' r ∧ VR w' (fun g => Live K' O' g ∨ XF g) K' r v ∧ OwnR w' (fun g => Live K' O' g ∨ XF g) K' O' ∧ (∀ g, Live K' O' g → w.heap.size ≤ g) ∧ Ext (fun _ => False) w w' := by
      refine ⟨hs.defers, a.tmps.getD t undef, results_run hr _ _ (vs := [a.tmps.getD t undef]) rfl (fun j x v2 hx hv2 => by
          cases j with
          | zero => simp at hx hv2; subst hx hv2; simp [resRun]
          | succ j => simp at hx), _, K', c.O, lk c.fr t, rfl, hpost, hv'.sub fun g _ hg => hXX' g hg, ⟨hs.rows, fun b blk hb => ?_, hs.inj⟩, fun g ⟨b, h1, h2⟩ => ?_, hs.ext⟩
      · rcases hs.own b blk hb with h1 | ⟨g, h1, h2⟩
        · exact .inl h1
        · exact .inr ⟨g, h1, h2.keep rfl (Keep.refl _ _) (fun g _ hg => hXX' g hg) (fun _ _ _ _ _ _ => rfl)⟩
      · rcases hs.mine b g h1 h2 with h | h
        · exact absurd h id
        · exact h
    rcases he with rfl | rfl
    · exact key
    · exact key
/-- the operation that calls it, where nothing is one's own yet -/
theorem wpOp_callF {E : Env} {K : KM} {fr : List (Nat × AV)} {a : Act} {w : World} {Post : World → KM → List (Nat × OBlk) → AV → Prop} {ops : Array Oper} {o : Oper} {Q : Exit → Act → World → Prop} {Kk : Act → World → Prop} {i g : Nat} {f : Operand} {args : Array Operand} {ts : Array TypeId} {caps us : List AV}
    (ho : ops[i]? = some o) (hop : o.op = .call { callee := .value f, args := args, argTypes := ts }) (hw : Region.wanted o (yielded ops a.tmps) = true) (hs : SRK E K ⟨fr, []⟩ a w) (hfn : FnF P g us Post)
    (hf : opv ⟨fr, []⟩ f = .func g caps) (hus : args.toList.map (opv ⟨fr, []⟩) ++ caps = us) (hno : ∀ u ∈ us, ∀ d want u', u ≠ .opt d want u') (hid : AV.idlessL us = true)
    (hfr : ∀ t b, (lk fr t).has b = false) (hpin : ∀ b, E.pin b = none) (hd : dstOK E.N ⟨fr, []⟩ o.dst = true)
    (hk : ∀ K' O' r v w', Post w' K' O' r → SRK E K' ⟨putF o.dst r fr, O'⟩ (a.put o.dst v) w' → Kk (a.put o.dst v) w') : wpOp P ops Q i Kk a w := by
  obtain ⟨⟨fn, hfn1, hname, hbody⟩, hfun⟩ := hfn
  have hval := opv_vals (c := ⟨fr, []⟩) hs
  obtain ⟨cv, ef, cl, cvv⟩ := VR.func_inv (hval.at hf)
  obtain ⟨ml, mv⟩ := map_vals hval args
  unfold wpOp
  rw [ho]
  simp only
  rw [if_pos hw]
  left
  unfold Oper.wp
  have hrun : (execOp a.eval o).run P w = .ok (.enter g (args.map a.eval ++ cv)) w := by
    simp only [execOp, hop, resolve, ef, Deferred.ofValue, Sem.run_bind, Sem.run_pure, Result.andThen_ok, invoke, callFunc, run_program]
    simp [hfn1, hname, hbody]
  rw [hrun, Oper.upon_enter]
  have hsize : us.length = (args.map a.eval ++ cv).size := by
    rw [← hus]; simp [cl]
  have hXn : ∀ g, (E.XF g ∧ g < E.w0.heap.size) → XX E K [] g := fun g h => .inr h
  have hargs : ∀ (j : Nat) u v, us[j]? = some u → (args.map a.eval ++ cv)[j]? = some v → VR w (fun g => E.XF g ∧ g < E.w0.heap.size) K0 u v := by
    intro j u v hu hv
    have hnu := hno u (List.mem_of_getElem? hu)
    have hil := idlessL_get hid hu
    rw [← hus] at hu
    have hasl : (args.toList.map (opv ⟨fr, []⟩)).length = (args.map a.eval).size := by simp
    rcases Nat.lt_or_ge j (args.toList.map (opv ⟨fr, []⟩)).length with hlt | hge
    · rw [List.getElem?_append_left hlt] at hu
      rw [Array.getElem?_append_left (by omega)] at hv
      exact (idless_K hil (FV.vr (mv j u v hu (by simpa using hv)) hnu)).sub fun g _ hg => hXn g hg
    · rw [List.getElem?_append_right hge] at hu
      rw [Array.getElem?_append_right (by omega)] at hv
      rw [hasl] at hu
      exact (idless_K hil (cvv _ u v hu hv)).sub fun g _ hg => hXn g hg
  have hwi : ∀ w', Ext (fun _ => False) w w' → WI w' := by
    intro w' hx
    refine E.hwi _ ⟨hx.os.trans hs.ext.os, hx.tape.trans hs.ext.tape, hx.output.trans hs.ext.output, Nat.le_trans hs.ext.size hx.size, fun g hg hX => ?_, fun g cur e hc => ?_⟩
    · rw [hx.block g (Nat.lt_of_lt_of_le hg hs.ext.size) id]
      exact hs.ext.block g hg hX
    · obtain ⟨c1, h1, s1⟩ := hs.ext.shape g cur e hc
      obtain ⟨c2, h2, s2⟩ := hx.shape g c1 e h1
      exact ⟨c2, h2, s2.trans s1⟩
  refine (hfun (fun g => E.XF g ∧ g < E.w0.heap.size) w _ hwi (fun g hg => Nat.lt_of_lt_of_le hg.2 hs.ext.size) hsize hargs).mono ?_
  rintro e w1 ⟨v, K', O', r, rfl, hpost, hrv, hown, hl, hx⟩
  have hx' : Ext (Live K []) w w1 := ⟨hx.os, hx.tape, hx.output, hx.size, fun g hg _ => hx.block g hg id, hx.shape⟩
  have hs1 := hs.callT (pins := []) (fun b hb => by cases hb) hown (fun g hg => .inr (hl g hg)) hx' (fun t b h => by rw [hfr t b] at h; cases h) (fun b _ => hpin b)
  refine hk K' O' r v w1 hpost (hs1.put (dst := o.dst) (u := r) (v := v) ?_ fun d _ => ?_)
  · exact hd
  · exact FV.of hrv
end
end Go.Abs
namespace Go.Abs
section
variable {P : Program} {E : Env} {K : KM} {a : Act} {w : World} {fr : List (Nat × AV)} {V : List (Nat × OBlk)} {e sz o eo : Nat}
/-- one row, that leads to a block of one's own, becomes a literal: the block joins the family -/
theorem nest_lit {y k : Nat} {t' : List (List AV)} {rows : List (List AV)} {T' : List (List (List AV))} {Tl : List (Nat × OBlk)}
    (hs : SRK E K ⟨fr, V ++ Tl⟩ a w) (hnf : noFid V = true) (hTl : ∀ b, olk Tl b = if fid k = b then none else olk (fam e sz T') b) (hTk : T'[k]? = some t')
    (ho : olk V o = some ⟨eo, 1, .any, rows⟩) (hy : olk V y = some ⟨e, sz, .pure, t'⟩) (hoy : o ≠ y) (hrk : rows[k]? = some [.osl y sz t'.length]) (hhas : hasRow (fid k) rows = false)
    (hpx : E.pin (fid k) = none) (hfx : ∀ s, (lk fr s).has (fid k) = false) (hVx : ∀ i z, olk V i = some z → i ≠ o → z.kd = .any → hasRow (fid k) z.rows = false) (hyf : y % 16 ≠ 15) :
    ∃ K' v', SRK E K' ⟨fr, setO o ⟨eo, 1, .any, rows.set k [.lit v']⟩ (delO y V) ++ fam e sz T'⟩ a w ∧ VR w (fun _ => True) K' (.osl (fid k) sz t'.length) v' ∧ ∀ i, i ≠ fid k → K' i = K i := by
  have hyj : ∀ j, y ≠ fid j := fun j h => hyf (by rw [h]; unfold fid; omega)
  have hkl : k < rows.length := (List.getElem?_eq_some_iff.1 hrk).1
  have hrows : ∀ row ∈ rows, row.length = 1 := hs.rows o _ (olk_app_l ho)
  have hfn : olk (V ++ Tl) (fid k) = none := by rw [olk_cat, noFid_get hnf k, hTl, if_pos rfl]; rfl
  obtain ⟨K', hK, hKx, hs1⟩ := hs.renameAny (b := y) hpx (olk_app_l hy) hfn hfx fun i z hi hk => by
    rcases olk_app_inv hi with h | ⟨_, h⟩
    · by_cases hio : i = o
      · subst hio; rw [ho] at h; injection h with h; subst h; exact hhas
      · exact hVx i z h hio hk
    · rw [hTl] at h
      split at h
      · cases h
      · obtain ⟨_, _, _, _, rfl⟩ := fam_inv h; cases hk
  have hof : ∀ j, fid j ≠ o := by rintro j rfl; rw [noFid_get hnf j] at ho; cases ho
  have ho1 : olk (setO (fid k) ⟨e, sz, .pure, t'⟩ (delO y (V ++ Tl))) o = some ⟨eo, 1, .any, rows⟩ := by
    rw [olk_setO, if_neg (hof k), olk_delO, if_neg (fun h => hoy h.symm), olk_cat, ho]; rfl
  have hne : rows ≠ [] := by rintro rfl; simp at hkl
  rcases hs1.own o _ ho1 with ⟨_, h2⟩ | ⟨g, hg1, cur, hc, hu⟩
  · exact absurd h2 hne
  obtain ⟨v', hv', hone, hvr⟩ := hu k _ ((one_flat hrows).2 hrk)
  have hrl' : ∀ row ∈ rows.set k [.lit v'], row.length = 1 := by
    intro r hr
    rcases List.mem_or_eq_of_mem_set hr with h | rfl
    · exact hrows r h
    · rfl
  have hs2 := hs1.recast (blk := ⟨eo, 1, .any, rows.set k [.lit v']⟩) ho1 hne (by simp) hrl' fun g' hg' hB => by
    rw [blkOf_of hg1] at hg'
    injection hg' with hg'
    subst hg'
    refine ⟨cur, hc, fun j u hj => ?_⟩
    have hj2 := (one_flat hrl').1 hj
    rw [List.getElem?_set] at hj2
    by_cases hjk : k = j
    · subst hjk
      rw [if_pos rfl, if_pos hkl] at hj2
      injection hj2 with hj2
      injection hj2 with hj2 _
      subst hj2
      exact ⟨v', hv', hone, .lit⟩
    · rw [if_neg hjk] at hj2
      exact hu j u ((one_flat hrows).2 hj2)
  refine ⟨K', v', hs2.congrO fun b => ?_, VR.osl_id (K := K') hvr (hKx.trans (hK y (hyj _)).symm), hK⟩
  show olk (setO o ⟨eo, 1, .any, rows.set k [.lit v']⟩ (delO y V) ++ fam e sz T') b = olk (setO o ⟨eo, 1, .any, rows.set k [.lit v']⟩ (setO (fid k) ⟨e, sz, .pure, t'⟩ (delO y (V ++ Tl)))) b
  rw [olk_cat, olk_setO, olk_delO, olk_setO, olk_setO, olk_delO, olk_cat, hTl]
  by_cases h2 : o = b
  · subst h2; rw [if_pos rfl, if_pos rfl]; rfl
  · rw [if_neg h2, if_neg h2]
    by_cases h3 : fid k = b
    · subst h3
      rw [if_pos rfl, fam_at, hTk]
      by_cases h4 : y = fid k
      · rw [if_pos h4]; rfl
      · rw [if_neg h4, noFid_get hnf k]; rfl
    · rw [if_neg h3, if_neg h3]
      by_cases h4 : y = b
      · subst h4
        rw [if_pos rfl, if_pos rfl]
        cases hq : olk (fam e sz T') y with
        | none => rfl
        | some z => obtain ⟨j, _, h, _⟩ := fam_inv hq; exact absurd h (hyj j)
      · rw [if_neg h4, if_neg h4]
/-- all rows are literals -/
theorem SRK.allLits {us : List Value} {O : List (Nat × OBlk)} (h : SRK E K ⟨fr, O⟩ a w) (ho : olk O o = some ⟨eo, 1, .any, Abs.lits us⟩) : SRK E K ⟨fr, setO o ⟨eo, 1, .pure, Abs.lits us⟩ O⟩ a w := by
  refine h.recastK (c := ⟨fr, O⟩) ho rfl rfl fun g hB => ?_
  obtain ⟨cur, hc, hu⟩ := hB
  refine ⟨cur, hc, fun j u hj => ?_⟩
  obtain ⟨x, h1, h2, h3⟩ := hu j u hj
  rw [one_flat (lits_row us)] at hj
  obtain ⟨v2, _, e2⟩ := List.mem_map.1 (List.mem_of_getElem? hj)
  injection e2 with e2; subst e2
  cases h3
  exact ⟨_, h1, h2, .lit⟩
end
end Go.Abs
