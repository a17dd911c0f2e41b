import Derived.Test.YteihenhffdckiaaGreatDoorJ14
import Derived.Test.YteihenhffdckiaaGreatDoorJ12
namespace Go.Abs
open Go.RowKit
set_option linter.unusedVariables false
/-! ### a block of one's own is written no more: all that leads to it becomes a reading -/
mutual
def frzA (b : Nat) (blk : OBlk) : AV → AV
  | .osl b' sz n => match Nat.beq b' b with
    | true => match Nat.beq sz blk.sz with | true => .rsl sz n (blk.rows.take n) | false => .top
    | false => .osl b' sz n
  | .osuf b' sz lo n => match Nat.beq b' b with | true => .top | false => .osuf b' sz lo n
  | .ovar b' o => match Nat.beq b' b with | true => .top | false => .ovar b' o
  | .optr b' sz i o => match Nat.beq b' b with | true => .top | false => .optr b' sz i o
  | .omap b' => match Nat.beq b' b with | true => .top | false => .omap b'
  | .agg xs => .agg (frzL b blk xs)
  | .tup xs => .tup (frzL b blk xs)
  | .func f xs => .func f (frzL b blk xs)
  | .opt d w v => match AV.has b v with | true => .top | false => .opt d w v
  | v => v
def frzL (b : Nat) (blk : OBlk) : List AV → List AV
  | [] => []
  | x :: xs => frzA b blk x :: frzL b blk xs
end
theorem frzL_len (b : Nat) (blk : OBlk) : ∀ xs, (frzL b blk xs).length = xs.length
  | [] => rfl
  | x :: xs => by simp [frzL, frzL_len b blk xs]
theorem frzL_get {b : Nat} {blk : OBlk} : ∀ {xs : List AV} {j : Nat} {u : AV}, (frzL b blk xs)[j]? = some u → ∃ u', xs[j]? = some u' ∧ u = frzA b blk u'
  | [], _, _, h => by simp [frzL] at h
  | x :: xs, 0, u, h => by simp [frzL] at h; exact ⟨x, rfl, h.symm⟩
  | x :: xs, j + 1, u, h => by simp [frzL] at h; simpa using frzL_get h
theorem frzL_app (b : Nat) (blk : OBlk) : ∀ xs ys, frzL b blk (xs ++ ys) = frzL b blk xs ++ frzL b blk ys
  | [], ys => rfl
  | x :: xs, ys => by simp [frzL, frzL_app b blk xs ys]
theorem frzL_flat (b : Nat) (blk : OBlk) : ∀ rows : List (List AV), (rows.map (frzL b blk)).flatten = frzL b blk rows.flatten
  | [] => rfl
  | r :: rs => by simp [frzL_app, frzL_flat b blk rs]
def frzF (b : Nat) (blk : OBlk) : List (Nat × AV) → List (Nat × AV)
  | [] => []
  | (t, v) :: r => (t, frzA b blk v) :: frzF b blk r
def frzB (b : Nat) (blk : OBlk) (x : OBlk) : OBlk :=
  match x.kd with
  | .any => { x with rows := x.rows.map (frzL b blk) }
  | _ => x
def frzO (b : Nat) (blk : OBlk) : List (Nat × OBlk) → List (Nat × OBlk)
  | [] => []
  | (i, x) :: r => match Nat.beq i b with
    | true => frzO b blk r
    | false => (i, frzB b blk x) :: frzO b blk r
theorem lk_frz (b : Nat) (blk : OBlk) : ∀ (fr : List (Nat × AV)) (t : Nat), lk (frzF b blk fr) t = frzA b blk (lk fr t)
  | [], t => rfl
  | (s, v) :: r, t => by
    simp only [frzF, lk_cons, lk_frz b blk r]
    split <;> rfl
theorem olk_frz {b : Nat} {blk : OBlk} : ∀ {O : List (Nat × OBlk)} {i : Nat} {y : OBlk}, olk (frzO b blk O) i = some y → i ≠ b ∧ ∃ x, olk O i = some x ∧ y = frzB b blk x
  | [], i, y, h => by simp [frzO, olk] at h
  | (k, x) :: r, i, y, h => by
    simp only [frzO] at h
    split at h
    · rename_i e
      have e := beq_true e
      subst e
      obtain ⟨h1, z, h2, h3⟩ := olk_frz h
      exact ⟨h1, z, by rw [olk_cons, if_neg (fun e => h1 e.symm)]; exact h2, h3⟩
    · rename_i e
      have e := beq_false e
      rw [olk_cons] at h
      split at h
      · rename_i e'
        subst e'
        injection h with h
        exact ⟨e, x, by rw [olk_cons, if_pos rfl], h.symm⟩
      · rename_i e'
        obtain ⟨h1, z, h2, h3⟩ := olk_frz h
        exact ⟨h1, z, by rw [olk_cons, if_neg e']; exact h2, h3⟩
theorem frzB_rows (b : Nat) (blk x : OBlk) : (frzB b blk x).kd = x.kd ∧ (frzB b blk x).e = x.e ∧ (frzB b blk x).sz = x.sz ∧ (frzB b blk x).ents = x.ents ∧ (frzB b blk x).rows.length = x.rows.length := by
  unfold frzB
  cases hk : x.kd <;> simp [hk]
section
variable {E : Env} {K : KM} {fr : List (Nat × AV)} {O : List (Nat × OBlk)} {a : Act} {w : World} {b : Nat} {blk : OBlk}
theorem SRK.XX_frz (h : SRK E K ⟨fr, O⟩ a w) (hb : olk O b = some blk) : ∀ g, XX E K (frzO b blk O) g → XX E K O g ∧ blkOf K b ≠ some g := by
  rintro g (⟨i, hi, hk⟩ | hg)
  · obtain ⟨y, hy⟩ := Option.isSome_iff_exists.1 hi
    obtain ⟨h1, x, h2, _⟩ := olk_frz hy
    refine ⟨.inl ⟨i, by simp [h2], hk⟩, fun e => h1 ?_⟩
    exact h.inj i b g (by simp [h2]) (by simp [hb]) hk e
  · refine ⟨.inr hg, fun e => ?_⟩
    rcases h.mine b g (by simp [hb]) e with q | q
    · exact E.hxf g hg.1 q
    · have := hg.2; omega
theorem frz_VR (h : SRK E K ⟨fr, O⟩ a w) (hb : olk O b = some blk) (hk : blk.kd = .pure ∨ blk.kd = .flat) {u : AV} {v : Value} (hv : VR w (XX E K O) K u v) : VR w (XX E K (frzO b blk O)) K (frzA b blk u) v := by
  have hX := h.XX_frz hb
  have hsub : ∀ {u : AV} {v : Value} {K' : KM}, VR w (XX E K O) K' u v → VR w (XX E K (frzO b blk O)) K' u v := fun hv => hv.sub fun g _ hg => (hX g hg).1
  suffices ∀ {X : Nat → Prop} {K' : KM} {u : AV} {v : Value}, VR w X K' u v → X = XX E K O → K' = K → VR w (XX E K (frzO b blk O)) K (frzA b blk u) v from this hv rfl rfl
  intro X K' u v hv
  induction hv with
  | top => intros; exact .top
  | bool => intros; exact .bool
  | int => intros; exact .int
  | str => intros; exact .str
  | nilsl => intros; exact .nilsl
  | nilfn => intros; exact .nilfn
  | esl => intros; exact .esl
  | und => intros; exact .und
  | lit => intros; exact .lit
  | agg hl h1 hv ih =>
    intro e1 e2
    refine .agg (by rw [frzL_len]; exact hl) h1 fun j u c hu hc => ?_
    obtain ⟨u', hu', rfl⟩ := frzL_get hu
    exact ih j u' c hu' hc e1 e2
  | tup hl hv ih =>
    intro e1 e2
    refine .tup (by rw [frzL_len]; exact hl) fun j u c hu hc => ?_
    obtain ⟨u', hu', rfl⟩ := frzL_get hu
    exact ih j u' c hu' hc e1 e2
  | func hl hv ih =>
    intro e1 e2
    refine .func (by rw [frzL_len]; exact hl) fun j u c hu hc => ?_
    obtain ⟨u', hu', rfl⟩ := frzL_get hu
    exact ih j u' c hu' hc e1 e2
  | rsl hn hsz hcap hA hcs h1 hcell hv ih => intro e1 e2; subst e1 e2; exact hsub (.rsl hn hsz hcap hA hcs h1 hcell hv)
  | rptr hcs h1 hg hx hc hv ih => intro e1 e2; subst e1 e2; exact hsub (.rptr hcs h1 hg hx hc hv)
  | rmap hm hg hx hsz hl h1 hv ih => intro e1 e2; subst e1 e2; exact hsub (.rmap hm hg hx hsz hl h1 hv)
  | itr h1 h2 h3 h4 h5 h6 => intro e1 e2; subst e1 e2; exact hsub (.itr h1 h2 h3 h4 h5 h6)
  | osuf hn hc =>
    intro e1 e2; subst e2
    simp only [frzA]
    split
    · exact .top
    · exact .osuf hn hc
  | ovar hKb =>
    intro e1 e2; subst e2
    simp only [frzA]
    split
    · exact .top
    · exact .ovar hKb
  | optr hKb =>
    intro e1 e2; subst e2
    simp only [frzA]
    split
    · exact .top
    · exact .optr hKb
  | omap hKb =>
    intro e1 e2; subst e2
    simp only [frzA]
    split
    · exact .top
    · exact .omap hKb
  | @oslnil K' b' sz hKb =>
    intro e1 e2; subst e2
    simp only [frzA]
    split
    · split
      · exact .rsl (cs := []) (by simp) (by simp) (Nat.le_refl _) (fun _ => rfl) (by simp) (by simp) (by simp) (by simp)
      · exact .top
    · exact .oslnil hKb
  | @osl K' b' sz n g m cap cur e hKb hnm hc hn hm hcap =>
    intro e1 e2; subst e1 e2
    simp only [frzA]
    split
    · rename_i hbb
      have hbb := beq_true hbb
      subst hbb
      split
      · rename_i hsz
        have hsz := beq_true hsz
        subst hsz
        have huni := h.rows b' blk hb
        have hsrc : srcRows (olk O) blk.sz (.osl b' blk.sz n) = some (n, blk.rows.take n, blk.kd) := by
          simp only [srcRows, hb]
          rw [show Nat.beq blk.sz blk.sz = true from Nat.beq_refl blk.sz]
        obtain ⟨hl, hu, A, cp, news, e0, hnl, hcell, hone, hvn⟩ := src_sound h hsrc (VR.osl hKb hnm hc hn hm hcap)
        injection e0 with e2 e3 e4
        refine .rsl (cs := news) hl hu hn (fun h => by cases h) (by rw [hnl, flat_len hu, ← hl]) hone (fun hne => ?_) (fun j u x hu' hx => ?_)
        · have hpos : 0 < n := by
            rcases Nat.eq_zero_or_pos n with h0 | h0
            · subst h0; simp at hne
            · exact h0
          obtain ⟨g', o', e5, hc'⟩ := hcell hpos
          rw [← e2] at e5
          injection e5 with e5; injection e5 with e5 e6; subst e5 e6
          exact ⟨g, 0, rfl, (Array.getElem?_eq_some_iff.1 hc).1, fun hg => (hX g hg).2 (blkOf_of hKb), hc'⟩
        · have := hvn j u x hu' hx
          rcases hk with hk | hk
          · rw [hk] at this
            exact VR.sub this fun g _ hg => trivial
          · rw [hk] at this
            exact VR.sub this fun g _ hg => (hX g hg).1
      · exact .top
    · exact .osl hKb hnm hc hn hm hcap
theorem SRK.frz (h : SRK E K ⟨fr, O⟩ a w) (hb : olk O b = some blk) (hk : blk.kd = .pure ∨ blk.kd = .flat) : SRK E K ⟨frzF b blk fr, frzO b blk O⟩ a w := by
  have hX := h.XX_frz hb
  refine ⟨h.size, h.defers, h.ext, fun t => ?_, fun i y hi => ?_, fun i y hi => ?_, fun i i' g h1 h2 => ?_, fun i g h1 => ?_, h.pin⟩
  · show FV w _ K _ (lk (frzF b blk fr) t) _
    rw [lk_frz]
    have hf := h.fr t
    show FV w _ K _ (frzA b blk (lk fr t)) _
    generalize hu : lk fr t = u at hf ⊢
    cases u with
    | opt d want v =>
      simp only [frzA]
      split
      · exact FV.top
      · exact hf.imp (fun q => ⟨q.1, q.2.sub fun g _ hg => (hX g hg).1⟩) id
    | _ => exact FV.of (frz_VR h hb hk (FV.vr hf (by rintro d want v ⟨⟩)))
  · obtain ⟨h1, x, h2, rfl⟩ := olk_frz hi
    intro row hrow
    obtain ⟨_, _, e3, _, _⟩ := frzB_rows b blk x
    rw [e3]
    unfold frzB at hrow
    split at hrow
    · obtain ⟨row', hr', rfl⟩ := List.mem_map.1 hrow
      rw [frzL_len]; exact h.rows i x h2 row' hr'
    · exact h.rows i x h2 row hrow
  · obtain ⟨h1, x, h2, rfl⟩ := olk_frz hi
    obtain ⟨e1, e2, e3, e4, e5⟩ := frzB_rows b blk x
    rw [e5]
    rcases h.own i x h2 with ⟨q1, q2⟩ | ⟨g, q1, cur, q2, q3⟩
    · exact .inl ⟨q1, List.eq_nil_of_length_eq_zero (by rw [e5, q2]; rfl)⟩
    · refine .inr ⟨g, q1, cur, ?_, fun j u hj => ?_⟩
      · have hc' := q2.keep rfl (Keep.refl _ _) (fun g _ hg => (hX g hg).1)
        unfold HoldsObj at hc' ⊢
        rw [e1, e2, e3, e4]
        cases hkd : x.kd <;> rw [hkd] at hc'
        · exact hc'
        · exact hc'
        · exact hc'
        · obtain ⟨p1, p2, p3⟩ := hc'
          exact ⟨p1, List.eq_nil_of_length_eq_zero (by rw [e5, p2]; rfl), p3⟩
      · cases hkd : x.kd with
        | any =>
          have hrb : (frzB b blk x).rows = x.rows.map (frzL b blk) := by unfold frzB; rw [hkd]
          rw [hrb, frzL_flat] at hj
          obtain ⟨u', hu', rfl⟩ := frzL_get hj
          obtain ⟨c, c1, c2, c3⟩ := q3 j u' hu'
          refine ⟨c, c1, c2, ?_⟩
          rw [hkd] at c3
          rw [e1, hkd]
          exact frz_VR h hb hk c3
        | _ =>
          have hrb : frzB b blk x = x := by unfold frzB; rw [hkd]
          rw [hrb] at hj ⊢
          obtain ⟨c, c1, c2, c3⟩ := q3 j u hj
          refine ⟨c, c1, c2, ?_⟩
          rw [hkd] at c3 ⊢
          exact VR.sub c3 (KdX_sub fun g _ hg => (hX g hg).1)
  · obtain ⟨y, hy⟩ := Option.isSome_iff_exists.1 h1
    obtain ⟨y', hy'⟩ := Option.isSome_iff_exists.1 h2
    obtain ⟨_, x, q1, _⟩ := olk_frz hy
    obtain ⟨_, x', q2, _⟩ := olk_frz hy'
    exact h.inj i i' g (by simp [q1]) (by simp [q2])
  · obtain ⟨y, hy⟩ := Option.isSome_iff_exists.1 h1
    obtain ⟨_, x, q1, _⟩ := olk_frz hy
    exact h.mine i g (by simp [q1])
end
def isPF : Kd → Bool
  | .pure => true
  | .flat => true
  | _ => false
theorem WkP.frz {ps : List Nat} {c : Cfg} (b : Nat) (blk : OBlk) (hb : olk c.O b = some blk) (hk : isPF blk.kd = true) : WkP ps c ⟨frzF b blk c.fr, frzO b blk c.O⟩ := by
  rintro E a w _ ⟨K, h⟩
  obtain ⟨fr, O⟩ := c
  refine ⟨K, h.frz hb ?_⟩
  cases hkd : blk.kd <;> rw [hkd] at hk <;> first | exact .inl rfl | exact .inr rfl | cases hk
/-- plain rows as rows that may hold readings -/
theorem WkP.flat {ps : List Nat} {c : Cfg} (b : Nat) (blk : OBlk) (hb : olk c.O b = some blk) (hk : blk.kd = .pure) : WkP ps c ⟨c.fr, setO b { blk with kd := .flat } c.O⟩ := by
  rintro E a w _ ⟨K, h⟩
  refine ⟨K, h.recastK hb rfl rfl fun g hB => ?_⟩
  obtain ⟨cur, hc, hu⟩ := hB
  refine ⟨cur, by unfold HoldsObj at hc ⊢; rw [hk] at hc; exact hc, fun j u hj => ?_⟩
  obtain ⟨x, hx, h1, hv⟩ := hu j u hj
  refine ⟨x, hx, h1, ?_⟩
  rw [hk] at hv
  exact VR.sub hv fun _ _ _ => trivial
/-- a slot says less -/
theorem WkP.slot {ps : List Nat} {c : Cfg} (t : Nat) {u : AV} (u' : AV) (hu : lk c.fr t = u) (hn : notOpt u = true) (hi : Imp u u') : WkP ps c ⟨(t, u') :: c.fr, c.O⟩ := by
  rintro E a w _ ⟨K, h⟩
  refine ⟨K, h.size, h.defers, h.ext, fun s => ?_, h.rows, h.own, h.inj, h.mine, h.pin⟩
  show FV w _ K _ (lk ((t, u') :: c.fr) s) _
  rw [lk_cons]
  split
  · rename_i e
    subst e
    have hf := h.fr t
    rw [hu] at hf
    exact FV.of (hi _ _ _ _ (FV.vr hf (by rintro d want v rfl; cases hn)))
  · exact h.fr s
theorem Imp.osuf (b sz n : Nat) : Imp (.osl b sz n) (.osuf b sz 0 n) := by
  intro w X K v h
  rcases VR.osl_inv h with ⟨h1, h2, rfl⟩ | ⟨g, cap, cur, e, m, h1, h2, rfl, h4, h5, h6, h7⟩
  · subst h2; exact .osuf (fun h => by omega) (fun h => by omega)
  · exact .osuf (fun _ => ⟨g, m, h1, by omega, by simp⟩) (fun _ => ⟨h5, h6, g, 0, cur, e, rfl, h4, by omega⟩)
end Go.Abs
