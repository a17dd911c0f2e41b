import Derived.Test.YteihenhffdckiaaGreatDoorJ6
namespace Go.Abs
open Go.RowKit
set_option linter.unusedVariables false

section
variable {P : Program} {T : Tab} {E : Env} {K : KM} {c : Cfg} {a : Act} {w : World} {o : Oper} {r : Res} {val : Operand → AV} {X : Nat → Prop}

theorem Src.sub {X X' : Nat → Prop} {sz m : Nat} {rows : List (List AV)} {kd : Kd} {v : Value} (h : Src w X K sz m rows kd v) (hX : ∀ g, g < w.heap.size → X' g → X g) : Src w X' K sz m rows kd v := by
  obtain ⟨h1, h2, A, cp, news, h3, h4, h5, h6, h7⟩ := h
  exact ⟨h1, h2, A, cp, news, h3, h4, h5, h6, fun j u x hu hx => (h7 j u x hu hx).sub (KdX_sub hX)⟩

theorem run_append_op {s x : Operand} {t : TypeId} (ho : o.op = .call { callee := .builtin .append, args := #[s, x], argTypes := #[t, t] }) {v' : Value} {w' : World}
    (h : (Builtin.append_ #[t, t] o.type #[a.eval s, a.eval x]).run P w = .ok v' w') : (execOp a.eval o).run P w = .ok (.value v') w' := by
  simp only [execOp, ho, resolve, invoke, builtin, List.map_toArray, List.map_cons, List.map_nil, Sem.run_bind, Sem.run_pure, Result.andThen_ok, h]

theorem olk_delO (b : Nat) : ∀ (O : List (Nat × OBlk)) (s : Nat), olk (delO b O) s = if b = s then none else olk O s
  | [], s => by simp [delO, olk]
  | (i, x) :: r, s => by
    unfold delO
    cases hb : Nat.beq i b with
    | true =>
      have := beq_true hb
      subst this
      rw [olk_delO i r s, olk_cons]
      by_cases e : i = s
      · rw [if_pos e, if_pos e]
      · rw [if_neg e, if_neg e, if_neg e]
    | false =>
      have := beq_false hb
      rw [olk_cons, olk_cons, olk_delO b r s]
      by_cases e : i = s
      · subst e; rw [if_pos rfl, if_neg (fun e => this e.symm), if_pos rfl]
      · rw [if_neg e, if_neg e]
/-- A block gets another id; the elder one is in no use any more. -/
theorem SRK.rename (h : SRK E K c a w) {b b' : Nat} {blk : OBlk} (hpn : Nat.ble (b' % 16) 1 = true) (hb : olk c.O b = some blk) (h1 : olk c.O b' = none) (h2 : ∀ t, (lk c.fr t).has b' = false) (h3 : ∀ i x, olk c.O i = some x → x.kd = .any → hasRow b' x.rows = false) :
    ∃ K', (∀ i, i ≠ b' → K' i = K i) ∧ K' b' = K b ∧ SRK E K' ⟨c.fr, setO b' blk (delO b c.O)⟩ a w := by
  have hne : b ≠ b' := by rintro rfl; rw [hb] at h1; cases h1
  have hlk : ∀ i, olk (setO b' blk (delO b c.O)) i = if b' = i then some blk else if b = i then none else olk c.O i := fun i => by rw [olk_setO, olk_delO]
  obtain ⟨x, hx⟩ : ∃ x, K b = some x := by
    rcases h.own b blk hb with ⟨k, _⟩ | ⟨g, k, _⟩
    · exact ⟨_, k⟩
    · exact ⟨_, k⟩
  have hK : ∀ i, i ≠ b' → upd K b' x i = K i := fun i hi => upd_other _ _ hi
  have hKb : upd K b' x b' = K b := by rw [upd_same, hx]
  have hblk : ∀ i g, (olk (setO b' blk (delO b c.O)) i).isSome = true → blkOf (upd K b' x) i = some g → ∃ i', (olk c.O i').isSome = true ∧ blkOf K i' = some g ∧ ((i = b' ∧ i' = b) ∨ (i ≠ b' ∧ i ≠ b ∧ i' = i)) := by
    intro i g hi hg
    rw [hlk] at hi
    by_cases e : b' = i
    · subst e
      refine ⟨b, by rw [hb]; rfl, ?_, .inl ⟨rfl, rfl⟩⟩
      have : blkOf (upd K b' x) b' = blkOf K b := by unfold blkOf; rw [hKb]
      rw [← this]; exact hg
    · rw [if_neg e] at hi
      by_cases e2 : b = i
      · rw [if_pos e2] at hi; cases hi
      · rw [if_neg e2] at hi
        exact ⟨i, hi, by rw [← upd_blk_other K x (fun e' => e e'.symm)]; exact hg, .inr ⟨fun e' => e e'.symm, fun e' => e2 e'.symm, rfl⟩⟩
  have hX : ∀ g, g < w.heap.size → XX E (upd K b' x) (setO b' blk (delO b c.O)) g → XX E K c.O g := by
    rintro g hg (⟨i, hi, hk⟩ | hX)
    · obtain ⟨i', k1, k2, _⟩ := hblk i g hi hk
      exact .inl ⟨i', k1, k2⟩
    · exact .inr hX
  refine ⟨upd K b' x, hK, hKb, h.size, h.defers, h.ext, fun t => (h.fr t).keep (Keep.refl _ _) hX fun i hi => hK i (by rintro rfl; rw [h2 t] at hi; cases hi), fun i y hi => ?_, fun i y hi => ?_, fun i i' g k1 k2 l1 l2 => ?_, fun i g k1 l1 => ?_, pin_upd h.pin hpn⟩
  · simp only [hlk] at hi
    by_cases e : b' = i
    · rw [if_pos e] at hi; injection hi with hi; subst hi; exact h.rows b blk hb
    · rw [if_neg e] at hi
      by_cases e2 : b = i
      · rw [if_pos e2] at hi; cases hi
      · rw [if_neg e2] at hi; exact h.rows i y hi
  · simp only [hlk] at hi
    have keepB : ∀ {i y g}, olk c.O i = some y → BlkR w (XX E K c.O) K g y → BlkR w (XX E (upd K b' x) (setO b' blk (delO b c.O))) (upd K b' x) g y := by
      intro i y g hy hB
      refine hB.keep rfl (Keep.refl _ _) hX fun hk j u i' hj hu => hK i' ?_
      rintro rfl
      rw [hasRow_get (h3 i y hy hk) hj] at hu; cases hu
    by_cases e : b' = i
    · rw [if_pos e] at hi; injection hi with hi; subst hi; subst e
      rcases h.own b blk hb with ⟨k1, k2⟩ | ⟨g, k1, k2⟩
      · exact .inl ⟨hKb.trans k1, k2⟩
      · exact .inr ⟨g, hKb.trans k1, keepB hb k2⟩
    · rw [if_neg e] at hi
      by_cases e2 : b = i
      · rw [if_pos e2] at hi; cases hi
      · rw [if_neg e2] at hi
        rcases h.own i y hi with ⟨k1, k2⟩ | ⟨g, k1, k2⟩
        · exact .inl ⟨(hK i fun e' => e e'.symm).trans k1, k2⟩
        · exact .inr ⟨g, (hK i fun e' => e e'.symm).trans k1, keepB hi k2⟩
  · obtain ⟨j, m1, m2, m3⟩ := hblk i g k1 l1
    obtain ⟨j', n1, n2, n3⟩ := hblk i' g k2 l2
    have := h.inj j j' g m1 n1 m2 n2
    rcases m3 with ⟨rfl, rfl⟩ | ⟨m4, m5, rfl⟩ <;> rcases n3 with ⟨rfl, rfl⟩ | ⟨n4, n5, rfl⟩
    · rfl
    · exact absurd this.symm n5
    · exact absurd this m5
    · exact this
  · obtain ⟨j, m1, m2, _⟩ := hblk i g k1 l1
    exact h.mine j g m1 m2
theorem Src.other {K' : KM} {sz m : Nat} {rows : List (List AV)} {kd : Kd} {v : Value} (h : Src w X K sz m rows kd v) (hk : kd = .any → ∀ (j : Nat) u i, rows.flatten[j]? = some u → u.has i = true → K' i = K i) : Src w X K' sz m rows kd v := by
  obtain ⟨h1, h2, A, cp, news, h3, h4, h5, h6, h7⟩ := h
  refine ⟨h1, h2, A, cp, news, h3, h4, h5, h6, fun j u x hu hx => ?_⟩
  have := h7 j u x hu hx
  cases kd
  · exact this
  · exact this
  · exact VR.keep this (Keep.refl _ _) (fun _ _ h => h) fun i hi => hk rfl j u i hu hi
  · exact this

theorem s_append {dr : Bool} (hT : TabOK P T) (hone : ∀ t i, T.get t = some i → oneCells i.zero = true ∧ i.zero.cells.size = i.size) (hs : SRK E K c a w) (hval : Vals E K c a w val)
    {t : TypeId} {s x : Operand} (ho : o.op = .call { callee := .builtin .append, args := #[s, x], argTypes := #[t, t] }) (hf : freshD c r.nw r.D = true)
    (h : (appendA dr T (olk c.O) o.dst t (val s) (val x)).holds P (· = r)) : o.wp P a w (OpPost E c r a o.dst) NoQ := by
  unfold appendA at h
  split at h
  · rename_i ti hti
    split at h
    · rename_i e hk
      obtain ⟨⟨d, hd, hdk⟩, _⟩ := hT.get hti
      rw [hk] at hdk
      have := of_slice hdk
      subst this
      split at h
      · rename_i ei hei
        obtain ⟨_, ⟨je, hje, hjz, hjs, hjb⟩, _⟩ := hT.get hei
        obtain ⟨ho1, hzs⟩ := hone e ei hei
        split at h
        · rename_i m rows skd hsrc hpos
          have hpos := Nat.le_of_ble_eq_true hpos
          have hxv : VR w (XX E K c.O) K (val x) (a.eval x) := (hval x).vr (by rintro d want u e'; rw [e'] at hsrc; cases hsrc)
          have src := src_sound hs hsrc hxv
          split at h
          · rename_i hsv
            have esv := VR.nilsl_inv (hval.at hsv)
            obtain ⟨⟨hby, hml⟩, p, h⟩ := h
            have fin : ∀ kd : Kd, kd ≠ .any → (takesKd kd skd rows (.ret { v := .osl (idOf o.dst 0) ei.size m, D := [(idOf o.dst 0, { e := e, sz := ei.size, kd := kd, rows := rows })], nw := true })).holds P (· = r) → o.wp P a w (OpPost E c r a o.dst) NoQ := by
              intro kd hkd h
              obtain ⟨hr, _, htk⟩ := takes_get h
              have hr : _ = r := hr
              have hf' := hf
              rw [← hr] at hf'
              have hfr := freshD_one hf'
              obtain ⟨f1, f2, f3⟩ := fresh_of hfr
              obtain ⟨v', w', K', hrun, hs', hv'⟩ := append_bind (P := P) (ti := je) (ty := o.type) (hpn := fresh_pin hfr) (hkm := takes_ne h) hs hd hje hjz hjs hzs hpos (old := []) (n := 0) (fun e => absurd e hkd) f2 (fun i x hi _ hk => f3 i x hi hk) (.inl ⟨rfl, rfl, esv⟩) rfl (by simp) src htk (by unfold maxLen; omega) (by rw [hjb]; simpa using hby)
              simp only [List.nil_append, Nat.zero_add] at hs' hv'
              exact wp_new (run_append_op ho hrun) hr hs' hv'
            cases p
            · exact fin _ (by simp) h
            · exact fin _ (by simp) h
          · rename_i b sz n hsv
            split at h
            · rename_i blk hb
              split at h
              · rename_i hsz hbsz hbe
                rw [Bool.and_eq_true, Bool.and_eq_true] at hsz
                have hbp := hsz.1.2
                have hao := hsz.2
                replace hsz := beq_true hsz.1.1
                have hbsz := beq_true hbsz
                have hbe := beq_true hbe
                obtain ⟨⟨hby, hml⟩, h⟩ := h
                obtain ⟨hr, hkd, htk⟩ := takes_get h
                have hr : _ = r := hr
                cases dr with
                | true =>
                simp only at hr
                have hf' := hf
                rw [← hr] at hf'
                have hfr := freshD_one hf'
                obtain ⟨f1, f2, f3⟩ := fresh_of hfr
                obtain ⟨K1, hK1, hKb, hs1⟩ := hs.rename (fresh_pin hfr) hb f1 f2 f3
                have hrb : blk.kd = .any → hasRow (idOf o.dst 0) rows = false := by
                  intro hk'
                  obtain ⟨b', blk', n', q1, q2, q3⟩ := srcRows_any hsrc (hkd.1 hk')
                  rw [q3]; exact hasRow_take (f3 b' blk' q1 q2) n'
                have hX1 : ∀ g, g < w.heap.size → XX E K1 (setO (idOf o.dst 0) blk (delO b c.O)) g → XX E K c.O g := by
                  rintro g hg (⟨i, hi, hk⟩ | hX)
                  · rw [olk_setO, olk_delO] at hi
                    by_cases e : idOf o.dst 0 = i
                    · subst e
                      exact .inl ⟨b, by rw [hb]; rfl, by rw [← hk]; unfold blkOf; rw [hKb]⟩
                    · rw [if_neg e] at hi
                      by_cases e2 : b = i
                      · rw [if_pos e2] at hi; cases hi
                      · rw [if_neg e2] at hi
                        exact .inl ⟨i, hi, by rw [← hk]; exact (blkOf_eq (hK1 i fun e' => e e'.symm)).symm⟩
                  · exact .inr hX
                have huni := hs.rows b blk hb
                have hnle : n ≤ blk.rows.length ∧ ((blk.rows.take n = [] ∧ n = 0 ∧ a.eval s = .slice none 0 0) ∨ ∃ (g cap : Nat) (cur : Array Value), (olk (setO (idOf o.dst 0) blk (delO b c.O)) (idOf o.dst 0)).isSome = true ∧ blkOf K1 (idOf o.dst 0) = some g ∧ a.eval s = .slice (some ⟨g, 0, none⟩) n cap ∧ n ≤ cap ∧ cap ≤ maxLen ∧ cap * ei.size = cur.size ∧ w.heap[g]? = some (.cells cur e (0, 0)) ∧
                    ∀ (j : Nat) u, (blk.rows.take n).flatten[j]? = some u → ∃ y, cur[j]? = some y ∧ y.oneCell' = true ∧ VR w (KdX blk.kd (XX E K1 (setO (idOf o.dst 0) blk (delO b c.O)))) (KdK blk.kd K1) u y) := by
                  rcases VR.osl_inv (hval.at hsv) with ⟨hK, hz, e1⟩ | ⟨g, cap, cur, e', mm, hK, hnm, e1, hc, hnc, hm, hcur⟩
                  · subst hz; exact ⟨Nat.zero_le _, .inl ⟨by simp, rfl, e1⟩⟩
                  · rcases hs.own b blk hb with ⟨k1, _⟩ | ⟨g', k1, cur', hc', hu⟩
                    · rw [hK] at k1; cases k1
                    · rw [hK] at k1; injection k1 with k1; injection k1 with k1 k2; injection k1 with k1; subst k1 k2
                      replace hc' := hc'.of_obj hc; rw [hc] at hc'; injection hc' with hc'; injection hc' with h1 h2; subst h1
                      refine ⟨hnm, .inr ⟨g, cap, cur, by rw [olk_setO, if_pos rfl]; rfl, by rw [← blkOf_of hK]; unfold blkOf; rw [hKb], e1, hnc, hm, by rw [← hsz]; exact hcur, by rw [← hbe, ← h2]; exact hc, fun j u hj => ?_⟩⟩
                      have hpre : blk.rows.flatten[j]? = some u := by
                        have : blk.rows = blk.rows.take n ++ blk.rows.drop n := (List.take_append_drop _ _).symm
                        rw [this, List.flatten_append, List.getElem?_append_left (List.getElem?_eq_some_iff.1 hj).1]
                        exact hj
                      obtain ⟨y, hy, h1y, hvy⟩ := hu j u hpre
                      refine ⟨y, hy, h1y, ?_⟩
                      have hvy := VR.sub hvy (KdX_sub hX1)
                      revert hvy
                      cases hbk : blk.kd with
                      | pure => exact fun h => h
                      | flat => exact fun h => h
                      | map ag st => exact fun h => h
                      | any =>
                        intro h
                        refine VR.keep h (Keep.refl _ _) (fun _ _ h => h) fun i hi => hK1 i fun e => ?_
                        rw [e, hasRow_get (f3 b blk hb hbk) hpre] at hi
                        cases hi
                obtain ⟨v', w', K', hrun, hs', hv'⟩ := append_bind (P := P) (c := ⟨c.fr, setO (idOf o.dst 0) blk (delO b c.O)⟩) (ti := je) (ty := o.type) (b := idOf o.dst 0) (hpn := fresh_pin hfr) (hkm := takes_ne h) hs1 hd hje hjz hjs hzs hpos (old := blk.rows.take n) (n := n) (fun hk' => by rw [hasRow_app, hasRow_take (f3 b blk hb hk') n, hrb hk']; rfl) f2
                  (fun i y hi hi' hk => by
                    rw [olk_setO, olk_delO, if_neg (fun e => hi' e.symm)] at hi
                    by_cases e2 : b = i
                    · rw [if_pos e2] at hi; cases hi
                    · rw [if_neg e2] at hi; exact f3 i y hi hk) hnle.2
                  (by rw [List.length_take]; omega) (fun row hr' => by rw [← hbsz]; exact huni row (List.mem_of_mem_take hr')) ((src.sub hX1).other fun hk' j u i hj hi => hK1 i fun e => (by
                    rw [e, hasRow_get (hrb (hkd.2 hk')) hj] at hi; cases hi)) htk (by unfold maxLen; omega) (by rw [hjb]; exact hby)
                subst hr
                unfold Oper.wp
                rw [run_append_op ho hrun]
                have hblk : ({ e := e, sz := ei.size, kd := blk.kd, rows := blk.rows.take n ++ rows } : OBlk) = { blk with rows := blk.rows.take n ++ rows, ents := [] } := by rw [← hbe, ← hbsz]
                rw [hblk] at hs' hv'
                rw [← hsz] at hv'
                have hlk : ∀ (y : OBlk) i x, olk (setO (idOf o.dst 0) y (delO b c.O)) i = some x → olk (setO (idOf o.dst 0) y (setO (idOf o.dst 0) blk (delO b c.O))) i = some x := by
                  intro y i x hi
                  rw [olk_setO] at hi ⊢
                  by_cases e : idOf o.dst 0 = i
                  · rw [if_pos e] at hi ⊢; exact hi
                  · rw [if_neg e] at hi ⊢; rw [olk_setO, if_neg e]; exact hi
                exact ⟨K', v', rfl, hs'.weak (fun t => .inl rfl) (hlk _), VR.sub hv' fun g _ hg => XX.sub (fun i x hi => ⟨x, hlk _ i x hi⟩) g hg⟩
                | false =>
                have hX : ∀ g, g < w.heap.size → XX E K (purgeO b c.O) g → XX E K c.O g := fun g _ hg => XX.sub (fun i x hi => by
                  rw [olk_purge] at hi
                  cases hy : olk c.O i with
                  | none => rw [hy] at hi; cases hi
                  | some y => exact ⟨y, rfl⟩) g hg
                have hpb : (olk (purgeO b c.O) b).isSome = true := by rw [olk_purge, hb]; rfl
                have hfr : ∀ t, (lk (purgeF b c.fr) t).has b = false := by
                  intro t
                  rw [lk_purge]
                  split
                  · rfl
                  · rename_i h'; simpa using h'
                have hO : ∀ i x, olk (purgeO b c.O) i = some x → i ≠ b → x.kd = .any → hasRow b x.rows = false := by
                  intro i x hi _ hk
                  rw [olk_purge] at hi
                  cases hy : olk c.O i with
                  | none => rw [hy] at hi; cases hi
                  | some y =>
                    rw [hy] at hi
                    injection hi with hi
                    cases hyk : y.kd <;> simp only [hyk] at hi
                    · rw [← hi, hyk] at hk; cases hk
                    · rw [← hi, hyk] at hk; cases hk
                    · rw [← hi]; exact hasRow_purge b y.rows
                    · rw [← hi, hyk] at hk; cases hk
                have huni := hs.rows b blk hb
                have hnle : n ≤ blk.rows.length ∧ ((blk.rows.take n = [] ∧ n = 0 ∧ a.eval s = .slice none 0 0) ∨ ∃ (g cap : Nat) (cur : Array Value), (olk (purgeO b c.O) b).isSome = true ∧ blkOf K b = some g ∧ a.eval s = .slice (some ⟨g, 0, none⟩) n cap ∧ n ≤ cap ∧ cap ≤ maxLen ∧ cap * ei.size = cur.size ∧ w.heap[g]? = some (.cells cur e (0, 0)) ∧
                    ∀ (j : Nat) u, (blk.rows.take n).flatten[j]? = some u → ∃ y, cur[j]? = some y ∧ y.oneCell' = true ∧ VR w (KdX blk.kd (XX E K (purgeO b c.O))) (KdK blk.kd K) u y) := by
                  rcases VR.osl_inv (hval.at hsv) with ⟨hK, hz, e1⟩ | ⟨g, cap, cur, e', mm, hK, hnm, e1, hc, hnc, hm, hcur⟩
                  · subst hz; exact ⟨Nat.zero_le _, .inl ⟨by simp, rfl, e1⟩⟩
                  · rcases hs.own b blk hb with ⟨k1, _⟩ | ⟨g', k1, cur', hc', hu⟩
                    · rw [hK] at k1; cases k1
                    · rw [hK] at k1; injection k1 with k1; injection k1 with k1 k2; injection k1 with k1; subst k1 k2
                      replace hc' := hc'.of_obj hc; rw [hc] at hc'; injection hc' with hc'; injection hc' with h1 h2; subst h1
                      refine ⟨hnm, .inr ⟨g, cap, cur, hpb, blkOf_of hK, e1, hnc, hm, by rw [← hsz]; exact hcur, by rw [← hbe, ← h2]; exact hc, fun j u hj => ?_⟩⟩
                      have hpre : blk.rows.flatten[j]? = some u := by
                        have : blk.rows = blk.rows.take n ++ blk.rows.drop n := (List.take_append_drop _ _).symm
                        rw [this, List.flatten_append, List.getElem?_append_left (List.getElem?_eq_some_iff.1 hj).1]
                        exact hj
                      obtain ⟨y, hy, h1y, hvy⟩ := hu j u hpre
                      exact ⟨y, hy, h1y, hvy.sub (KdX_sub hX)⟩
                obtain ⟨v', w', K', hrun, hs', hv'⟩ := append_bind (P := P) (c := ⟨purgeF b c.fr, purgeO b c.O⟩) (ti := je) (ty := o.type) (b := b) (hpn := hbp) (hkm := takes_ne h) (hs.purge b) hd hje hjz hjs hzs hpos (old := blk.rows.take n) (n := n) (fun e => by rw [e] at hao; cases hao) hfr hO hnle.2
                  (by rw [List.length_take]; omega) (fun row hr' => by rw [← hbsz]; exact huni row (List.mem_of_mem_take hr')) (src.sub hX) htk (by unfold maxLen; omega) (by rw [hjb]; exact hby)
                subst hr
                unfold Oper.wp
                rw [run_append_op ho hrun]
                have hblk : ({ e := e, sz := ei.size, kd := blk.kd, rows := blk.rows.take n ++ rows } : OBlk) = { blk with rows := blk.rows.take n ++ rows, ents := [] } := by rw [← hbe, ← hbsz]
                rw [hblk] at hs' hv'
                rw [← hsz] at hv'
                exact ⟨K', v', rfl, hs', hv'⟩
              · exact h.elim
            · exact h.elim
          · exact h.elim
        · exact h.elim
      · exact h.elim
    · exact h.elim
  · exact h.elim

/-! ### calls -/
theorem xfreeT_get : ∀ {xs : List AV} {j : Nat} {u : AV}, AV.xfreeT xs = true → xs[j]? = some u → u = .top ∨ u.scalar = true
  | [], _, _, _, hj => by simp at hj
  | x :: xs, 0, u, h, hj => by
    simp at hj; subst hj
    cases x <;> first | exact .inl rfl | (right; simp only [AV.xfreeT, Bool.and_eq_true] at h; exact h.1)
  | x :: xs, j + 1, u, h, hj => by
    simp at hj
    have : AV.xfreeT xs = true := by
      cases x <;> first | exact h | (simp only [AV.xfreeT, Bool.and_eq_true] at h; exact h.2)
    exact xfreeT_get this hj
theorem xfreeL_get : ∀ {xs : List AV} {j : Nat} {u : AV}, AV.xfreeL xs = true → xs[j]? = some u → u.scalar = true
  | [], _, _, _, h => by simp at h
  | x :: xs, 0, u, h, hj => by simp at hj; subst hj; simp [AV.xfreeL] at h; exact h.1
  | x :: xs, j + 1, u, h, hj => by simp at hj; simp [AV.xfreeL] at h; exact xfreeL_get h.2 hj

theorem KdX_pf {kd : Kd} (hkd : kd ≠ .any) {u : AV} {v : Value} (h : VR w (KdX kd X) (KdK kd K) u v) : VR w (fun _ => False) K0 u v := by
  cases kd
  · exact VR.sub h fun _ _ h => h.elim
  · exact VR.sub h fun _ _ h => h.elim
  · exact absurd rfl hkd
  · exact VR.sub h fun _ _ h => h.elim

theorem viewCell_sound (hs : SRK E K c a w) {u u' : AV} {v : Value} (h : viewCell (olk c.O) u = some u') (hv : VR w (XX E K c.O) K u v) : VR w (fun _ => False) K0 u' v := by
  have idl : ∀ {u}, VR w (XX E K c.O) K u v → u.idless = true → VR w (fun _ => False) K0 u v := fun hv hi => (idless_sound hv hi K0).sub fun _ _ h => h.elim
  unfold viewCell at h
  split at h
  · rename_i b sz n
    split at h
    · rename_i blk hb
      have fin : Nat.beq sz blk.sz = true → blk.kd ≠ .any → VR w (fun _ => False) K0 (.rsl sz n (blk.rows.take n)) v := by
        intro hsz hkd
        have hsz := beq_true hsz
        have huni := hs.rows b blk hb
        have hsrc : srcRows (olk c.O) sz (.osl b sz n) = some (n, blk.rows.take n, blk.kd) := by
          simp only [srcRows, hb]
          rw [show Nat.beq sz sz = true from Nat.beq_refl sz, show Nat.beq blk.sz sz = true from by rw [← hsz]; exact Nat.beq_refl sz]
        obtain ⟨hl, hu, A, cp, news, e0, hnl, hcell, hone, hvn⟩ := src_sound hs hsrc hv
        have hcs : news.length = (blk.rows.take n).flatten.length := by rw [hnl, flat_len hu, ← hl]
        rcases VR.osl_inv hv with ⟨hK, hz, e1⟩ | ⟨g, cap, cur, e', mm, hK, hnm, e1, hc, hnc, hm, hcur⟩
        · subst hz e1
          exact .rsl (cs := []) (by simp) (by simp) (Nat.le_refl _) (fun _ => rfl) (by simp) (by simp) (by simp) (by simp)
        · rw [e1] at e0
          injection e0 with e2 e3 e4
          subst e1
          refine .rsl hl hu hnc (fun h => by cases h) hcs hone (fun hne => ?_) (fun j u x hu hx => KdX_pf hkd (hvn j u x hu hx))
          have hpos : 0 < n := by
            rcases Nat.eq_zero_or_pos n with h | h
            · subst h; simp at hne
            · exact h
          obtain ⟨g', o', e5, hc'⟩ := hcell hpos
          rw [← e2] at e5
          injection e5 with e5; injection e5 with e5 e6; subst e5 e6
          exact ⟨g, 0, rfl, (Array.getElem?_eq_some_iff.1 hc).1, fun h => h, hc'⟩
      split at h
      · rename_i h1 h2; injection h with h; subst h; exact fin h1 (by rw [h2]; simp)
      · rename_i h1 h2; injection h with h; subst h; exact fin h1 (by rw [h2]; simp)
      · cases h
    · cases h
  · rename_i b
    split at h
    · rename_i blk hb
      split at h
      · rename_i ag st hkd
        injection h with h; subst h
        obtain ⟨g, hK, rfl⟩ := VR.omap_inv hv
        rcases hs.own b blk hb with ⟨k1, _⟩ | ⟨g', k1, cur, hc, hu⟩
        · rw [show blkOf K b = none from by simp [blkOf, k1]] at hK; cases hK
        · rw [blkOf_of k1] at hK; injection hK with hK; subst hK
          have hlt := hc.lt
          unfold HoldsObj at hc
          rw [hkd] at hc
          obtain ⟨_, _, es, hm⟩ := hc
          obtain ⟨cs, q1, q2, q3, q4, q5⟩ := hm.back
          refine .rmap q1 hlt (fun h => h) q2 q3 q4 fun j u x hj hx => ?_
          obtain ⟨y, hy, _, hvy⟩ := q5 j u hj
          rw [hx] at hy; injection hy with hy; subst hy
          exact VR.sub hvy fun _ _ h => h.elim
      · cases h
    · cases h
  · cases h
  · cases h
  · cases h
  · cases h
  · split at h
    · rename_i hi; injection h with h; subst h; exact idl hv hi
    · cases h

theorem viewCells_sound (hs : SRK E K c a w) : ∀ {us us' : List AV} {f : Nat → Option Value}, viewCells (olk c.O) us = some us' → us'.length = us.length ∧ ∀ (j : Nat) u' v, us'[j]? = some u' → (∀ u, us[j]? = some u → VR w (XX E K c.O) K u v) → VR w (fun _ => False) K0 u' v
  | [], us', f, h => by simp [viewCells] at h; subst h; simp
  | x :: xs, us', f, h => by
    simp only [viewCells] at h
    split at h
    · rename_i y ys hy hys
      injection h with h
      subst h
      obtain ⟨h1, h2⟩ := viewCells_sound hs (f := f) hys
      refine ⟨by simp [h1], fun j u' v hj hv => ?_⟩
      cases j with
      | zero => simp at hj; subst hj; exact viewCell_sound hs hy (hv x (by simp))
      | succ j => simp at hj; exact h2 j u' v hj (fun u hu => hv u (by simpa using hu))
    · cases h

theorem viewRows_len {own : Nat → Option OBlk} : ∀ {us us' : List (List AV)}, viewRows own us = some us' → us'.length = us.length ∧ ∀ (j : Nat) r', us'[j]? = some r' → ∃ r, us[j]? = some r ∧ viewCells own r = some r'
  | [], us', h => by simp [viewRows] at h; subst h; simp
  | x :: xs, us', h => by
    simp only [viewRows] at h
    split at h
    · rename_i y ys hy hys
      injection h with h
      subst h
      obtain ⟨h1, h2⟩ := viewRows_len hys
      refine ⟨by simp [h1], fun j r' hj => ?_⟩
      cases j with
      | zero => simp at hj; subst hj; exact ⟨x, by simp, hy⟩
      | succ j => simp at hj; obtain ⟨r, h3, h4⟩ := h2 j r' hj; exact ⟨r, by simpa using h3, h4⟩
    · cases h
theorem viewCells_len {own : Nat → Option OBlk} : ∀ {us us' : List AV}, viewCells own us = some us' → us'.length = us.length ∧ ∀ (j : Nat) u', us'[j]? = some u' → ∃ u, us[j]? = some u ∧ viewCell own u = some u'
  | [], us', h => by simp [viewCells] at h; subst h; simp
  | x :: xs, us', h => by
    simp only [viewCells] at h
    split at h
    · rename_i y ys hy hys
      injection h with h
      subst h
      obtain ⟨h1, h2⟩ := viewCells_len hys
      refine ⟨by simp [h1], fun j r' hj => ?_⟩
      cases j with
      | zero => simp at hj; subst hj; exact ⟨x, by simp, hy⟩
      | succ j => simp at hj; obtain ⟨r, h3, h4⟩ := h2 j r' hj; exact ⟨r, by simpa using h3, h4⟩
    · cases h
theorem viewRows_flat {own : Nat → Option OBlk} : ∀ {us us' : List (List AV)}, viewRows own us = some us' → us'.flatten.length = us.flatten.length ∧ ∀ (j : Nat) u', us'.flatten[j]? = some u' → ∃ u, us.flatten[j]? = some u ∧ viewCell own u = some u'
  | [], us', h => by simp [viewRows] at h; subst h; simp
  | x :: xs, us', h => by
    simp only [viewRows] at h
    split at h
    · rename_i y ys hy hys
      injection h with h
      subst h
      obtain ⟨h1, h2⟩ := viewRows_flat hys
      obtain ⟨c1, c2⟩ := viewCells_len hy
      refine ⟨by simp [h1, c1], fun j u' hj => ?_⟩
      rw [List.flatten_cons] at hj ⊢
      by_cases hlt : j < y.length
      · rw [List.getElem?_append_left hlt] at hj
        obtain ⟨u, h3, h4⟩ := c2 j u' hj
        exact ⟨u, by rw [List.getElem?_append_left (by rw [← c1]; exact hlt)]; exact h3, h4⟩
      · rw [List.getElem?_append_right (by omega)] at hj
        obtain ⟨u, h3, h4⟩ := h2 _ u' hj
        exact ⟨u, by rw [List.getElem?_append_right (by omega), ← c1]; exact h3, h4⟩
    · cases h
theorem view1_sound (hs : SRK E K c a w) {u u' : AV} {v : Value} (h : view1 (olk c.O) u = some u') (hv : VR w (XX E K c.O) K u v) : VR w (fun _ => False) K0 u' v := by
  unfold view1 at h
  split at h
  · rename_i b sz n
    split at h
    · rename_i blk hb
      split at h
      · rename_i hkd
        split at h
        · rename_i rs hsz hrs
          injection h with h
          subst h
          have hsz := beq_true hsz
          have huni := hs.rows b blk hb
          have hsrc : srcRows (olk c.O) sz (.osl b sz n) = some (n, blk.rows.take n, blk.kd) := by
            simp only [srcRows, hb]
            rw [show Nat.beq sz sz = true from Nat.beq_refl sz, show Nat.beq blk.sz sz = true from by rw [← hsz]; exact Nat.beq_refl sz]
          obtain ⟨hl, hu, A, cp, news, e0, hnl, hcell, hone, hvn⟩ := src_sound hs hsrc hv
          obtain ⟨f1, f2⟩ := viewRows_flat hrs
          obtain ⟨g1, g2⟩ := viewRows_len hrs
          have hcs : news.length = rs.flatten.length := by rw [f1, hnl, flat_len hu, ← hl]
          have hu' : ∀ r ∈ rs, r.length = sz := by
            intro r hr
            obtain ⟨j, hj, hje⟩ := List.getElem_of_mem hr
            obtain ⟨r0, h5, h6⟩ := g2 j r (by rw [List.getElem?_eq_getElem hj, hje])
            rw [(viewCells_len h6).1]
            exact hu r0 (List.mem_of_getElem? h5)
          rcases VR.osl_inv hv with ⟨hK, hz, e1⟩ | ⟨g, cap, cur, e', mm, hK, hnm, e1, hc, hnc, hm, hcur⟩
          · subst hz e1
            have hrs0 : rs = [] := by simpa using g1
            subst hrs0
            exact .rsl (cs := []) (by simp) (by simp) (Nat.le_refl _) (fun _ => rfl) (by simp) (by simp) (by simp) (by simp)
          · rw [e1] at e0
            injection e0 with e2 e3 e4
            subst e1
            refine .rsl (by rw [g1]; exact hl) hu' hnc (fun h => by cases h) hcs hone (fun hne => ?_) (fun j u x hu0 hx => ?_)
            · have hpos : 0 < n := by
                rcases Nat.eq_zero_or_pos n with h | h
                · have hrs0 : rs = [] := by subst h; simpa using g1
                  rw [hrs0] at hne; simp at hne
                · exact h
              obtain ⟨g', o', e5, hc'⟩ := hcell hpos
              rw [← e2] at e5
              injection e5 with e5; injection e5 with e5 e6; subst e5 e6
              exact ⟨g, 0, rfl, (Array.getElem?_eq_some_iff.1 hc).1, fun h => h, hc'⟩
            · obtain ⟨u0, h7, h8⟩ := f2 j u hu0
              refine viewCell_sound hs h8 ?_
              have := hvn j u0 x h7 hx
              rw [hkd] at this
              exact this
        · cases h
      · exact viewCell_sound hs h hv
    · cases h
  · rename_i b off
    split at h
    · rename_i blk hb
      split at h
      · rename_i row hkd hrow
        split at h
        · rename_i r' hr'
          injection h with h
          subst h
          obtain ⟨g, hK, rfl⟩ := VR.ovar_inv hv
          rcases hs.own b blk hb with ⟨k1, k2⟩ | ⟨g', k1, hblk⟩
          · rw [show blkOf K b = none from by simp [blkOf, k1]] at hK; cases hK
          · have hlt := hs.live_lt (by simp [hb]) hK
            rw [blkOf_of k1] at hK; injection hK with hK; subst hK
            have hrr := hblk.row (by rw [hkd]; simp) (hs.rows b blk hb) (i := 0) (row := row) (by rw [hrow]; rfl)
            simp only [Nat.zero_mul] at hrr
            obtain ⟨cs, c1, c2, c3, c4⟩ := hrr.list
            obtain ⟨v1, v2⟩ := viewCells_sound hs (f := fun _ => none) hr'
            have := VR.rptr (w := w) (X := fun _ => False) (K := K0) (xs := r') (off := off) (g := g') (o := 0) (cs := cs) (by rw [c1, v1]) c3 hlt (fun h => h) c2
              (fun j u x hu hx => v2 j u x hu fun u0 hu0 => c4 j u0 x hu0 hx)
            simpa using this
        · cases h
      · cases h
    · cases h
  · rename_i xs
    split at h
    · rename_i ys hys
      injection h with h
      subst h
      obtain ⟨vs, rfl, l1, h1, v1⟩ := VR.agg_inv hv
      obtain ⟨w1, w2⟩ := viewCells_sound hs (f := fun _ => none) hys
      exact .agg (by rw [w1, l1]) h1 fun j u x hu hx => w2 j u x hu fun u0 hu0 => v1 j u0 x hu0 hx
    · cases h
  · exact viewCell_sound hs h hv

theorem views1_sound (hs : SRK E K c a w) : ∀ {us us' : List AV}, views1 (olk c.O) us = some us' → us'.length = us.length ∧ ∀ (j : Nat) u' v, us'[j]? = some u' → (∀ u, us[j]? = some u → VR w (XX E K c.O) K u v) → VR w (fun _ => False) K0 u' v
  | [], us', h => by simp [views1] at h; subst h; simp
  | x :: xs, us', h => by
    simp only [views1] at h
    split at h
    · rename_i y ys hy hys
      injection h with h
      subst h
      obtain ⟨h1, h2⟩ := views1_sound hs hys
      refine ⟨by simp [h1], fun j u' v hj hv => ?_⟩
      cases j with
      | zero => simp at hj; subst hj; exact view1_sound hs hy (hv x (by simp))
      | succ j => simp at hj; exact h2 j u' v hj (fun u hu => hv u (by simpa using hu))
    · cases h
theorem view_sound (hs : SRK E K c a w) {u u' : AV} {v : Value} (h : view (olk c.O) u = some u') (hv : VR w (XX E K c.O) K u v) : VR w (fun _ => False) K0 u' v := by
  unfold view at h
  split at h
  · split at h
    · rename_i cs hcs
      injection h with h
      subst h
      obtain ⟨vs, rfl, l1, v1⟩ := VR.func_inv hv
      obtain ⟨w1, w2⟩ := views1_sound hs hcs
      exact .func (by rw [w1, l1]) fun j u x hu hx => w2 j u x hu fun u0 hu0 => v1 j u0 x hu0 hx
    · cases h
  · exact view1_sound hs h hv
theorem views_sound (hs : SRK E K c a w) : ∀ {us us' : List AV}, views (olk c.O) us = some us' → us'.length = us.length ∧ ∀ (j : Nat) u' v, us'[j]? = some u' → (∀ u, us[j]? = some u → VR w (XX E K c.O) K u v) → VR w (fun _ => False) K0 u' v
  | [], us', h => by simp [views] at h; subst h; simp
  | x :: xs, us', h => by
    simp only [views] at h
    split at h
    · rename_i y ys hy hys
      injection h with h
      subst h
      obtain ⟨h1, h2⟩ := views_sound hs hys
      refine ⟨by simp [h1], fun j u' v hj hv => ?_⟩
      cases j with
      | zero => simp at hj; subst hj; exact view_sound hs hy (hv x (by simp))
      | succ j => simp at hj; exact h2 j u' v hj (fun u hu => hv u (by simpa using hu))
    · cases h

/-! what has no id is seen as it is -/
theorem viewCell_idless {own : Nat → Option OBlk} {u u' : AV} (h : viewCell own u = some u') (hi : u.idless = true) : u' = u := by
  unfold viewCell at h
  split at h
  · simp [AV.idless] at hi
  · simp [AV.idless] at hi
  · cases h
  · cases h
  · cases h
  · cases h
  · rw [hi] at h; injection h with h; exact h.symm
theorem viewCells_idless {own : Nat → Option OBlk} : ∀ {us us' : List AV}, viewCells own us = some us' → AV.idlessL us = true → us' = us
  | [], us', h, _ => by simp [viewCells] at h; exact h
  | x :: xs, us', h, hi => by
    simp only [viewCells] at h
    simp only [AV.idlessL, Bool.and_eq_true] at hi
    split at h
    · rename_i y ys hy hys
      injection h with h
      subst h
      rw [viewCell_idless hy hi.1, viewCells_idless hys hi.2]
    · cases h
theorem view1_idless {own : Nat → Option OBlk} {u u' : AV} (h : view1 own u = some u') (hi : u.idless = true) : u' = u := by
  unfold view1 at h
  split at h
  · simp [AV.idless] at hi
  · simp [AV.idless] at hi
  · split at h
    · rename_i ys hys
      injection h with h
      subst h
      rw [viewCells_idless hys (by simpa [AV.idless] using hi)]
    · cases h
  · exact viewCell_idless h hi
theorem views1_idless {own : Nat → Option OBlk} : ∀ {us us' : List AV}, views1 own us = some us' → AV.idlessL us = true → us' = us
  | [], us', h, _ => by simp [views1] at h; exact h
  | x :: xs, us', h, hi => by
    simp only [views1] at h
    simp only [AV.idlessL, Bool.and_eq_true] at hi
    split at h
    · rename_i y ys hy hys
      injection h with h
      subst h
      rw [view1_idless hy hi.1, views1_idless hys hi.2]
    · cases h
theorem view_idless {own : Nat → Option OBlk} {u u' : AV} (h : view own u = some u') (hi : u.idless = true) : u' = u := by
  unfold view at h
  split at h
  · split at h
    · rename_i cs hcs
      injection h with h
      subst h
      rw [views1_idless hcs (by simpa [AV.idless] using hi)]
    · cases h
  · exact view1_idless h hi
theorem views_idless {own : Nat → Option OBlk} : ∀ {us us' : List AV}, views own us = some us' → AV.idlessL us = true → us' = us
  | [], us', h, _ => by simp [views] at h; exact h
  | x :: xs, us', h, hi => by
    simp only [views] at h
    simp only [AV.idlessL, Bool.and_eq_true] at hi
    split at h
    · rename_i y ys hy hys
      injection h with h
      subst h
      rw [view_idless hy hi.1, views_idless hys hi.2]
    · cases h
end
end Go.Abs
