import Derived.Laws.CopyRow
import Derived.Test.YteihenhffdckiaaGreatDoorAbs15
namespace Go.Abs
open Go.RowKit
set_option linter.unusedVariables false

section
variable {P : Program} {T : Tab} {E : Env} {K : KM} {c : Cfg} {a : Act} {w : World} {o : Oper} {r : Res} {val : Operand → AV} {X : Nat → Prop}

theorem Step.of_below {w w' : World} (h : Below w.heap.size w w') : Step (fun _ => False) w w' :=
  ⟨⟨h.size, fun g hg _ => h.block g hg, fun g cur e hc => ⟨cur, by rw [h.block g (Array.getElem?_eq_some_iff.1 hc).1]; exact hc, rfl⟩⟩, h.os, h.tape, h.output⟩

theorem xfree1_vr {x : AV} {v : Value} (hx : x.xfree1 = true) (hn : ∀ p e sz n rows, x ≠ .fsl p e sz n rows) (h : VR w X K x v) : ∀ X' K', VR w X' K' x v := by
  intro X' K'
  cases x with
  | agg xs =>
    simp only [AV.xfree1] at hx
    obtain ⟨vs, rfl, l1, h1, v1⟩ := VR.agg_inv h
    exact .agg l1 h1 fun j u y hu hy => by
      rcases xfreeT_get hx hu with rfl | hsc
      · exact .top
      · exact scalar_sound hsc (v1 j u y hu hy) _ _
  | fsl p e sz n rows => exact absurd rfl (hn p e sz n rows)
  | _ => simp only [AV.xfree1] at hx; exact scalar_sound hx h _ _

/-- A result is taken over: a fresh slice becomes a block of one's own. 'X': what the call was told to keep off; w1: the world behind it. -/
theorem adopt1_sound (hs : SRK E K c a w) {id : Nat} {x : AV} {v : Value} {w1 : World} (hst : Step (fun _ => False) w w1) (hrr : RR1 w1 w.heap.size X x v)
    (hX : (∀ g, XX E K c.O g → X g) ∨ x.xfree1 = true) (hf : (adopt1 id x).2 = [] ∨ fresh id c = true) :
    ∃ K', SRK E K' ⟨c.fr, setD (adopt1 id x).2 c.O⟩ a w1 ∧ VR w1 (XX E K' (setD (adopt1 id x).2 c.O)) K' (adopt1 id x).1 v ∧ ((adopt1 id x).2 = [] → K' = K) := by
  have plain : (∀ p e sz n rows, x ≠ .fsl p e sz n rows) → (adopt1 id x) = (x, []) → VR w1 X K0 x v → ∃ K', SRK E K' ⟨c.fr, setD (adopt1 id x).2 c.O⟩ a w1 ∧ VR w1 (XX E K' (setD (adopt1 id x).2 c.O)) K' (adopt1 id x).1 v ∧ ((adopt1 id x).2 = [] → K' = K) := by
    intro hn e hv
    rw [e]
    refine ⟨K, hs.move hst, ?_, fun _ => rfl⟩
    rcases hX with hX | hX
    · exact (hv.sub fun g _ h => hX g h).any K
    · exact xfree1_vr hX hn hv _ _
  cases x with
  | fsl p e sz n rows =>
    simp only [adopt1, setD] at hf ⊢
    have hf : fresh id c = true := hf.resolve_left (by simp)
    obtain ⟨f1, f2, f3⟩ := fresh_of hf
    obtain ⟨hn, huni, hcase⟩ := hrr
    rcases hcase with ⟨hn0, rfl⟩ | ⟨g, cap, cur, rfl, hnc, hBg, hc, hcm, hcur, hu⟩
    · subst hn0
      have hr0 : rows = [] := List.eq_nil_of_length_eq_zero hn.symm
      exact ⟨_, (hs.move hst).rebindNil (fresh_pin hf) (blk := { e := e, sz := sz, kd := kdP p, rows := rows }) f2 (fun i x hi _ hk => f3 i x hi hk) hr0, .oslnil (upd_same _ _ _), fun h => by cases h⟩
    · refine ⟨_, bind_new (blk := { e := e, sz := sz, kd := kdP p, rows := rows }) hs hf hst hBg huni (HoldsObj.mk (by intro ag st; cases p <;> simp [kdP]) hc) fun j u hj => ?_, (.osl (upd_same _ _ _) (Nat.le_of_eq hn) hc hnc hcm hcur), fun h => by cases h⟩
      obtain ⟨y, hy, h1, hv⟩ := hu j u hj
      refine ⟨(by intro hk; cases p <;> cases hk), y, hy, h1, ?_⟩
      cases p
      · refine hv.sub fun h _ hX' => .inr ?_
        rcases hX' with hX' | hX'
        · rcases hX with hX | hX
          · exact .inl (hX h hX')
          · simp [AV.xfree1] at hX
        · exact .inr hX'
      · exact hv.sub fun h _ _ => .inl rfl
  | _ => exact plain (by intros; simp) rfl hrr

theorem adopt_sound_own (hs : SRK E K c a w) {d : Option Nat} {x : AV} {v : Value} {w1 : World} (hst : Step (fun _ => False) w w1) (hrr : RR w1 w.heap.size X x v)
    (hX : (∀ g, XX E K c.O g → X g) ∨ x.xfree = true) (hok : okTup x = true) (hf : freshD c (adopt false d x).nw (adopt false d x).D = true) :
    ∃ K', SRK E K' (c.eff (adopt false d x)) a w1 ∧ VR w1 (XX E K' (c.eff (adopt false d x)).O) K' (adopt false d x).v v := by
  have one : ∀ y, adopt false d x = { v := (adopt1 (idOf d 0) y).1, D := (adopt1 (idOf d 0) y).2, nw := true } → RR1 w1 w.heap.size X y v → ((∀ g, XX E K c.O g → X g) ∨ y.xfree1 = true) → ∃ K', SRK E K' (c.eff (adopt false d x)) a w1 ∧ VR w1 (XX E K' (c.eff (adopt false d x)).O) K' (adopt false d x).v v := by
    intro y e hrr hX
    rw [e] at hf ⊢
    suffices h : _ ∨ _ by
      obtain ⟨K', h1, h2, _⟩ := adopt1_sound hs hst hrr hX h
      exact ⟨K', h1, h2⟩
    cases hD : (adopt1 (idOf d 0) y).2 with
    | nil => exact .inl rfl
    | cons p ps =>
      right
      cases y <;> simp only [adopt1] at hD <;> first | (cases hD; done) | skip
      simp only [adopt1] at hf
      exact freshD_one hf
  cases x with
  | tup xs =>
    cases xs with
    | nil =>
      obtain ⟨vs, rfl, l1, v1⟩ := VR.tup_inv (show VR w1 X K0 (.tup []) v from hrr)
      exact ⟨K, hs.move hst, .tup l1 (by simp)⟩
    | cons x xs =>
      obtain ⟨vs, rfl, hvl, ⟨c0, hc0, hr0⟩, hrest⟩ := hrr
      have hX1 : (∀ g, XX E K c.O g → X g) ∨ x.xfree1 = true := by
        rcases hX with hX | hX
        · exact .inl hX
        · simp only [AV.xfree, Bool.and_eq_true] at hX; exact .inr hX.1
      have hfr : (adopt1 (idOf d 0) x).2 = [] ∨ fresh (idOf d 0) c = true := by
        cases hD : (adopt1 (idOf d 0) x).2 with
        | nil => exact .inl rfl
        | cons p ps =>
          right
          cases x <;> simp only [adopt1] at hD <;> first | (cases hD; done) | skip
          simp only [adopt, adopt1] at hf
          exact freshD_one hf
      obtain ⟨K', hs', hv', hKK⟩ := adopt1_sound hs hst hr0 hX1 hfr
      refine ⟨K', hs', .tup (by simp [hvl]) fun j u y hu hy => ?_⟩
      cases j with
      | zero =>
        simp only [List.getElem?_cons_zero, Option.some.injEq] at hu
        rw [hc0] at hy
        injection hy with hy
        subst hy hu
        exact hv'
      | succ j =>
        simp only [List.getElem?_cons_succ] at hu
        have hv := hrest j u y hu hy
        -- a fresh slice at the head: plain values behind it
        by_cases hfsl : ∃ p e sz n rows, x = .fsl p e sz n rows
        · obtain ⟨p, e, sz, n, rows, rfl⟩ := hfsl
          simp only [okTup] at hok
          exact scalar_sound (xfreeL_get hok hu) hv _ _
        · have hD : (adopt1 (idOf d 0) x) = (x, []) := by
            cases x <;> first | rfl | exact absurd ⟨_, _, _, _, _, rfl⟩ hfsl
          have hO : (c.eff (adopt false d (.tup (x :: xs)))).O = c.O := by simp [Cfg.eff, adopt, hD, setD]
          rw [hO]
          rcases hX with hX | hX
          · rw [hKK (by rw [hD])]
            exact (hv.sub fun g _ h => hX g h).any K
          · simp only [AV.xfree, Bool.and_eq_true] at hX
            exact scalar_sound (xfreeL_get hX.2 hu) hv _ _
  | _ => exact one _ rfl hrr hX

theorem seen1_sound (hs : SRK E K c a w) {x : AV} {v : Value} {w1 : World} (hst : Step (fun _ => False) w w1) (hrr : RR1 w1 w.heap.size X x v)
    (hX : (∀ g, XX E K c.O g → X g) ∨ x.xfree1 = true) : VR w1 (XX E K c.O) K (seen1 x) v := by
  have hlive : ∀ g, XX E K c.O g → g < w.heap.size := by
    rintro g (⟨b, hb, hk⟩ | ⟨_, hg⟩)
    · exact hs.live_lt hb hk
    · exact Nat.lt_of_lt_of_le hg hs.ext.size
  have plain : (∀ p e sz n rows, x ≠ .fsl p e sz n rows) → seen1 x = x → VR w1 X K0 x v → VR w1 (XX E K c.O) K (seen1 x) v := by
    intro hn e hv
    rw [e]
    rcases hX with hX | hX
    · exact (hv.sub fun g _ h => hX g h).any K
    · exact xfree1_vr hX hn hv _ _
  cases x with
  | fsl p e sz n rows =>
    obtain ⟨hn, huni, hcase⟩ := hrr
    simp only [seen1]
    rcases hcase with ⟨hn0, rfl⟩ | ⟨g, cap, cur, rfl, hnc, hBg, hc, hcm, hcur, hu⟩
    · subst hn0
      have hr0 : rows = [] := List.eq_nil_of_length_eq_zero hn.symm
      subst hr0
      exact .rsl (cs := []) (by simp) (by simp) (Nat.le_refl _) (fun _ => rfl) (by simp) (by simp) (by simp) (by simp)
    · have hfl := flat_len huni
      have hsz : rows.flatten.length ≤ cur.size := by rw [hfl, ← hn, ← hcur]; exact Nat.mul_le_mul_right _ hnc
      have hget : ∀ (j : Nat) y, (cur.toList.take rows.flatten.length)[j]? = some y → j < rows.flatten.length ∧ cur[j]? = some y := by
        intro j y hy
        rw [List.getElem?_take] at hy
        split at hy
        · rename_i h; exact ⟨h, by simpa using hy⟩
        · cases hy
      refine .rsl (cs := cur.toList.take rows.flatten.length) hn huni hnc (fun h => by cases h) (by rw [List.length_take, Array.length_toList]; exact Nat.min_eq_left hsz) (fun y hy => ?_) (fun _ => ⟨g, 0, rfl, (Array.getElem?_eq_some_iff.1 hc).1, fun h => by have := hlive g h; omega, fun j y hy => ?_⟩) (fun j u y hu' hy => ?_)
      · obtain ⟨j, hj⟩ := List.getElem?_of_mem hy
        obtain ⟨hlt, hcj⟩ := hget j y hj
        obtain ⟨z, hz, h1, _⟩ := hu j _ (List.getElem?_eq_getElem hlt)
        rw [hcj] at hz; injection hz with hz; subst hz; exact h1
      · simp only [World.cell?, hc, Nat.zero_add]
        simpa using (hget j y hy).2
      · obtain ⟨z, hz, _, hv⟩ := hu j u hu'
        rw [(hget j y hy).2] at hz; injection hz with hz; subst hz
        refine hv.sub fun h _ hx => ?_
        rcases hX with hX | hX
        · exact .inr (.inl (hX h hx))
        · simp only [AV.xfree1] at hX; exact .inl hX
  | _ => exact plain (by intros; simp) rfl hrr

theorem adopt_sound (hs : SRK E K c a w) {dr : Bool} {d : Option Nat} {x : AV} {v : Value} {w1 : World} (hst : Step (fun _ => False) w w1) (hrr : RR w1 w.heap.size X x v)
    (hX : (∀ g, XX E K c.O g → X g) ∨ x.xfree = true) (hok : okTup x = true) (hf : freshD c (adopt dr d x).nw (adopt dr d x).D = true) :
    ∃ K', SRK E K' (c.eff (adopt dr d x)) a w1 ∧ VR w1 (XX E K' (c.eff (adopt dr d x)).O) K' (adopt dr d x).v v := by
  cases dr
  · exact adopt_sound_own hs hst hrr hX hok hf
  · have one : ∀ y, adopt true d x = { v := seen1 y } → RR1 w1 w.heap.size X y v → ((∀ g, XX E K c.O g → X g) ∨ y.xfree1 = true) → ∃ K', SRK E K' (c.eff (adopt true d x)) a w1 ∧ VR w1 (XX E K' (c.eff (adopt true d x)).O) K' (adopt true d x).v v := by
      intro y e hrr hX
      rw [e]
      exact ⟨K, hs.move hst, seen1_sound hs hst hrr hX⟩
    cases x with
    | tup xs =>
      cases xs with
      | nil =>
        obtain ⟨vs, rfl, l1, v1⟩ := VR.tup_inv (show VR w1 X K0 (.tup []) v from hrr)
        exact ⟨K, hs.move hst, .tup l1 (by simp)⟩
      | cons x xs =>
        obtain ⟨vs, rfl, hvl, ⟨c0, hc0, hr0⟩, hrest⟩ := hrr
        have hX1 : (∀ g, XX E K c.O g → X g) ∨ x.xfree1 = true := by
          rcases hX with hX | hX
          · exact .inl hX
          · simp only [AV.xfree, Bool.and_eq_true] at hX; exact .inr hX.1
        refine ⟨K, hs.move hst, .tup (by simp [hvl]) fun j u y hu hy => ?_⟩
        cases j with
        | zero =>
          simp only [List.getElem?_cons_zero, Option.some.injEq] at hu
          rw [hc0] at hy
          injection hy with hy
          subst hy hu
          exact seen1_sound hs hst hr0 hX1
        | succ j =>
          simp only [List.getElem?_cons_succ] at hu
          have hv := hrest j u y hu hy
          rcases hX with hX | hX
          · exact (hv.sub fun g _ h => hX g h).any K
          · simp only [AV.xfree, Bool.and_eq_true] at hX
            exact scalar_sound (xfreeL_get hX.2 hu) hv _ _
    | _ => exact one _ rfl hrr hX

theorem s_call {dr : Bool} (hs : SRK E K c a w) (hval : Vals E K c a w val) {f : Operand} {args : Array Operand} {ts : Array TypeId} (ho : o.op = .call { callee := .value f, args := args, argTypes := ts }) (hf : freshD c r.nw r.D = true)
    (h : Ans.holds P (match view (olk c.O) (val f), views (olk c.O) (args.toList.map val) with
    | some (.func g caps), some as => .call g (as ++ caps) fun r => match (val f).idless && AV.idlessL (args.toList.map val) || r.xfree, okTup r with
      | true, true => match drs dr, isF r with
        | true, true => .exB fun p => .ret (adopt p o.dst r)
        | dr, _ => .ret (adopt dr o.dst r)
      | _, _ => .no
    | _, _ => .no) (· = r)) : o.wp P a w (OpPost E c r a o.dst) NoQ := by
  split at h
  · rename_i g caps as hvf hvs
    obtain ⟨x, ⟨⟨fn, hfn, hname, hbody⟩, hfun⟩, h⟩ := h
    simp only at h
    split at h
    · rename_i hxf hok
      obtain ⟨dr', hr⟩ : ∃ dr', adopt dr' o.dst x = r := by
        split at h
        · obtain ⟨p, h⟩ := h; exact ⟨p, h⟩
        · exact ⟨_, h⟩
      -- the callee's value
      have hnf : ∀ d want u, val f ≠ .opt d want u := by rintro d want u e; rw [e] at hvf; simp [view, view1, viewCell] at hvf
      have hfv := view_sound hs hvf ((hval f).vr hnf)
      obtain ⟨cv, ef, cl, cvv⟩ := VR.func_inv hfv
      obtain ⟨ml, mv⟩ := map_vals hval args
      obtain ⟨al, av⟩ := views_sound hs hvs
      have hnoa : ∀ (j : Nat) u, (args.toList.map val)[j]? = some u → ∀ d want u', u ≠ .opt d want u' := by
        have aux : ∀ {us us' : List AV}, views (olk c.O) us = some us' → ∀ (j : Nat) u, us[j]? = some u → ∀ d want u', u ≠ .opt d want u' := by
          intro us
          induction us with
          | nil => intro us' _ j u hu; simp at hu
          | cons y ys ih =>
            intro us' h j u hu d want u' e
            simp only [views] at h
            split at h
            · rename_i z zs hz hzs
              cases j with
              | zero => simp at hu; subst hu; rw [e] at hz; simp [view, view1, viewCell] at hz
              | succ j => exact ih hzs j u (by simpa using hu) d want u' e
            · cases h
        exact aux hvs
      have hsize : (as ++ caps).length = (args.map a.eval ++ cv).size := by
        simp only [List.length_append, Array.size_append, Array.size_map, al, List.length_map, Array.length_toList, cl]
      have hargs0 : ∀ (j : Nat) u v, (as ++ caps)[j]? = some u → (args.map a.eval ++ cv)[j]? = some v → VR w (fun _ => False) K0 u v := by
        intro j u v hu hv
        have hasl : as.length = (args.map a.eval).size := by simp [al]
        rcases Nat.lt_or_ge j as.length with hlt | hge
        · rw [List.getElem?_append_left hlt] at hu
          rw [Array.getElem?_append_left (by omega)] at hv
          refine av j u v hu fun u0 hu0 => FV.vr (mv j u0 v hu0 (by simpa using hv)) (hnoa j u0 hu0)
        · rw [List.getElem?_append_right hge] at hu
          rw [Array.getElem?_append_right (by omega)] at hv
          rw [hasl] at hu
          exact cvv _ u v hu hv
      obtain ⟨X, hXvals, hX⟩ : ∃ X : Nat → Prop, (∀ (j : Nat) u v, (as ++ caps)[j]? = some u → (args.map a.eval ++ cv)[j]? = some v → VR w X K0 u v) ∧ ((∀ g, XX E K c.O g → X g ∧ g < w.heap.size) ∨ x.xfree = true) := by
        rw [Bool.or_eq_true, Bool.and_eq_true] at hxf
        rcases hxf with ⟨hi1, hi2⟩ | hxf
        · refine ⟨XX E K c.O, fun j u v hu hv => ?_, .inl fun g hg => ⟨hg, ?_⟩⟩
          · have e1 := view_idless hvf hi1
            have e2 := views_idless hvs hi2
            have hfv' := (hval f).vr hnf
            rw [← e1] at hfv'
            obtain ⟨cv', ef', cl', cvv'⟩ := VR.func_inv hfv'
            rw [ef] at ef'
            injection ef' with _ _ ec
            subst ec
            have hasl : as.length = (args.map a.eval).size := by simp [al]
            rcases Nat.lt_or_ge j as.length with hlt | hge
            · rw [List.getElem?_append_left hlt] at hu
              rw [Array.getElem?_append_left (by omega)] at hv
              rw [e2] at hu
              exact idless_sound (FV.vr (mv j u v hu (by simpa using hv)) (hnoa j u hu)) (idlessL_get hi2 hu) K0
            · rw [List.getElem?_append_right hge] at hu
              rw [Array.getElem?_append_right (by omega)] at hv
              rw [hasl] at hu
              rw [← e1] at hi1
              exact idless_sound (cvv' _ u v hu hv) (idlessL_get (by simpa [AV.idless] using hi1) hu) K0
          · rcases hg with ⟨b, hb, hk⟩ | ⟨_, hg⟩
            · exact hs.live_lt hb hk
            · exact Nat.lt_of_lt_of_le hg hs.ext.size
        · exact ⟨fun _ => False, hargs0, .inr hxf⟩
      unfold Oper.wp
      have hrun : (execOp a.eval o).run P w = .ok (.enter g (args.map a.eval ++ cv)) w := by
        simp only [execOp, ho, resolve, ef, Deferred.ofValue, Sem.run_bind, Sem.run_pure, Result.andThen_ok, invoke, callFunc, run_program]
        simp [hfn, hname, hbody]
      rw [hrun, Oper.upon_enter]
      refine (hfun X w _ (E.hwi _ hs.ext) hsize hXvals).mono ?_
      rintro e w1 ⟨v, rfl, hrr, hb⟩
      have hst := Step.of_below hb
      rw [← hr] at hf
      obtain ⟨K', hs', hv'⟩ := adopt_sound hs hst hrr hX hok hf
      rw [hr] at hs' hv'
      exact ⟨K', v, rfl, hs', hv'⟩
    · exact h.elim
  · exact h.elim

theorem s_clear (hT : TabOK P T) (hone : ∀ t i, T.get t = some i → oneCells i.zero = true ∧ i.zero.cells.size = i.size) (hs : SRK E K c a w) (hval : Vals E K c a w val)
    {t : TypeId} {x : Operand} (ho : o.op = .call { callee := .builtin .clear, args := #[x], argTypes := #[t] })
    (h : (clearA T (olk c.O) t (val x)).holds P (· = r)) : o.wp P a w (OpPost E c r a o.dst) NoQ := by
  unfold clearA at h
  split at h
  · rename_i ti hti
    split at h
    · rename_i e hk
      obtain ⟨⟨d, hd, hdk⟩, _⟩ := hT.get hti
      rw [hk] at hdk
      have := of_slice hdk
      subst this
      split at h
      · rename_i ei hei
        obtain ⟨_, ⟨je, hje, hjz, hjs, hjb⟩, _⟩ := hT.get hei
        obtain ⟨ho1, hzs⟩ := hone e ei hei
        split at h
        · rename_i b sz lo n hx
          split at h
          · rename_i blk hb
            split at h
            · rename_i z hsz hesz hz
              have hsz := beq_true hsz
              have hesz := beq_true hesz
              split at h
              · rename_i hzl hpos hfit
                have hzl := beq_true hzl
                have hpos := Nat.le_of_ble_eq_true hpos
                obtain ⟨hle, h⟩ := h
                have hr : _ = r := h
                obtain ⟨A, cap, e1, hA⟩ := VR.osuf_inv (hval.at hx)
                have hrows := hs.rows b blk hb
                have hrun0 : ∀ w', ((match (some (TypeDesc.slice e)), (Value.slice A n cap) with
                    | _, _ => (Builtin.clear_ #[t] o.type #[.slice A n cap])).run P w = .ok (.tuple #[]) w') → (execOp a.eval o).run P w = .ok (.value (.tuple #[])) w' := by
                  intro w' hw
                  simp only [execOp, ho, resolve, invoke, builtin, List.map_toArray, List.map_cons, List.map_nil, e1, Sem.run_bind, Sem.run_pure, Result.andThen_ok]
                  simp only at hw
                  rw [hw]; rfl
                have hnew : ∀ row ∈ blk.rows.take lo ++ List.replicate n z ++ blk.rows.drop (lo + n), row.length = blk.sz := by
                  intro row hrow
                  rw [List.mem_append, List.mem_append] at hrow
                  rcases hrow with (hrow | hrow) | hrow
                  · exact hrows row (List.mem_of_mem_take hrow)
                  · rw [(List.mem_replicate.1 hrow).2, hzl, hsz]
                  · exact hrows row (List.mem_of_mem_drop hrow)
                have hlen : (blk.rows.take lo ++ List.replicate n z ++ blk.rows.drop (lo + n)).length = blk.rows.length := by
                  simp only [List.length_append, List.length_take, List.length_replicate, List.length_drop]; omega
                by_cases hn : n = 0
                · subst hn
                  have hsame : blk.rows.take lo ++ List.replicate 0 z ++ blk.rows.drop (lo + 0) = blk.rows := by simp
                  subst hr
                  have hrun : (execOp a.eval o).run P w = .ok (.value (.tuple #[])) w := by
                    refine hrun0 w ?_
                    cases A <;> simp [Builtin.clear_, run_underlying hd]
                  unfold Oper.wp
                  rw [hrun]
                  refine ⟨K, _, rfl, ?_, .top⟩
                  rw [hsame]
                  refine hs.weak (fun t => .inl rfl) fun i y hi => ?_
                  simp only [Cfg.eff, setD, olk_setO] at hi
                  by_cases e : b = i
                  · subst e; rw [if_pos rfl] at hi; injection hi with hi; subst hi; exact hb
                  · rw [if_neg e] at hi; exact hi
                · obtain ⟨g, m, hK, hm, rfl⟩ := hA (by omega)
                  rcases hs.own b blk hb with ⟨k1, _⟩ | ⟨g', k1, cur, hc, hu⟩
                  · rw [hK] at k1; cases k1
                  · have hkk := hK
                    rw [hK] at k1; injection k1 with k1; injection k1 with k1 k2; injection k1 with k1; subst k1 k2
                    have hkm : ∀ ag st, blk.kd ≠ .map ag st := by
                      intro ag st hk
                      rw [hk] at hfit
                      cases hzz : z with
                      | nil => rw [hzz] at hzl; simp at hzl; omega
                      | cons y ys => rw [hzz] at hfit; simp [allFit, Kd.fits] at hfit
                    replace hc := hc.cells hkm
                    have hzv := ofVal_sound w (XX E K c.O) K ei.zero ho1
                    obtain ⟨q1, q2, q3⟩ := cellsOf_sound hz hzv
                    have hflat := flat_len hrows
                    have hcur : blk.rows.flatten.length ≤ cur.size := by
                      by_cases h0 : blk.rows.flatten.length = 0
                      · omega
                      · obtain ⟨y, hy, _⟩ := hu (blk.rows.flatten.length - 1) _ (List.getElem?_eq_getElem (by omega))
                        have := (Array.getElem?_eq_some_iff.1 hy).1
                        omega
                    have hzc : (Builtin.zeroCells ei.zero.cells n).toList.length = n * blk.sz := by
                      simp [Builtin.zeroCells, hzs, ← hesz, hsz]
                    have hzget : ∀ (j : Nat), j < n * blk.sz → ∃ y, (Builtin.zeroCells ei.zero.cells n).toList[j]? = some y ∧ ei.zero.cells[j % blk.sz]? = some y := by
                      intro j hj
                      have hm' : j % blk.sz < ei.zero.cells.size := by rw [hzs, ← hesz, hsz]; exact Nat.mod_lt _ (by omega)
                      refine ⟨ei.zero.cells[j % blk.sz], ?_, by simp [hm']⟩
                      have hzs' : ei.zero.cells.size = blk.sz := by rw [hzs, ← hesz, hsz]
                      simp [Builtin.zeroCells, hzs', hj]
                      exact getElem!_pos ei.zero.cells (j % blk.sz) hm'
                    have hbnd : lo * blk.sz + n * blk.sz ≤ cur.size := by
                      refine Nat.le_trans ?_ hcur
                      rw [hflat, ← Nat.add_mul]
                      exact Nat.mul_le_mul_right _ hle
                    have hone' : ∀ y ∈ (Builtin.zeroCells ei.zero.cells n).toList, y.oneCell' = true := by
                      intro y hy
                      obtain ⟨j, hj⟩ := List.getElem?_of_mem hy
                      have hjl : j < n * blk.sz := by rw [← hzc]; exact (List.getElem?_eq_some_iff.1 hj).1
                      obtain ⟨y', h1', h2'⟩ := hzget j hjl
                      rw [hj] at h1'; injection h1' with h1'; subst h1'
                      exact q2 _ _ h2'
                    have hrun1 := run_storeCells_at P g (lo * blk.sz) blk.e (Builtin.zeroCells ei.zero.cells n).toList 0 cur w hc (by rw [hzc]; simpa using hbnd) hone'
                    simp only [Nat.add_zero] at hrun1
                    generalize hnewc : (cur.toList.take (lo * blk.sz) ++ (Builtin.zeroCells ei.zero.cells n).toList ++ cur.toList.drop (lo * blk.sz + (Builtin.zeroCells ei.zero.cells n).toList.length)).toArray = new at hrun1
                    have hns : new.size = cur.size := by
                      rw [← hnewc]
                      simp only [List.size_toArray, List.length_append, List.length_take, List.length_drop, Array.length_toList, hzc]
                      omega
                    have hst : Step (fun r => r = g) w (w.setRow g new) := Step.setRow hc hns
                    have hkeep : Keep (XX E K c.O) w (w.setRow g new) := hst.keep.mono fun r _ hr' => .inl ⟨b, by simp [hb], by rw [hr']; exact blkOf_of hkk⟩
                    have hrun : (execOp a.eval o).run P w = .ok (.value (.tuple #[])) (w.setRow g new) := by
                      refine hrun0 _ ?_
                      rw [← hsz] at hrun1
                      have hz1 : ∀ w : World, (zeroValue e).run P w = .ok ei.zero w := fun w => by simp [zeroValue, typeInfo, hje, hjz]
                      have : ∀ k, n = k + 1 → (Builtin.clear_ #[t] o.type #[.slice (some ⟨g, lo * sz, none⟩) n cap]).run P w = .ok (.tuple #[]) (w.setRow g new) := by
                        rintro k rfl
                        simp only [Builtin.clear_]
                        simp [run_underlying hd, hz1, hrun1]
                      exact this (n - 1) (by omega)
                    subst hr
                    unfold Oper.wp
                    rw [hrun]
                    refine ⟨K, _, rfl, ?_, .top⟩
                    refine hs.write (blk := { blk with rows := blk.rows.take lo ++ List.replicate n z ++ blk.rows.drop (lo + n) }) hb (blkOf_of hkk) hlen hst hnew ?_
                    refine ⟨new, HoldsObj.mk hkm (setRow_heap w g cur _ blk.e (0, 0) hc), fun p u' hp => ?_⟩
                    have htk : (blk.rows.take lo).flatten.length = lo * blk.sz := by
                      rw [flat_len (sz := blk.sz) fun row hr => hrows row (List.mem_of_mem_take hr), List.length_take]; congr 1; omega
                    have hrp : (List.replicate n z).flatten.length = n * blk.sz := by
                      rw [flat_len (sz := blk.sz) fun row hr => by rw [(List.mem_replicate.1 hr).2, hzl, hsz], List.length_replicate]
                    have hsplit : blk.rows.flatten = (blk.rows.take lo).flatten ++ (blk.rows.drop lo).flatten := by rw [← List.flatten_append, List.take_append_drop]
                    have hsplit2 : blk.rows.flatten = (blk.rows.take (lo + n)).flatten ++ (blk.rows.drop (lo + n)).flatten := by rw [← List.flatten_append, List.take_append_drop]
                    have htk2 : (blk.rows.take (lo + n)).flatten.length = (lo + n) * blk.sz := by
                      rw [flat_len (sz := blk.sz) fun row hr => hrows row (List.mem_of_mem_take hr), List.length_take]; congr 1; omega
                    have hadd : (lo + n) * blk.sz = lo * blk.sz + n * blk.sz := Nat.add_mul ..
                    have hl1 : (cur.toList.take (lo * blk.sz)).length = lo * blk.sz := by simp only [List.length_take, Array.length_toList]; omega
                    have hl2 : (cur.toList.take (lo * blk.sz) ++ (Builtin.zeroCells ei.zero.cells n).toList).length = lo * blk.sz + n * blk.sz := by rw [List.length_append, hl1, hzc]
                    simp only [List.flatten_append] at hp
                    have old : blk.rows.flatten[p]? = some u' → (p < lo * blk.sz ∨ lo * blk.sz + n * blk.sz ≤ p) → ∃ x, new[p]? = some x ∧ x.oneCell' = true ∧ VR (w.setRow g new) (KdX blk.kd (XX E K c.O)) (KdK blk.kd K) u' x := by
                      intro hp' hwhere
                      obtain ⟨y, hy, h1y, hvy⟩ := hu p u' hp'
                      refine ⟨y, ?_, h1y, hvy.keep (KdX_keep hkeep) (fun _ _ h => h) (fun _ _ => rfl)⟩
                      have hy' : cur.toList[p]? = some y := by simpa using hy
                      rw [← hnewc]
                      simp only [List.getElem?_toArray]
                      rcases hwhere with hlt | hge
                      · rw [List.append_assoc, List.getElem?_append_left (by omega), List.getElem?_take, if_pos hlt]; exact hy'
                      · rw [List.getElem?_append_right (by omega), hl2, List.getElem?_drop, hzc]
                        rw [← hy']; congr 1; omega
                    by_cases c1 : p < lo * blk.sz
                    · rw [List.append_assoc, List.getElem?_append_left (by omega)] at hp
                      exact old (by rw [hsplit, List.getElem?_append_left (by omega)]; exact hp) (.inl c1)
                    · by_cases c2 : p < lo * blk.sz + n * blk.sz
                      · rw [List.append_assoc, List.getElem?_append_right (by omega), List.getElem?_append_left (by omega), htk, rep_get z n _ (by rw [hzl, hsz]; omega), hzl, hsz] at hp
                        obtain ⟨y, hy1, hy2⟩ := hzget (p - lo * blk.sz) (by omega)
                        refine ⟨y, ?_, q2 _ _ hy2, ?_⟩
                        · rw [← hnewc]
                          simp only [List.getElem?_toArray]
                          rw [List.append_assoc, List.getElem?_append_right (by omega), hl1, List.getElem?_append_left (by omega)]
                          exact hy1
                        · have hvx := fit_sound (allFit_get hfit hp) (q3 _ _ _ hp hy2)
                          exact hvx.keep (KdX_keep hkeep) (fun _ _ h => h) (fun _ _ => rfl)
                      · rw [List.getElem?_append_right (by rw [List.length_append]; omega), List.length_append, htk, hrp] at hp
                        refine old ?_ (.inr (by omega))
                        rw [hsplit2, List.getElem?_append_right (by omega), htk2, hadd]
                        exact hp
              · exact h.elim
            · exact h.elim
          · exact h.elim
        · exact h.elim
      · exact h.elim
    · exact h.elim
  · exact h.elim

theorem move_get {α : Type} (L : List α) (a b k p : Nat) (h1 : a ≤ b) (h2 : b + k ≤ L.length) : (L.take a ++ (L.drop b).take k ++ L.drop (a + k))[p]? = L[if p < a then p else if p < a + k then b + (p - a) else p]? := by
  have l1 : (L.take a).length = a := by rw [List.length_take]; omega
  have l2 : ((L.drop b).take k).length = k := by rw [List.length_take, List.length_drop]; omega
  by_cases c1 : p < a
  · rw [if_pos c1, List.append_assoc, List.getElem?_append_left (by omega), List.getElem?_take, if_pos c1]
  · rw [if_neg c1]
    by_cases c2 : p < a + k
    · rw [if_pos c2, List.append_assoc, List.getElem?_append_right (by omega), List.getElem?_append_left (by omega), l1, List.getElem?_take, if_pos (by omega), List.getElem?_drop]
    · rw [if_neg c2, List.getElem?_append_right (by rw [List.length_append]; omega), List.length_append, l1, l2, List.getElem?_drop]
      congr 1; omega
theorem flat_take {rows : List (List AV)} {sz : Nat} (hr : ∀ row ∈ rows, row.length = sz) {k : Nat} (hk : k ≤ rows.length) : (rows.take k).flatten = rows.flatten.take (k * sz) := by
  have hl : (rows.take k).flatten.length = k * sz := by
    rw [flat_len (sz := sz) fun row h => hr row (List.mem_of_mem_take h), List.length_take, Nat.min_eq_left hk]
  have : rows.flatten = (rows.take k).flatten ++ (rows.drop k).flatten := by rw [← List.flatten_append, List.take_append_drop]
  rw [this, List.take_left' hl]
theorem flat_drop {rows : List (List AV)} {sz : Nat} (hr : ∀ row ∈ rows, row.length = sz) {k : Nat} (hk : k ≤ rows.length) : (rows.drop k).flatten = rows.flatten.drop (k * sz) := by
  have hl : (rows.take k).flatten.length = k * sz := by
    rw [flat_len (sz := sz) fun row h => hr row (List.mem_of_mem_take h), List.length_take, Nat.min_eq_left hk]
  have : rows.flatten = (rows.take k).flatten ++ (rows.drop k).flatten := by rw [← List.flatten_append, List.take_append_drop]
  rw [this, List.drop_left' hl]
theorem s_appSelf (hT : TabOK P T) (hs : SRK E K c a w) (hval : Vals E K c a w val)
    {t : TypeId} {s x : Operand} (ho : o.op = .call { callee := .builtin .append, args := #[s, x], argTypes := #[t, t] })
    (h : (appSelfA T (olk c.O) t (val s) (val x)).holds P (· = r)) : o.wp P a w (OpPost E c r a o.dst) NoQ := by
  unfold appSelfA at h
  split at h
  · rename_i ti hti
    split at h
    · rename_i e hk
      obtain ⟨⟨d, hd, hdk⟩, _⟩ := hT.get hti
      rw [hk] at hdk
      have := of_slice hdk
      subst this
      split at h
      · rename_i ei hei
        obtain ⟨_, ⟨je, hje, hjz, hjs, hjb⟩, _⟩ := hT.get hei
        split at h
        · rename_i b sz n b' sz' lo m hsv hx
          split at h
          · rename_i blk hb
            split at h
            · rename_i hbb hss hsz
              have hbb := beq_true hbb
              have hss := beq_true hss
              have hsz := beq_true hsz
              subst hbb hss
              split at h
              · rename_i hesz hbe hpos
                have hesz := beq_true hesz
                have hbe := beq_true hbe
                have hpos := Nat.le_of_ble_eq_true hpos
                obtain ⟨⟨hnlo, hle⟩, h⟩ := h
                have hr : _ = r := h
                obtain ⟨A, cp, e2, hA⟩ := VR.osuf_inv (hval.at hx)
                have hrows := hs.rows b blk hb
                have hnew : ∀ row ∈ blk.rows.take n ++ (blk.rows.drop lo).take m ++ blk.rows.drop (n + m), row.length = blk.sz := by
                  intro row hrow
                  rw [List.mem_append, List.mem_append] at hrow
                  rcases hrow with (hrow | hrow) | hrow
                  · exact hrows row (List.mem_of_mem_take hrow)
                  · exact hrows row (List.mem_of_mem_drop (List.mem_of_mem_take hrow))
                  · exact hrows row (List.mem_of_mem_drop hrow)
                have hlen : (blk.rows.take n ++ (blk.rows.drop lo).take m ++ blk.rows.drop (n + m)).length = blk.rows.length := by
                  simp only [List.length_append, List.length_take, List.length_drop]; omega
                by_cases hm : m = 0
                · subst hm
                  have hsame : blk.rows.take n ++ (blk.rows.drop lo).take 0 ++ blk.rows.drop (n + 0) = blk.rows := by simp
                  subst hr
                  have hrun : (Builtin.append_ #[t, t] o.type #[a.eval s, a.eval x]).run P w = .ok (a.eval s) w := by
                    rw [e2]
                    rcases VR.osl_inv (hval.at hsv) with ⟨hK, hz, e1⟩ | ⟨g, cap, cur, e', mm, hK, hnm, e1, hc, hnc, hmx, hcur⟩
                    · rw [e1]
                      cases A <;> simp [Builtin.append_, run_underlying hd, sizeOf, typeInfo, hje, Builtin.lenOf, Builtin.firstCells, loadCells, loadCellsFrom]
                    · rw [e1]
                      cases A <;> simp [Builtin.append_, run_underlying hd, sizeOf, typeInfo, hje, Builtin.lenOf, Builtin.firstCells, hnc, storeCells, loadCells, loadCellsFrom]
                  unfold Oper.wp
                  rw [run_append_op ho hrun]
                  refine ⟨K, _, rfl, ?_, ?_⟩
                  · rw [hsame]
                    refine hs.weak (fun t => .inl rfl) fun i y hi => ?_
                    simp only [Cfg.eff, setD, olk_setO] at hi
                    by_cases e : b = i
                    · subst e; rw [if_pos rfl] at hi; injection hi with hi; subst hi; exact hb
                    · rw [if_neg e] at hi; exact hi
                  · rcases VR.osl_inv (hval.at hsv) with ⟨hK, hz, e1⟩ | ⟨g, cap, cur, e', mm, hK, hnm, e1, hc, hnc, hmx, hcur⟩
                    · subst hz; rw [e1]; exact .oslnil hK
                    · rw [e1]; exact .osl hK hnm hc hnc hmx hcur
                · obtain ⟨g, mm, hK, hmm, rfl⟩ := hA (by omega)
                  rcases hs.own b blk hb with ⟨k1, _⟩ | ⟨g', k1, cur, hc, hu⟩
                  · rw [hK] at k1; cases k1
                  · have hkk := hK
                    rw [hK] at k1; injection k1 with k1; injection k1 with k1 k2; injection k1 with k1; subst k1 k2
                    rcases VR.osl_inv (hval.at hsv) with ⟨hK', hz, e1⟩ | ⟨g', cap, cur', e', mm, hK', hnm, e1, hc', hnc, hmx, hcur⟩
                    · rw [hkk] at hK'; cases hK'
                    · rw [hkk] at hK'; injection hK' with hK'; injection hK' with k3 k4; injection k3 with k3; subst k3 k4
                      have hkm := hc.kd_ne hc'; replace hc := hc.cells hkm; rw [hc] at hc'; injection hc' with hc'; injection hc' with h1' h2'; subst h1'
                      have hfl := flat_le (g := g) hrows hu
                      have hflat := flat_len hrows
                      have hB : blk.rows.length * blk.sz = blk.rows.length * sz := by rw [← hsz]
                      have hN : n * sz ≤ lo * sz := Nat.mul_le_mul_right _ hnlo
                      have hL : lo * sz + m * sz ≤ blk.rows.length * sz := by rw [← Nat.add_mul]; exact Nat.mul_le_mul_right _ hle
                      have hcs : lo * sz + m * sz ≤ cur.size := by omega
                      have hge : n + m ≤ cap := by
                        have : (n + m) * sz ≤ cap * sz := by rw [hcur, Nat.add_mul]; omega
                        exact Nat.le_of_mul_le_mul_right this (by omega)
                      have hjsz : je.size = sz := by rw [hjs, hesz]
                      generalize hnews : (cur.toList.drop (lo * sz)).take (m * sz) = news
                      have hl : news.length = m * je.size := by
                        rw [← hnews, hjsz, List.length_take, List.length_drop, Array.length_toList]; omega
                      have hget : ∀ (j : Nat) u, news[j]? = some u → j < m * sz ∧ cur[lo * sz + j]? = some u := by
                        intro j u hj
                        rw [← hnews, List.getElem?_take] at hj
                        split at hj
                        · rename_i hlt
                          rw [List.getElem?_drop] at hj
                          exact ⟨hlt, by simpa using hj⟩
                        · cases hj
                      have hcell : ∀ (j : Nat) u, news[j]? = some u → w.cell? ((⟨g, lo * sz, none⟩ : Addr).add j) = some u := by
                        intro j u hj
                        rw [show (⟨g, lo * sz, none⟩ : Addr).add j = ⟨g, lo * sz + j, none⟩ from by unfold Addr.add; split <;> simp_all]
                        simp only [World.cell?, hc]
                        exact (hget j u hj).2
                      have hone : ∀ u ∈ news, u.oneCell' = true := by
                        intro u hmem
                        obtain ⟨j, hj⟩ := List.getElem?_of_mem hmem
                        obtain ⟨q1, q2⟩ := hget j u hj
                        obtain ⟨y, hy, h1y, _⟩ := hu (lo * sz + j) _ (List.getElem?_eq_getElem (by omega))
                        rw [q2] at hy; injection hy with hy; subst hy
                        exact h1y
                      have hc0 : w.heap[g]? = some (.cells cur e (0, 0)) := by rw [← hbe]; exact hc
                      have hrun := run_append_room (P := P) w t o.type e je hd hje g n cap cur hc0 ⟨g, lo * sz, none⟩ m cp news hl hcell hone hge (by rw [hl, hjsz]; omega)
                      rw [hjsz] at hl
                      rw [hl, hjsz] at hrun
                      generalize hnewc : (cur.toList.take (n * sz) ++ news ++ cur.toList.drop (n * sz + m * sz)).toArray = new at hrun
                      have hns : new.size = cur.size := by
                        rw [← hnewc]
                        simp only [List.size_toArray, List.length_append, List.length_take, List.length_drop, Array.length_toList, hl]
                        omega
                      have hst : Step (fun r => r = g) w (w.setRow g new) := Step.setRow hc hns
                      have hkeep : Keep (XX E K c.O) w (w.setRow g new) := hst.keep.mono fun r _ hr' => .inl ⟨b, by simp [hb], by rw [hr']; exact blkOf_of hkk⟩
                      subst hr
                      unfold Oper.wp
                      rw [run_append_op ho (by rw [e1, e2]; exact hrun)]
                      have hheap := setRow_heap w g cur new blk.e (0, 0) hc
                      refine ⟨K, _, rfl, ?_, .osl hkk (by omega) hheap hge hmx (by rw [hns]; exact hcur)⟩
                      refine hs.write (blk := { blk with rows := blk.rows.take n ++ (blk.rows.drop lo).take m ++ blk.rows.drop (n + m) }) hb (blkOf_of hkk) hlen hst hnew ?_
                      refine ⟨new, HoldsObj.mk hkm hheap, fun p u' hp => ?_⟩
                      have hrd : ∀ row ∈ blk.rows.drop lo, row.length = blk.sz := fun row h => hrows row (List.mem_of_mem_drop h)
                      simp only [List.flatten_append] at hp
                      rw [flat_take hrows (by omega), flat_take hrd (by rw [List.length_drop]; omega), flat_drop hrows (by omega), flat_drop hrows (by omega), ← hsz, Nat.add_mul, move_get _ _ _ _ _ hN (by omega)] at hp
                      obtain ⟨y, hy, h1y, hvy⟩ := hu _ u' hp
                      refine ⟨y, ?_, h1y, hvy.keep (KdX_keep hkeep) (fun _ _ h => h) (fun _ _ => rfl)⟩
                      rw [← hnewc, ← hnews]
                      simp only [List.getElem?_toArray]
                      rw [move_get _ _ _ _ _ hN (by rw [Array.length_toList]; omega)]
                      simpa using hy
              · exact h.elim
            · exact h.elim
          · exact h.elim
        · exact h.elim
      · exact h.elim
    · exact h.elim
  · exact h.elim

theorem run_copy_op {d s : Operand} {t : TypeId} (ho : o.op = .call { callee := .builtin .copy, args := #[d, s], argTypes := #[t, t] }) {v' : Value} {w' : World}
    (h : (Builtin.copy_ #[t, t] o.type #[a.eval d, a.eval s]).run P w = .ok v' w') : (execOp a.eval o).run P w = .ok (.value v') w' := by
  simp only [execOp, ho, resolve, invoke, builtin, List.map_toArray, List.map_cons, List.map_nil, Sem.run_bind, Sem.run_pure, Result.andThen_ok, h]
theorem dstOf_vr {b sz lo m : Nat} {u : AV} {v : Value} (hd : dstOf u = some (b, sz, lo, m)) (hm : 1 ≤ m) (hv : VR w X K u v) : ∃ g mm cp, K b = some (some g, mm) ∧ v = .slice (some ⟨g, lo * sz, none⟩) m cp := by
  cases u <;> simp only [dstOf] at hd <;> try cases hd
  · rcases VR.osl_inv hv with ⟨_, hz, _⟩ | ⟨g, cap, cur, e', mm, hK, _, e1, _⟩
    · omega
    · exact ⟨g, mm, cap, hK, by rw [Nat.zero_mul]; exact e1⟩
  · obtain ⟨A, cp, e1, hA⟩ := VR.osuf_inv hv
    obtain ⟨g, mm, hK, _, rfl⟩ := hA (by omega)
    exact ⟨g, mm, cp, hK, e1⟩
theorem s_copy (hT : TabOK P T) (hs : SRK E K c a w) (hval : Vals E K c a w val)
    {t : TypeId} {s x : Operand} (ho : o.op = .call { callee := .builtin .copy, args := #[s, x], argTypes := #[t, t] })
    (h : (copyA T (olk c.O) t (val s) (val x)).holds P (· = r)) : o.wp P a w (OpPost E c r a o.dst) NoQ := by
  unfold copyA at h
  split at h
  · rename_i ti hti
    split at h
    · rename_i e hk
      obtain ⟨⟨d, hd, hdk⟩, _⟩ := hT.get hti
      rw [hk] at hdk
      have := of_slice hdk
      subst this
      split at h
      · rename_i ei hei
        obtain ⟨_, ⟨je, hje, hjz, hjs, hjb⟩, _⟩ := hT.get hei
        split at h
        · rename_i b sz lo m hdst he1
          have he1 := beq_true he1
          split at h
          · rename_i blk n rows kd hb hsrc
            split at h
            · rename_i hkd hsz hbsz hbe
              have hsz := beq_true hsz
              have hbsz := beq_true hbsz
              have hbe := beq_true hbe
              obtain ⟨⟨hle, hm1, hn1⟩, h⟩ := h
              obtain ⟨hr, _, htk⟩ := takes_get h
              have hr : _ = r := hr
              have hxv : VR w (XX E K c.O) K (val x) (a.eval x) := (hval x).vr (by rintro d want u e'; rw [e'] at hsrc; cases hsrc)
              have hsv : VR w (XX E K c.O) K (val s) (a.eval s) := (hval s).vr (by rintro d want u e'; rw [e'] at hdst; cases hdst)
              obtain ⟨hlen, huni, A, cp, news, e2, hnl, hA, hone, hvr⟩ := src_sound hs hsrc hxv
              obtain ⟨ga, oa, rfl, hcell⟩ := hA (by omega)
              obtain ⟨g, mm, cpd, hK, e1⟩ := dstOf_vr hdst hm1 hsv
              subst hsz
              rw [Nat.mul_one] at e1 hnl
              rcases hs.own b blk hb with ⟨k1, _⟩ | ⟨g', k1, cur, hc, hu⟩
              · rw [hK] at k1; cases k1
              · rw [hK] at k1; injection k1 with k1; injection k1 with k1 k2; injection k1 with k1; subst k1 k2
                have hkm : ∀ ag st, blk.kd ≠ .map ag st := by rw [hkd]; simp
                replace hc := hc.cells hkm
                have hrows := hs.rows b blk hb
                have hfl := flat_le (g := g) hrows hu
                rw [hbsz, Nat.mul_one] at hfl
                have hcl : (news.take (min n m)).length = min n m := by rw [List.length_take]; omega
                have hrun := run_copy_row (P := P) w t t o.type e g lo m cpd ⟨ga, oa, none⟩ n cp cur blk.e (news.take (min n m)) hd (by rw [hje]; simp; omega) hc hcl (fun j u hj => by
                  rw [List.getElem?_take] at hj
                  split at hj
                  · rw [show (⟨ga, oa, none⟩ : Addr).add j = ⟨ga, oa + j, none⟩ from by unfold Addr.add; split <;> simp_all]
                    exact hcell j u hj
                  · cases hj) (by rw [hcl]; omega) (fun u hu' => hone u (List.mem_of_mem_take hu'))
                rw [hcl] at hrun
                generalize hnewc : (cur.toList.take lo ++ news.take (min n m) ++ cur.toList.drop (lo + min n m)).toArray = new at hrun
                have hns : new.size = cur.size := by
                  rw [← hnewc]
                  simp only [List.size_toArray, List.length_append, List.length_drop, hcl]
                  rw [List.length_take, Array.length_toList]; omega
                have hst : Step (fun r => r = g) w (w.setRow g new) := Step.setRow hc hns
                have hkeep : Keep (XX E K c.O) w (w.setRow g new) := hst.keep.mono fun r _ hr' => .inl ⟨b, by simp [hb], by rw [hr']; exact blkOf_of hK⟩
                have hheap := setRow_heap w g cur new blk.e (0, 0) hc
                have hnew : ∀ row ∈ blk.rows.take lo ++ rows.take (min n m) ++ blk.rows.drop (lo + min n m), row.length = blk.sz := by
                  intro row hrow
                  rw [List.mem_append, List.mem_append] at hrow
                  rcases hrow with (hrow | hrow) | hrow
                  · exact hrows row (List.mem_of_mem_take hrow)
                  · rw [hbsz]; exact huni row (List.mem_of_mem_take hrow)
                  · exact hrows row (List.mem_of_mem_drop hrow)
                have hlen' : (blk.rows.take lo ++ rows.take (min n m) ++ blk.rows.drop (lo + min n m)).length = blk.rows.length := by
                  simp only [List.length_append, List.length_take, List.length_drop]; omega
                subst hr
                unfold Oper.wp
                rw [run_copy_op ho (by rw [e1, e2]; exact hrun)]
                refine ⟨K, _, rfl, ?_, .int⟩
                refine hs.write (blk := { blk with rows := blk.rows.take lo ++ rows.take (min n m) ++ blk.rows.drop (lo + min n m) }) hb (blkOf_of hK) hlen' hst hnew ?_
                refine ⟨new, HoldsObj.mk hkm hheap, fun p u' hp => ?_⟩
                have h1r : ∀ row ∈ blk.rows, row.length = 1 := fun row h => by rw [← hbsz]; exact hrows row h
                simp only [List.flatten_append] at hp
                rw [flat_take h1r (by omega), flat_take huni (by omega), flat_drop h1r (by omega), Nat.mul_one, Nat.mul_one, Nat.mul_one] at hp
                have hfb := flat_len h1r
                have hfr := flat_len huni
                rw [Nat.mul_one] at hfb hfr
                have l1 : (blk.rows.flatten.take lo).length = lo := by rw [List.length_take]; omega
                have l2 : (rows.flatten.take (min n m)).length = min n m := by rw [List.length_take]; omega
                have c1l : (cur.toList.take lo).length = lo := by rw [List.length_take, Array.length_toList]; omega
                have old : ∀ q u, blk.rows.flatten[q]? = some u → (q < lo ∨ lo + min n m ≤ q) → ∃ y, new[q]? = some y ∧ y.oneCell' = true ∧ VR (w.setRow g new) (KdX blk.kd (XX E K c.O)) (KdK blk.kd K) u y := by
                  intro q u hq hor
                  obtain ⟨y, hy, h1y, hvy⟩ := hu q u hq
                  refine ⟨y, ?_, h1y, hvy.keep (KdX_keep hkeep) (fun _ _ h => h) (fun _ _ => rfl)⟩
                  rw [← hnewc]
                  simp only [List.getElem?_toArray]
                  rcases hor with hq' | hq'
                  · rw [List.append_assoc, List.getElem?_append_left (by omega), List.getElem?_take, if_pos hq']
                    simpa using hy
                  · rw [List.getElem?_append_right (by rw [List.length_append]; omega), List.length_append, c1l, hcl, List.getElem?_drop, show lo + min n m + (q - (lo + min n m)) = q by omega]
                    simpa using hy
                by_cases c1 : p < lo
                · rw [List.append_assoc, List.getElem?_append_left (by omega), List.getElem?_take, if_pos c1] at hp
                  exact old p u' hp (.inl c1)
                · by_cases c2 : p < lo + min n m
                  · rw [List.append_assoc, List.getElem?_append_right (by omega), List.getElem?_append_left (by omega), l1, List.getElem?_take, if_pos (by omega)] at hp
                    have hpl : p - lo < news.length := by omega
                    refine ⟨news[p - lo], ?_, hone _ (List.getElem_mem hpl), ?_⟩
                    · rw [← hnewc]
                      simp only [List.getElem?_toArray]
                      rw [List.append_assoc, List.getElem?_append_right (by omega), List.getElem?_append_left (by omega), c1l, List.getElem?_take, if_pos (by omega), List.getElem?_eq_getElem hpl]
                    · have hvx := htk hp (hvr (p - lo) u' _ hp (List.getElem?_eq_getElem hpl))
                      rw [hkd]
                      exact hvx.keep (KdX_keep hkeep) (fun _ _ h => h) (fun _ _ => rfl)
                  · rw [List.getElem?_append_right (by rw [List.length_append]; omega), List.length_append, l1, l2, List.getElem?_drop, show lo + min n m + (p - (lo + min n m)) = p by omega] at hp
                    exact old p u' hp (.inr (by omega))
            · exact h.elim
          · exact h.elim
        · exact h.elim
      · exact h.elim
    · exact h.elim
  · exact h.elim
theorem viewM1_sound (hs : SRK E K c a w) {b : Nat} {u u' : AV} {v : Value} (hb : (olk c.O b).isSome = true) (h : viewM1 (olk c.O) b u = some u') (hv : VR w (XX E K c.O) K u v) : VR w (fun g => blkOf K b = some g) K0 u' v := by
  unfold viewM1 at h
  split at h
  · rename_i b' off
    split at h
    · cases h
    · rename_i hne
      have hne := beq_false hne
      split at h
      · rename_i blk hb'
        split at h
        · rename_i row hkd hrow
          split at h
          · rename_i hfit
            injection h with h
            subst h
            obtain ⟨g, hK, rfl⟩ := VR.ovar_inv hv
            rcases hs.own b' blk hb' with ⟨k1, k2⟩ | ⟨g', k1, hblk⟩
            · rw [show blkOf K b' = none from by simp [blkOf, k1]] at hK; cases hK
            · have hlt := hs.live_lt (by simp [hb']) hK
              have hK' := hK
              rw [blkOf_of k1] at hK; injection hK with hK; subst hK
              have hrr := hblk.row (by rw [hkd]; simp) (hs.rows b' blk hb') (i := 0) (row := row) (by rw [hrow]; rfl)
              simp only [Nat.zero_mul] at hrr
              obtain ⟨cs, c1, c2, c3, c4⟩ := hrr.list
              have hng : ¬ blkOf K b = some g' := fun hg => hne (hs.inj b b' g' hb (by simp [hb']) hg hK')
              have := VR.rptr (w := w) (X := fun g => blkOf K b = some g) (K := K0) (xs := row) (off := off) (g := g') (o := 0) (cs := cs) c1 c3 hlt hng c2
                (fun j u x hu hx => scalar_sound (allFit_get hfit hu) (c4 j u x hu hx) _ _)
              simpa using this
          · cases h
        · cases h
      · cases h
  · split at h
    · rename_i hi
      injection h with h
      subst h
      exact (idless_sound hv hi K0).sub fun g _ hg => .inl ⟨b, hb, hg⟩
    · cases h
theorem viewsM1_sound (hs : SRK E K c a w) {b : Nat} (hb : (olk c.O b).isSome = true) : ∀ {us us' : List AV}, viewsM1 (olk c.O) b us = some us' → us'.length = us.length ∧ ∀ (j : Nat) u' v, us'[j]? = some u' → (∀ u, us[j]? = some u → VR w (XX E K c.O) K u v) → VR w (fun g => blkOf K b = some g) K0 u' v
  | [], us', h => by simp [viewsM1] at h; subst h; simp
  | x :: xs, us', h => by
    simp only [viewsM1] at h
    split at h
    · rename_i y ys hy hys
      injection h with h
      subst h
      obtain ⟨h1, h2⟩ := viewsM1_sound hs hb hys
      refine ⟨by simp [h1], fun j u' v hj hv => ?_⟩
      cases j with
      | zero => simp at hj; subst hj; exact viewM1_sound hs hb hy (hv x (by simp))
      | succ j => exact h2 j u' v (by simpa using hj) fun u hu => hv u (by simpa using hu)
    · cases h
theorem viewM_sound (hs : SRK E K c a w) {b : Nat} {u u' : AV} {v : Value} (hb : (olk c.O b).isSome = true) (h : viewM (olk c.O) b u = some u') (hv : VR w (XX E K c.O) K u v) : VR w (fun g => blkOf K b = some g) K0 u' v := by
  unfold viewM at h
  split at h
  · rename_i f caps
    split at h
    · rename_i cs hcs
      injection h with h
      subst h
      obtain ⟨vs, rfl, l1, v1⟩ := VR.func_inv hv
      obtain ⟨h1, h2⟩ := viewsM1_sound hs hb hcs
      exact .func (by rw [h1, l1]) fun j u c' hu hc => h2 j u c' hu fun u0 hu0 => v1 j u0 c' hu0 hc
    · cases h
  · exact viewM1_sound hs hb h hv
theorem viewsM_sound (hs : SRK E K c a w) {b : Nat} (hb : (olk c.O b).isSome = true) : ∀ {us us' : List AV}, viewsM (olk c.O) b us = some us' → us'.length = us.length ∧ (∀ (j : Nat) u, us[j]? = some u → ∀ d want u', u ≠ .opt d want u') ∧ ∀ (j : Nat) u' v, us'[j]? = some u' → (∀ u, us[j]? = some u → VR w (XX E K c.O) K u v) → VR w (fun g => blkOf K b = some g) K0 u' v
  | [], us', h => by simp [viewsM] at h; subst h; simp
  | x :: xs, us', h => by
    simp only [viewsM] at h
    split at h
    · rename_i y ys hy hys
      injection h with h
      subst h
      obtain ⟨h1, h0, h2⟩ := viewsM_sound hs hb hys
      refine ⟨by simp [h1], fun j u hu d want u' e => ?_, fun j u' v hj hv => ?_⟩
      · cases j with
        | zero => simp at hu; subst hu; rw [e] at hy; simp [viewM, viewM1, AV.idless] at hy
        | succ j => exact h0 j u (by simpa using hu) d want u' e
      · cases j with
        | zero => simp at hj; subst hj; exact viewM_sound hs hb hy (hv x (by simp))
        | succ j => exact h2 j u' v (by simpa using hj) fun u hu => hv u (by simpa using hu)
    · cases h
theorem s_callM (hs : SRK E K c a w) (hval : Vals E K c a w val) {f : Operand} {args : Array Operand} {ts : Array TypeId} (ho : o.op = .call { callee := .value f, args := args, argTypes := ts }) (hf : freshD c r.nw r.D = true)
    (h : (callMA (olk c.O) o.dst (val f) (args.toList.map val)).holds P (· = r)) : o.wp P a w (OpPost E c r a o.dst) NoQ := by
  unfold callMA at h
  split at h
  · rename_i g b sz n rest hfv hargs
    split at h
    · rename_i blk hb
      split at h
      · rename_i us hsz hkd hus
        have hsz := beq_true hsz
        obtain ⟨hn, x, ⟨⟨fn, hfn, hname, hbody⟩, hfun⟩, h⟩ := h
        dsimp only at h
        split at h
        · rename_i e' sz' n' rows'
          have hr : _ = r := h
          have hf' := hf
          rw [← hr] at hf'
          have hfr := freshD_one hf'
          obtain ⟨f1, f2, f3⟩ := fresh_of hfr
          have hbs : (olk c.O b).isSome = true := by simp [hb]
          obtain ⟨K1, hK1, hKb, hs1⟩ := hs.rename (fresh_pin hfr) hb f1 f2 f3
          -- the arguments
          obtain ⟨x0, xs, hal, hx0, hxs⟩ : ∃ x0 xs, args.toList = x0 :: xs ∧ val x0 = .osl b sz n ∧ xs.map val = rest := by
            cases hl : args.toList with
            | nil => rw [hl] at hargs; cases hargs
            | cons x0 xs => rw [hl] at hargs; injection hargs with h1 h2; exact ⟨x0, xs, rfl, h1, h2⟩
          obtain ⟨v1, v2, v3⟩ := viewsM_sound hs hbs hus
          have e0 := VR.osl_inv (hval.at hx0)
          have hae : args.map a.eval = #[a.eval x0] ++ (xs.map a.eval).toArray := by
            have : args = (x0 :: xs).toArray := by rw [← hal]
            rw [this]; simp
          have hrowsb := hs.rows b blk hb
          have hown : OwnV w (fun g => blkOf K b = some g) blk.e blk.sz blk.rows (a.eval x0) ∧ (∀ g, ownBlk (a.eval x0) = some g ↔ blkOf K b = some g) := by
            rcases e0 with ⟨hK, hz, e1⟩ | ⟨g0, cap, cur, e0', m, hK, hnm, e1, hc, hnc, hm, hcur⟩
            · have hr0 : blk.rows = [] := List.eq_nil_of_length_eq_zero (by omega)
              refine ⟨⟨hrowsb, .inl ⟨hr0, e1⟩⟩, fun g => ?_⟩
              rw [e1, show blkOf K b = none from by simp [blkOf, hK]]
              simp [ownBlk]
            · rcases hs.own b blk hb with ⟨k1, _⟩ | ⟨g', k1, cur', hc', hu⟩
              · rw [hK] at k1; cases k1
              · have hkk := hK
                rw [hK] at k1; injection k1 with k1; injection k1 with k1 k2; injection k1 with k1; subst k1
                replace hc' := hc'.of_obj hc; rw [hc] at hc'; injection hc' with hc'; injection hc' with h1 h2; subst h1 h2
                refine ⟨⟨hrowsb, .inr ⟨g0, cap, cur, by rw [e1, hn], by omega, hm, by rw [← hsz]; exact hcur, hc, blkOf_of hkk, fun j u hj => ?_⟩⟩, fun g => ?_⟩
                · obtain ⟨y, hy, h1y, hvy⟩ := hu j u hj
                  rw [hkd] at hvy
                  exact ⟨y, hy, h1y, hvy⟩
                · rw [e1, blkOf_of hkk]; simp [ownBlk]
          have hvs : ∀ (j : Nat) u c', us[j]? = some u → (xs.map a.eval).toArray[j]? = some c' → VR w (fun g => blkOf K b = some g) K0 u c' := by
            intro j u c' hu hc
            refine v3 j u c' hu fun u0 hu0 => ?_
            rw [← hxs, List.getElem?_map] at hu0
            simp only [List.getElem?_toArray, List.getElem?_map] at hc
            cases hxj : xs[j]? with
            | none => rw [hxj] at hc; cases hc
            | some y =>
              rw [hxj] at hu0 hc
              injection hu0 with hu0
              injection hc with hc
              subst hu0 hc
              exact (hval y).vr (v2 j _ (by rw [← hxs, List.getElem?_map, hxj]; rfl))
          have ef : a.eval f = .func (.func g) #[] #[] := by
            obtain ⟨cv, e1, l1, _⟩ := VR.func_inv (hval.at hfv)
            have : cv = #[] := Array.eq_empty_of_size_eq_zero (by simpa using l1.symm)
            rw [e1, this]
          unfold Oper.wp
          have hrun : (execOp a.eval o).run P w = .ok (.enter g (#[a.eval x0] ++ (xs.map a.eval).toArray)) w := by
            simp only [execOp, ho, resolve, ef, Deferred.ofValue, Sem.run_bind, Sem.run_pure, Result.andThen_ok, invoke, callFunc, run_program]
            simp [hfn, hname, hbody, hae]
          rw [hrun, Oper.upon_enter]
          have hwi : ∀ w', Ext0 (fun g => ownBlk (a.eval x0) = some g) w w' → WI w' := by
            intro w' hx
            refine E.hwi _ ⟨hx.os.trans hs.ext.os, hx.tape.trans hs.ext.tape, hx.output.trans hs.ext.output, Nat.le_trans hs.ext.size hx.size, fun g hg hX => ?_, fun g cur e hc => ?_⟩
            · rw [hx.block g (Nat.lt_of_lt_of_le hg hs.ext.size) fun ho => ?_]
              · exact hs.ext.block g hg hX
              · rcases hs.mine b g hbs ((hown.2 g).1 ho) with h | h
                · exact hX h
                · omega
            · obtain ⟨c1, h1, s1⟩ := hs.ext.shape g cur e hc
              obtain ⟨c2, h2, s2⟩ := hx.shape g c1 e h1
              exact ⟨c2, h2, s2.trans s1⟩
          refine (hfun _ w _ _ hown.1 hwi (by simp [v1, ← hxs]) hvs).mono ?_
          rintro en w1 ⟨v, rfl, ⟨p, e2, sz2, n2, rows2, hx2, hn2, hrows2, hcase⟩, hext⟩
          injection hx2 with q1 q2 q3 q4 q5
          subst q2 q3 q4 q5
          have hkb' : blkOf K1 (idOf o.dst 0) = blkOf K b := by unfold blkOf; rw [hKb]
          have hsome : (olk (setO (idOf o.dst 0) blk (delO b c.O)) (idOf o.dst 0)).isSome = true := by rw [olk_setO, if_pos rfl]; rfl
          have hst : Step (fun r => (olk (setO (idOf o.dst 0) blk (delO b c.O)) (idOf o.dst 0)).isSome = true ∧ blkOf K1 (idOf o.dst 0) = some r) w w1 :=
            ⟨⟨hext.size, fun g' hg' hnx => hext.block g' hg' fun ho' => hnx ⟨hsome, by rw [hkb']; exact (hown.2 g').1 ho'⟩, hext.shape⟩, hext.os, hext.tape, hext.output⟩
          have hO1 : ∀ i y, olk (setO (idOf o.dst 0) blk (delO b c.O)) i = some y → i ≠ idOf o.dst 0 → y.kd = .any → hasRow (idOf o.dst 0) y.rows = false := by
            intro i y hi hi' hk
            rw [olk_setO, olk_delO, if_neg (fun e => hi' e.symm)] at hi
            by_cases e2 : b = i
            · rw [if_pos e2] at hi; cases hi
            · rw [if_neg e2] at hi; exact f3 i y hi hk
          have hlk : ∀ (y : OBlk) i x, olk (setO (idOf o.dst 0) y (delO b c.O)) i = some x → olk (setO (idOf o.dst 0) y (setO (idOf o.dst 0) blk (delO b c.O))) i = some x := by
            intro y i x hi
            rw [olk_setO] at hi ⊢
            by_cases e : idOf o.dst 0 = i
            · rw [if_pos e] at hi ⊢; exact hi
            · rw [if_neg e] at hi ⊢; rw [olk_setO, if_neg e]; exact hi
          subst hr
          rcases hcase with ⟨hr0, rfl⟩ | ⟨g', cap, cur, rfl, hnc, hg', hc', hcm, hcs, hcells⟩
          · subst hr0
            have hn0 : n' = 0 := by simpa using hn2
            subst hn0
            cases hbk : blkOf K b with
            | none =>
              have hst0 : Step (fun _ => False) w w1 := hst.mono fun g' _ hx => by
                have := hx.2
                rw [hkb', hbk] at this; cases this
              have hs2 := (hs1.move hst0).rebindNil (fresh_pin hfr) (b := idOf o.dst 0) (blk := { e := e', sz := sz', kd := .pure, rows := [] }) f2 hO1 rfl
              exact ⟨_, _, rfl, hs2.weak (fun t => .inl rfl) (hlk _), .oslnil (upd_same _ _ _)⟩
            | some g0 =>
              rcases hs.own b blk hb with ⟨k1, _⟩ | ⟨g1, k1, cur1, hc1, _⟩
              · rw [show blkOf K b = none from by simp [blkOf, k1]] at hbk; cases hbk
              · obtain ⟨cur2, hc2, _⟩ := hext.shape g1 cur1 blk.e (hc1.cells (by rw [hkd]; simp))
                have hs2 := hs1.rebind (fresh_pin hfr) (b := idOf o.dst 0) (g := g1) (blk := { e := blk.e, sz := sz', kd := .pure, rows := [] }) hst f2 hO1 (.inr ⟨hsome, by rw [hkb']; exact blkOf_of k1⟩) (by simp) ⟨cur2, hc2, by simp⟩
                have hs3 := hs2.rebindNil (fresh_pin hfr) (b := idOf o.dst 0) (blk := { e := e', sz := sz', kd := .pure, rows := [] }) f2 (fun i y hi hi' hk => by
                  simp only [olk_setO] at hi
                  rw [if_neg (fun e => hi' e.symm)] at hi
                  exact hO1 i y (by rw [olk_setO]; exact hi) hi' hk) rfl
                refine ⟨_, _, rfl, hs3.weak (fun t => .inl rfl) (fun i x hi => ?_), .oslnil (upd_same _ _ _)⟩
                simp only [Cfg.eff, setD] at hi
                rw [olk_setO] at hi ⊢
                by_cases e : idOf o.dst 0 = i
                · rw [if_pos e] at hi ⊢; exact hi
                · rw [if_neg e] at hi ⊢; rw [olk_setO, if_neg e, olk_setO, if_neg e]; exact hi
          · have hg2 : w.heap.size ≤ g' ∨ ((olk (setO (idOf o.dst 0) blk (delO b c.O)) (idOf o.dst 0)).isSome = true ∧ blkOf K1 (idOf o.dst 0) = some g') := by
              rcases hg' with hg' | hg'
              · exact .inl hg'
              · exact .inr ⟨hsome, by rw [hkb']; exact (hown.2 g').1 hg'⟩
            have hs2 := hs1.rebind (fresh_pin hfr) (b := idOf o.dst 0) (g := g') (blk := { e := e', sz := sz', kd := .pure, rows := rows' }) hst f2 hO1 hg2 hrows2 ⟨cur, hc', fun j u hj => hcells j u hj⟩
            refine ⟨_, _, rfl, hs2.weak (fun t => .inl rfl) (hlk _), .osl (upd_same _ _ _) (by rw [hn2]; exact Nat.le_refl _) hc' hnc hcm hcs⟩
        · exact h.elim
      · exact h.elim
    · exact h.elim
  · exact h.elim

/-! ### a call that writes blocks in place -/
theorem olk_appS : ∀ (l m : List (Nat × OBlk)) (b : Nat), olk (l ++ m) b = match olk l b with | some x => some x | none => olk m b
  | [], m, b => by simp [olk]
  | (i, x) :: r, m, b => by
    rw [List.cons_append, olk_cons, olk_cons, olk_appS r m b]
    by_cases h : i = b <;> simp [h]
theorem olk_setDS : ∀ (D O : List (Nat × OBlk)) (b : Nat), olk (setD D O) b = match olk D b with | some x => some x | none => olk O b
  | [], O, b => by simp [setD, olk]
  | (i, x) :: r, O, b => by
    rw [setD, olk_setO, olk_cons, olk_setDS r O b]
    by_cases h : i = b <;> simp [h]
theorem memN_iff {n : Nat} : ∀ {l : List Nat}, memN n l = true ↔ n ∈ l
  | [] => by simp [memN]
  | m :: r => by
    unfold memN
    cases h : Nat.beq n m
    · have := beq_false h
      simp only [memN_iff (l := r), List.mem_cons, this, false_or]
    · have := beq_true h
      simp [this]
theorem mem_ids {b : Nat} : ∀ {O : List (Nat × OBlk)}, b ∈ idsOf O ↔ (olk O b).isSome = true
  | [] => by simp [idsOf, olk]
  | (i, x) :: r => by
    rw [idsOf, olk_cons, List.mem_cons, mem_ids (O := r)]
    by_cases h : i = b
    · simp [h]
    · rw [if_neg h]
      constructor
      · rintro (e | e)
        · exact absurd e.symm h
        · exact e
      · exact .inr
theorem handCells_own {own : Nat → Option OBlk} : ∀ {row : List AV} {l : List (Nat × OBlk)}, handCells own row = some l → ∀ b x, olk l b = some x → own b = some x
  | [], l, h, b, x, hb => by simp [handCells] at h; subst h; simp [olk] at hb
  | u :: r, l, h, b, x, hb => by
    unfold handCells at h
    split at h
    · cases h; simp [olk] at hb
    · rename_i b' sz n r' e
      injection e with e1 e2; subst e1 e2
      split at h
      · rename_i blk l' h1 h2
        injection h with h; subst h
        rw [olk_cons] at hb
        by_cases e : b' = b
        · rw [if_pos e] at hb; subst e; rw [h1]; exact hb
        · rw [if_neg e] at hb; exact handCells_own h2 b x hb
      · cases h
    · rename_i b' r' e
      injection e with e1 e2; subst e1 e2
      split at h
      · rename_i blk l' h1 h2
        injection h with h; subst h
        rw [olk_cons] at hb
        by_cases e : b' = b
        · rw [if_pos e] at hb; subst e; rw [h1]; exact hb
        · rw [if_neg e] at hb; exact handCells_own h2 b x hb
      · cases h
    · rename_i v r' _ _ e
      injection e with e1 e2; subst e1 e2
      split at h
      · exact handCells_own h b x hb
      · cases h
theorem handOne_own {own : Nat → Option OBlk} {u : AV} {l : List (Nat × OBlk)} (h : handOne own u = some l) : ∀ b x, olk l b = some x → own b = some x := by
  intro b x hb
  cases u with
  | ovar b' off =>
    simp only [handOne] at h
    split at h
    · rename_i blk h1
      split at h
      · split at h
        · rename_i l' h2
          injection h with h; subst h
          rw [olk_cons] at hb
          by_cases e : b' = b
          · rw [if_pos e] at hb; subst e; rw [h1]; exact hb
          · rw [if_neg e] at hb; exact handCells_own h2 b x hb
        · cases h
      · cases h
    · cases h
  | osl b' sz n =>
    simp only [handOne] at h
    split at h
    · rename_i blk h1
      injection h with h; subst h
      rw [olk_cons] at hb
      by_cases e : b' = b
      · rw [if_pos e] at hb; subst e; rw [h1]; exact hb
      · rw [if_neg e] at hb; simp [olk] at hb
    · cases h
  | omap b' =>
    simp only [handOne] at h
    split at h
    · rename_i blk h1
      injection h with h; subst h
      rw [olk_cons] at hb
      by_cases e : b' = b
      · rw [if_pos e] at hb; subst e; rw [h1]; exact hb
      · rw [if_neg e] at hb; simp [olk] at hb
    · cases h
  | _ => simp [handOne] at h
theorem handAll_own {own : Nat → Option OBlk} {ps : List Nat} : ∀ {us : List AV} {i : Nat} {O : List (Nat × OBlk)}, handAll own ps i us = some O → ∀ b x, olk O b = some x → own b = some x
  | [], i, O, h, b, x, hb => by simp [handAll] at h; subst h; simp [olk] at hb
  | u :: us, i, O, h, b, x, hb => by
    simp only [handAll] at h
    split at h
    · split at h
      · rename_i l m h1 h2
        injection h with h; subst h
        rw [olk_appS] at hb
        cases hl : olk l b with
        | some y => rw [hl] at hb; injection hb with hb; subst hb; exact handOne_own h1 b y hl
        | none => rw [hl] at hb; exact handAll_own h2 b x hb
      · cases h
    · exact handAll_own h b x hb
theorem handOne_opt {own : Nat → Option OBlk} {d : Nat} {want : Bool} {u' : AV} : handOne own (.opt d want u') = none := rfl
theorem viewS_sound (hs : SRK E K c a w) {O : List (Nat × OBlk)} (hO : ∀ b x, olk O b = some x → olk c.O b = some x) {u u' : AV} {v : Value} (h : viewS (olk c.O) (idsOf O) u = some u') (hv : VR w (XX E K c.O) K u v) : VR w (Live K O) K u' v := by
  have hlive : ∀ g, Live K O g → XX E K c.O g := by
    rintro g ⟨b, hb, hk⟩
    obtain ⟨x, hx⟩ := Option.isSome_iff_exists.1 hb
    exact .inl ⟨b, by simp [hO b x hx], hk⟩
  have hnl : ∀ {b g : Nat}, memN b (idsOf O) = false → (olk c.O b).isSome = true → blkOf K b = some g → ¬ Live K O g := by
    rintro b g hm hb hk ⟨b', hb', hk'⟩
    obtain ⟨x, hx⟩ := Option.isSome_iff_exists.1 hb'
    have := hs.inj b b' g hb (by simp [hO b' x hx]) hk hk'
    subst this
    rw [memN_iff.2 (mem_ids.2 hb')] at hm; cases hm
  unfold viewS at h
  split at h
  · rename_i b sz n
    split at h
    · rename_i blk hm hb
      split at h
      · rename_i h1 hkd
        injection h with h; subst h
        have hsz := beq_true h1
        have huni := hs.rows b blk hb
        have hsrc : srcRows (olk c.O) sz (.osl b sz n) = some (n, blk.rows.take n, blk.kd) := by
          simp only [srcRows, hb]
          rw [show Nat.beq sz sz = true from Nat.beq_refl sz, show Nat.beq blk.sz sz = true from by rw [← hsz]; exact Nat.beq_refl sz]
        obtain ⟨hl, hu, A, cp, news, e0, hnl', hcell, hone, hvn⟩ := src_sound hs hsrc hv
        have hcs : news.length = (blk.rows.take n).flatten.length := by rw [hnl', flat_len hu, ← hl]
        rcases VR.osl_inv hv with ⟨hK, hz, e1⟩ | ⟨g, cap, cur, e', mm, hK, hnm, e1, hc, hnc, hm', hcur⟩
        · subst hz e1
          exact .rsl (cs := []) (by simp) (by simp) (Nat.le_refl _) (fun _ => rfl) (by simp) (by simp) (by simp) (by simp)
        · rw [e1] at e0
          injection e0 with e2 e3 e4
          subst e1
          refine .rsl hl hu hnc (fun h => by cases h) hcs hone (fun hne => ?_) (fun j u x hu hx => ?_)
          · have hpos : 0 < n := by
              rcases Nat.eq_zero_or_pos n with h | h
              · subst h; simp at hne
              · exact h
            obtain ⟨g', o', e5, hc'⟩ := hcell hpos
            rw [← e2] at e5
            injection e5 with e5; injection e5 with e5 e6; subst e5 e6
            exact ⟨g, 0, rfl, (Array.getElem?_eq_some_iff.1 hc).1, hnl hm (by simp [hb]) (blkOf_of hK), hc'⟩
          · have := hvn j u x hu hx
            rw [hkd] at this
            exact VR.sub this fun _ _ _ => trivial
      · cases h
    · cases h
  · rename_i b off
    split at h
    · rename_i blk hm hb
      split at h
      · rename_i row hkd hrow
        split at h
        · rename_i hfit
          injection h with h; subst h
          obtain ⟨g, hK, rfl⟩ := VR.ovar_inv hv
          rcases hs.own b blk hb with ⟨k1, k2⟩ | ⟨g', k1, hblk⟩
          · rw [show blkOf K b = none from by simp [blkOf, k1]] at hK; cases hK
          · have hlt := hs.live_lt (by simp [hb]) hK
            have hng := hnl hm (by simp [hb]) hK
            rw [blkOf_of k1] at hK; injection hK with hK; subst hK
            have hrr := hblk.row (by rw [hkd]; simp) (hs.rows b blk hb) (i := 0) (row := row) (by rw [hrow]; rfl)
            simp only [Nat.zero_mul] at hrr
            obtain ⟨cs, c1, c2, c3, c4⟩ := hrr.list
            have := VR.rptr (w := w) (X := Live K O) (K := K) (xs := row) (off := off) (g := g') (o := 0) (cs := cs) c1 c3 hlt hng c2
              (fun j u x hu hx => scalar_sound (allFit_get hfit hu) (c4 j u x hu hx) _ _)
            simpa using this
        · cases h
      · cases h
    · cases h
  · split at h
    · injection h with h; subst h
      exact hv.sub fun g _ hg => hlive g hg
    · cases h
theorem viewsS_sound (hs : SRK E K c a w) {O : List (Nat × OBlk)} (hO : ∀ b x, olk O b = some x → olk c.O b = some x) {ps : List Nat} : ∀ {us us' : List AV} {i : Nat}, viewsS (olk c.O) ps (idsOf O) i us = some us' → us'.length = us.length ∧ ∀ (j : Nat) u' v, us'[j]? = some u' → (∀ u, us[j]? = some u → VR w (XX E K c.O) K u v) → VR w (Live K O) K u' v
  | [], us', i, h => by simp [viewsS] at h; subst h; simp
  | x :: xs, us', i, h => by
    have hlive : ∀ g, Live K O g → XX E K c.O g := by
      rintro g ⟨b, hb, hk⟩
      obtain ⟨x, hx⟩ := Option.isSome_iff_exists.1 hb
      exact .inl ⟨b, by simp [hO b x hx], hk⟩
    simp only [viewsS] at h
    split at h
    · rename_i ys hm hys
      injection h with h; subst h
      obtain ⟨h1, h2⟩ := viewsS_sound hs hO hys
      refine ⟨by simp [h1], fun j u' v hj hv => ?_⟩
      cases j with
      | zero => simp at hj; subst hj; exact (hv x (by simp)).sub fun g _ hg => hlive g hg
      | succ j => exact h2 j u' v (by simpa using hj) fun u hu => hv u (by simpa using hu)
    · rename_i ys hm hys
      split at h
      · rename_i y hy
        injection h with h; subst h
        obtain ⟨h1, h2⟩ := viewsS_sound hs hO hys
        refine ⟨by simp [h1], fun j u' v hj hv => ?_⟩
        cases j with
        | zero => simp at hj; subst hj; exact viewS_sound hs hO hy (hv x (by simp))
        | succ j => exact h2 j u' v (by simpa using hj) fun u hu => hv u (by simpa using hu)
      · cases h
    · cases h
/-- no operand of the call hangs on a guard -/
theorem viewsS_noopt {own : Nat → Option OBlk} {ps bs : List Nat} : ∀ {us us' : List AV} {i : Nat} {O : List (Nat × OBlk)}, handAll own ps i us = some O → viewsS own ps bs i us = some us' → ∀ (j : Nat) u, us[j]? = some u → ∀ d want u', u ≠ .opt d want u'
  | [], us', i, O, _, h, j, u, hu => by simp at hu
  | x :: xs, us', i, O, hA, h, j, u, hu => by
    intro d want u' e
    simp only [viewsS] at h
    simp only [handAll] at hA
    split at h
    · rename_i ys hm hys
      rw [hm] at hA
      simp only at hA
      split at hA
      · rename_i l m h1 h2
        cases j with
        | zero => simp at hu; subst hu e; rw [handOne_opt] at h1; cases h1
        | succ j => exact viewsS_noopt h2 hys j u (by simpa using hu) d want u' e
      · cases hA
    · rename_i ys hm hys
      rw [hm] at hA
      simp only at hA
      split at h
      · rename_i y hy
        cases j with
        | zero => simp at hu; subst hu e; simp [viewS, AV.idless] at hy
        | succ j => exact viewsS_noopt hA hys j u (by simpa using hu) d want u' e
      · cases h
    · cases h
theorem sameO_some : ∀ {O O' : List (Nat × OBlk)}, sameO O O' = true → ∀ b, (olk O' b).isSome = true ↔ (olk O b).isSome = true
  | [], [], _, b => Iff.rfl
  | (i, x) :: r, (i', y) :: r', h, b => by
    simp only [sameO, Bool.and_eq_true] at h
    have e := beq_true h.1.1
    subst e
    rw [olk_cons, olk_cons]
    by_cases hb : i = b
    · simp [hb]
    · simp only [if_neg hb]; exact sameO_some h.2 b
theorem okO_get : ∀ {O : List (Nat × OBlk)}, okO O = true → ∀ b x, olk O b = some x → okBlk x = true
  | (i, x) :: r, h, b, y, hb => by
    simp only [okO, Bool.and_eq_true] at h
    rw [olk_cons] at hb
    by_cases e : i = b
    · rw [if_pos e] at hb; injection hb with hb; subst hb; exact h.1
    · rw [if_neg e] at hb; exact okO_get h.2 b y hb
theorem okCell_any {u : AV} {v : Value} {X X' : Nat → Prop} (hu : okCell u = true) (h : VR w X K u v) : VR w X' K u v := by
  cases h with
  | osl h1 h2 h3 h4 h5 h6 => exact .osl h1 h2 h3 h4 h5 h6
  | oslnil h1 => exact .oslnil h1
  | ovar h1 => exact .ovar h1
  | omap h1 => exact .omap h1
  | bool => exact .bool
  | int => exact .int
  | str => exact .str
  | nilsl => exact .nilsl
  | nilfn => exact .nilfn
  | _ => simp [okCell, AV.scalar] at hu
theorem HoldsObj.anyX {g : Nat} {blk : OBlk} {cur : Array Value} {X X' : Nat → Prop} (h : HoldsObj w X g blk cur) (hk : ∀ ag st, blk.kd = .map ag st → blk.ents.all (·.all AV.scalar) = true) : HoldsObj w X' g blk cur := by
  cases hkd : blk.kd with
  | map ag st =>
    have hk := hk ag st hkd
    unfold HoldsObj at h ⊢
    rw [hkd] at h ⊢
    obtain ⟨h1, h0, es, hm⟩ := h
    refine ⟨h1, h0, es, hm.obj, hm.born, hm.agg, hm.key, hm.size, fun i row e hi he => ?_⟩
    obtain ⟨q1, q2, q3, q4, q5⟩ := hm.ent i row e hi he
    exact ⟨q1, q2, q3, q4, fun j u c hu' hc' => scalar_sound (List.all_eq_true.1 (List.all_eq_true.1 hk row (List.mem_of_getElem? hi)) u (List.mem_of_getElem? hu')) (q5 j u c hu' hc') _ _⟩
  | _ => exact HoldsObj.mk (by rw [hkd]; simp) (h.cells (by rw [hkd]; simp))
theorem okBlk_any {g : Nat} {blk : OBlk} {X X' : Nat → Prop} (hk : okBlk blk = true) (h : BlkR w X K g blk) : BlkR w X' K g blk := by
  obtain ⟨cur, hc, hu⟩ := h
  unfold okBlk at hk
  refine ⟨cur, hc.anyX fun ag st h => ?_, fun j u hj => ?_⟩
  · rw [h] at hk; exact hk
  obtain ⟨y, hy, h1, hv⟩ := hu j u hj
  refine ⟨y, hy, h1, ?_⟩
  cases hkd : blk.kd with
  | pure => rw [hkd] at hv; exact hv
  | flat => rw [hkd] at hk; cases hk
  | any =>
    rw [hkd] at hk hv
    have hmem := List.mem_of_getElem? hj
    obtain ⟨row, hr, hur⟩ := List.mem_flatten.1 hmem
    have := List.all_eq_true.1 (List.all_eq_true.1 hk row hr) u hur
    exact okCell_any this hv
  | map ag st =>
    exfalso
    unfold HoldsObj at hc
    rw [hkd] at hc
    rw [hc.2.1] at hj; simp at hj
theorem SRK.writeS {w' : World} {O O' : List (Nat × OBlk)} (h : SRK E K c a w) (hO : ∀ b x, olk O b = some x → olk c.O b = some x) (hsame : ∀ b, (olk O' b).isSome = true ↔ (olk O b).isSome = true)
    (hst : Step (Live K O) w w') (hown : OwnR w' (Live K O) K O') (hok : ∀ b x, olk O' b = some x → okBlk x = true) : SRK E K ⟨c.fr, setD O' c.O⟩ a w' := by
  have hlive : ∀ g, Live K O g → ∃ b, (olk c.O b).isSome = true ∧ blkOf K b = some g := by
    rintro g ⟨b, hb, hk⟩
    obtain ⟨x, hx⟩ := Option.isSome_iff_exists.1 hb
    exact ⟨b, by simp [hO b x hx], hk⟩
  have hsome : ∀ i, (olk (setD O' c.O) i).isSome = true → (olk c.O i).isSome = true := by
    intro i hi
    rw [olk_setDS] at hi
    cases h1 : olk O' i with
    | none => rw [h1] at hi; exact hi
    | some x =>
      obtain ⟨y, hy⟩ := Option.isSome_iff_exists.1 ((hsame i).1 (by simp [h1]))
      simp [hO i y hy]
  have hX : ∀ r, XX E K (setD O' c.O) r → XX E K c.O r := by
    rintro r (⟨i, hi, hk⟩ | hx)
    · exact .inl ⟨i, hsome i hi, hk⟩
    · exact .inr hx
  have hkeep : Keep (XX E K c.O) w w' := hst.keep.mono fun r _ hr => .inl (hlive r hr)
  refine ⟨h.size, h.defers, h.ext.step hst (fun r hr => by obtain ⟨b, hb, hk⟩ := hlive r hr; exact h.mine b r hb hk), fun t => (h.fr t).keep hkeep (fun r _ => hX r) fun i hi => rfl, fun i x hi => ?_, fun i x hi => ?_,
    fun i i' r h1 h2 k1 k2 => h.inj i i' r (hsome i h1) (hsome i' h2) k1 k2, fun i r h1 k1 => h.mine i r (hsome i h1) k1, h.pin⟩
  · simp only [olk_setDS] at hi
    cases h1 : olk O' i with
    | none => rw [h1] at hi; exact h.rows i x hi
    | some y => rw [h1] at hi; injection hi with hi; subst hi; exact hown.rows i y h1
  · simp only [olk_setDS] at hi
    cases h1 : olk O' i with
    | none =>
      rw [h1] at hi
      rcases h.own i x hi with h2 | ⟨r, h2, h3⟩
      · exact .inl h2
      · refine .inr ⟨r, h2, h3.keep (hst.keep.block r (h.live_lt (by simp [hi]) (blkOf_of h2)) fun hr => ?_) hkeep (fun r _ => hX r) (fun _ _ _ _ _ _ => rfl)⟩
        obtain ⟨b, hb, hk⟩ := hr
        obtain ⟨y, hy⟩ := Option.isSome_iff_exists.1 hb
        have := h.inj b i r (by simp [hO b y hy]) (by simp [hi]) hk (blkOf_of h2)
        subst this
        have := (hsame b).2 hb
        rw [h1] at this; cases this
    | some y =>
      rw [h1] at hi; injection hi with hi; subst hi
      rcases hown.own i y h1 with h2 | ⟨r, h2, h3⟩
      · exact .inl h2
      · exact .inr ⟨r, h2, okBlk_any (hok i y h1) h3⟩
theorem scalR_any {u : AV} {v : Value} {X X' : Nat → Prop} {K' : KM} (hu : scalR u = true) (h : VR w X K u v) : VR w X' K' u v := by
  unfold scalR at hu
  split at hu
  · rename_i xs
    obtain ⟨vs, rfl, hl, hv⟩ := VR.tup_inv h
    refine .tup hl fun j u c hu' hc => ?_
    have hx : ∀ {xs : List AV} {j : Nat} {u : AV}, AV.xfreeL xs = true → xs[j]? = some u → u.scalar = true := by
      intro xs
      induction xs with
      | nil => intro j u _ hj; simp at hj
      | cons y ys ih =>
        intro j u hx hj
        simp only [AV.xfreeL, Bool.and_eq_true] at hx
        cases j with
        | zero => simp at hj; subst hj; exact hx.1
        | succ j => exact ih hx.2 (by simpa using hj)
    exact scalar_sound (hx hu hu') (hv j u c hu' hc) _ _
  · exact scalar_sound hu h _ _
theorem s_callS (hs : SRK E K c a w) (hval : Vals E K c a w val) {f : Operand} {args : Array Operand} {ts : Array TypeId} (ho : o.op = .call { callee := .value f, args := args, argTypes := ts })
    (h : (callSA (olk c.O) (val f) (args.toList.map val)).holds P (· = r)) : o.wp P a w (OpPost E c r a o.dst) NoQ := by
  unfold callSA at h
  split at h
  · rename_i g caps hvf
    split at h
    · rename_i O hA
      split at h
      · rename_i us hV
        obtain ⟨O', x, ⟨⟨fn, hfn, hname, hbody⟩, hfun⟩, h⟩ := h
        dsimp only at h
        split at h
        · rename_i hok
          simp only [Bool.and_eq_true] at hok
          have hr : _ = r := h
          have hO := handAll_own hA
          obtain ⟨cv, ef, cl, cvv⟩ := VR.func_inv (hval.at hvf)
          obtain ⟨ml, mv⟩ := map_vals hval args
          obtain ⟨v1, v2⟩ := viewsS_sound hs hO hV
          have hno := viewsS_noopt hA hV
          have hall : ∀ (j : Nat) u v, (args.toList.map val ++ caps)[j]? = some u → (args.map a.eval ++ cv)[j]? = some v → VR w (XX E K c.O) K u v := by
            intro j u v hu hv
            have hnu := hno j u hu
            have hasl : (args.toList.map val).length = (args.map a.eval).size := by simp
            rcases Nat.lt_or_ge j (args.toList.map val).length with hlt | hge
            · rw [List.getElem?_append_left hlt] at hu
              rw [Array.getElem?_append_left (by omega)] at hv
              exact FV.vr (mv j u v hu (by simpa using hv)) hnu
            · rw [List.getElem?_append_right hge] at hu
              rw [Array.getElem?_append_right (by omega)] at hv
              rw [hasl] at hu
              exact cvv _ u v hu hv
          have hsize : us.length = (args.map a.eval ++ cv).size := by
            rw [v1]; simp [cl]
          have hargs : ∀ (j : Nat) u v, us[j]? = some u → (args.map a.eval ++ cv)[j]? = some v → VR w (Live K O) K u v := fun j u v hu hv => v2 j u v hu fun u0 hu0 => hall j u0 v hu0 hv
          have hlive : ∀ g, Live K O g → ∃ b, (olk c.O b).isSome = true ∧ blkOf K b = some g := by
            rintro g ⟨b, hb, hk⟩
            obtain ⟨x, hx⟩ := Option.isSome_iff_exists.1 hb
            exact ⟨b, by simp [hO b x hx], hk⟩
          have hownR : OwnR w (Live K O) K O := by
            refine ⟨fun b blk hb => hs.rows b blk (hO b blk hb), fun b blk hb => ?_, fun b b' g h1 h2 k1 k2 => ?_⟩
            · rcases hs.own b blk (hO b blk hb) with h2 | ⟨g', h2, h3⟩
              · exact .inl h2
              · exact .inr ⟨g', h2, h3.keep rfl (Keep.refl _ _) (fun g _ hg => .inl (hlive g hg)) (fun _ _ _ _ _ _ => rfl)⟩
            · obtain ⟨y, hy⟩ := Option.isSome_iff_exists.1 h1
              obtain ⟨y', hy'⟩ := Option.isSome_iff_exists.1 h2
              exact hs.inj b b' g (by simp [hO b y hy]) (by simp [hO b' y' hy']) k1 k2
          have hwi : ∀ w', Ext (Live K O) w w' → WI w' := by
            intro w' hx
            refine E.hwi _ ⟨hx.os.trans hs.ext.os, hx.tape.trans hs.ext.tape, hx.output.trans hs.ext.output, Nat.le_trans hs.ext.size hx.size, fun g hg hX => ?_, fun g cur e hc => ?_⟩
            · rw [hx.block g (Nat.lt_of_lt_of_le hg hs.ext.size) fun ho => ?_]
              · exact hs.ext.block g hg hX
              · obtain ⟨b, hb, hk⟩ := hlive g ho
                rcases hs.mine b g hb hk with h | h
                · exact hX h
                · omega
            · obtain ⟨c1, h1, s1⟩ := hs.ext.shape g cur e hc
              obtain ⟨c2, h2, s2⟩ := hx.shape g c1 e h1
              exact ⟨c2, h2, s2.trans s1⟩
          unfold Oper.wp
          have hrun : (execOp a.eval o).run P w = .ok (.enter g (args.map a.eval ++ cv)) w := by
            simp only [execOp, ho, resolve, ef, Deferred.ofValue, Sem.run_bind, Sem.run_pure, Result.andThen_ok, invoke, callFunc, run_program]
            simp [hfn, hname, hbody]
          rw [hrun, Oper.upon_enter]
          refine (hfun w K _ hwi hownR hsize hargs).mono ?_
          rintro e w1 ⟨v, rfl, hrr, hown', hext⟩
          have hst : Step (Live K O) w w1 := ⟨⟨hext.size, hext.block, hext.shape⟩, hext.os, hext.tape, hext.output⟩
          have hs2 := hs.writeS hO (sameO_some hok.1.1) hst hown' (okO_get hok.1.2)
          subst hr
          exact ⟨K, v, rfl, hs2, scalR_any hok.2 hrr⟩
        · exact h.elim
      · exact h.elim
    · exact h.elim
  · exact h.elim
end
end Go.Abs
