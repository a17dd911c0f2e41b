import Derived.Test.YtjpcpnakcapojaaA2
import Derived.Orders
import Derived.Deep.LoopGhost
import Derived.Deep.Slices
import Derived.ProofKit
import Derived.OpenShut
import Derived.Below
import Derived.ChangeOld
namespace Go.Abs
section
open Go.RowKit
set_option linter.unusedVariables false

def TabOne (T : Tab) : Bool := T.all fun p => oneCells p.2.zero && (p.2.zero.cells.size == p.2.size)
theorem TabOne.get : ∀ {T : Tab} {t : Nat} {i : TyI}, TabOne T = true → T.get t = some i → oneCells i.zero = true ∧ i.zero.cells.size = i.size
  | [], _, _, _, h => by simp [Tab.get] at h
  | (s, x) :: r, t, i, ho, h => by
    simp only [TabOne, List.all_cons, Bool.and_eq_true] at ho
    unfold Tab.get at h
    split at h
    · injection h with h; subst h; exact ⟨ho.1.1, by simpa using ho.1.2⟩
    · exact TabOne.get (T := r) (by simpa [TabOne] using ho.2) h

section
variable {P : Program} {T : Tab} {E : Env} {K : KM} {c : Cfg} {a : Act} {w : World} {o : Oper} {r : Res} {val : Operand → AV} {X : Nat → Prop}

theorem evOp_sound {dr : Bool} (hT : TabOK P T) (h1 : TabOne T = true) (hs : SRK E K c a w) (hval : Vals E K c a w val) (hhas : ∀ x b, fresh b c = true → (val x).has b = false) (hf : freshD c r.nw r.D = true)
    (h : (evOp dr T val (olk c.O) o).holds P (· = r)) : o.wp P a w (OpPost E c r a o.dst) NoQ := by
  unfold evOp at h
  split at h
  · exact s_move hs hval (.inl ‹_›) h
  · exact s_move hs hval (.inr ‹_›) h
  · rename_i x y z ho
    unfold pickA at h
    split at h
    · exact s_and hs hval ho h
    · exact s_or hs hval ho h
    · exact h.elim
  · exact s_alloc hT hs ‹_› (fun i hi => (TabOne.get h1 hi).1) hf h
  · exact s_box hT hs hval hhas ‹_› hf h
  · exact s_load hT hs hval ‹_› h
  · exact s_store hT hs hval ‹_› h
  · exact s_bin hT hs hval ‹_› h
  · exact s_not hs hval ‹_› h
  · exact s_neg hs hval ‹_› h
  · exact s_convert hT hs hval ‹_› h
  · rename_i f first caps ho
    split at h
    · rename_i hl
      have : first = #[] := by cases first; simp at hl; subst hl; rfl
      subst this
      exact s_makeFunc hs hval ho h
    · exact h.elim
  · exact s_fieldAddr hT hs hval ‹_› h
  · exact s_field hT hs hval ‹_› h
  · exact s_indexAddr hT hs hval ‹_› h
  · exact s_extract hs hval ‹_› h
  · exact s_build hT (fun t i hi => (TabOne.get h1 hi).1) hs hval ‹_› h
  · exact s_buildSlice hT (fun t i hi => (TabOne.get h1 hi).1) hs hval hhas ‹_› hf h
  · exact s_makeSlice hT (fun t i hi => (TabOne.get h1 hi).1) hs hval ‹_› hf h
  · exact s_index hT hs hval ‹_› h
  · split at h
    · exact s_sliceS hT hs hval ‹_› ‹_› h
    · split at h
      · exact s_cut hT hs hval ‹_› h
      · exact s_slice hT hs hval ‹_› h
  · exact s_cut3 hT hs hval ‹_› h
  · rename_i cl ho
    obtain ⟨callee, args, ts⟩ := cl
    unfold callA at h
    split at h
    · rename_i hc
      split at h
      · rename_i vx t hx ht
        simp only at hc hx ht
        subst hc
        obtain ⟨x, hx1, hx2⟩ : ∃ x, args.toList = [x] ∧ val x = vx := by
          cases hl : args.toList with
          | nil => rw [hl] at hx; cases hx
          | cons x xs =>
            rw [hl] at hx
            cases xs with
            | nil => injection hx with hx _; exact ⟨x, rfl, hx⟩
            | cons y ys => injection hx with _ hx; cases hx
        subst hx2
        have hx := hx1
        have e1 : args = #[x] := by cases args; simp at hx; subst hx; rfl
        have e2 : ts = #[t] := by cases ts; simp at ht; subst ht; rfl
        subst e1 e2
        exact s_len hT hs hval ho h
      · exact h.elim
    · rename_i hc
      split at h
      · rename_i vs vx t t' hx ht
        simp only at hc hx ht
        subst hc
        obtain ⟨s, x, hx1, hs2, hx2⟩ : ∃ s x, args.toList = [s, x] ∧ val s = vs ∧ val x = vx := by
          cases hl : args.toList with
          | nil => rw [hl] at hx; cases hx
          | cons s xs =>
            rw [hl] at hx
            cases xs with
            | nil => injection hx with _ hx; cases hx
            | cons x ys =>
              injection hx with h1 hx
              injection hx with h2 hx
              cases ys with
              | nil => exact ⟨s, x, rfl, h1, h2⟩
              | cons z zs => cases hx
        subst hs2 hx2
        have hx := hx1
        have e1 : args = #[s, x] := by cases args; simp at hx; subst hx; rfl
        have e2 : ts = #[t, t'] := by cases ts; simp at ht; subst ht; rfl
        subst e1 e2
        split at h
        · rename_i ht
          have := beq_true ht
          subst this
          split at h
          · exact s_appSelf hT hs hval ho h
          · exact s_append hT (fun t i hi => TabOne.get h1 hi) hs hval ho hf h
        · exact h.elim
      · exact h.elim
    · rename_i hc
      split at h
      · rename_i vx t hx ht
        simp only at hc hx ht
        subst hc
        obtain ⟨x, hx1, hx2⟩ : ∃ x, args.toList = [x] ∧ val x = vx := by
          cases hl : args.toList with
          | nil => rw [hl] at hx; cases hx
          | cons x xs =>
            rw [hl] at hx
            cases xs with
            | nil => injection hx with hx _; exact ⟨x, rfl, hx⟩
            | cons y ys => injection hx with _ hx; cases hx
        subst hx2
        have hx := hx1
        have e1 : args = #[x] := by cases args; simp at hx; subst hx; rfl
        have e2 : ts = #[t] := by cases ts; simp at ht; subst ht; rfl
        subst e1 e2
        exact s_clear hT (fun t i hi => TabOne.get h1 hi) hs hval ho h
      · exact h.elim
    · rename_i hc
      split at h
      · rename_i vs vx t t' hx ht
        simp only at hc hx ht
        subst hc
        obtain ⟨s, x, hx1, hs2, hx2⟩ : ∃ s x, args.toList = [s, x] ∧ val s = vs ∧ val x = vx := by
          cases hl : args.toList with
          | nil => rw [hl] at hx; cases hx
          | cons s xs =>
            rw [hl] at hx
            cases xs with
            | nil => injection hx with _ hx; cases hx
            | cons x ys =>
              injection hx with h1 hx
              injection hx with h2 hx
              cases ys with
              | nil => exact ⟨s, x, rfl, h1, h2⟩
              | cons z zs => cases hx
        subst hs2 hx2
        have hx := hx1
        have e1 : args = #[s, x] := by cases args; simp at hx; subst hx; rfl
        have e2 : ts = #[t, t'] := by cases ts; simp at ht; subst ht; rfl
        subst e1 e2
        split at h
        · rename_i ht
          have := beq_true ht
          subst this
          exact s_copy hT hs hval ho h
        · exact h.elim
      · exact h.elim
    · rename_i hc; simp only at hc; subst hc; exact s_min hs hval ho h
    · rename_i hc; simp only at hc; subst hc; exact s_max hs hval ho h
    · rename_i hc; simp only at hc; subst hc
      split at h
      · exact s_callS hs hval ho h
      · split at h
        · exact s_callM hs hval ho hf h
        · exact s_call hs hval ho hf h
    · exact h.elim
  · exact h.elim
end
end
end Go.Abs
namespace Go.Abs
section
open Go.RowKit
set_option linter.unusedVariables false

section
variable {P : Program} {T : Tab} {E : Env} {K : KM} {c : Cfg} {a : Act} {w : World} {o : Oper} {r : Res} {X : Nat → Prop} {ops : Array Oper} {dm : List (Nat × Bool)} {N : Nat} {dr : Bool}

theorem opv_vals (hs : SRK E K c a w) : Vals E K c a w (opv c) := by
  intro x
  cases x with
  | tmp t => exact hs.fr t
  | const v =>
    simp only [opv]
    cases h : oneCells v
    · exact FV.top
    · exact FV.of (ofVal_sound _ _ _ v h)
  | global g => exact FV.top
  | func f => exact FV.of (.func (by simp) (by simp))
theorem opv_has {b : Nat} (hf : fresh b c = true) (x : Operand) : (opv c x).has b = false := by
  cases x with
  | tmp t => exact (fresh_of hf).2.1 t
  | const v =>
    simp only [opv]
    cases h : oneCells v
    · rfl
    · exact has_idless b _ (ofVal_idless v)
  | global g => rfl
  | func f => rfl
theorem strip_fv {u : AV} {v : Value} {d : Nat} {want : Bool} {tm : Array Value} (h : FV w X K tm u v) (hd : tm.getD d undef = .bool want) : FV w X K tm (u.strip d want) v := by
  cases u with
  | opt d' w' u' =>
    unfold AV.strip
    simp only
    split
    · rename_i h1
      have := beq_true h1; subst this
      rcases h with ⟨_, h⟩ | ⟨h, _⟩
      · exact FV.of h
      · exact absurd hd h
    · rename_i h1
      have := beq_true h1; subst this
      rcases h with ⟨_, h⟩ | ⟨h, _⟩
      · exact FV.of h
      · exact absurd hd h
    · exact h
  | _ => exact h
theorem strip_has {b d : Nat} {want : Bool} {u : AV} (h : u.has b = false) : (u.strip d want).has b = false := by
  cases u with
  | opt d' w' u' =>
    unfold AV.strip
    simp only
    split
    · simpa [AV.has] using h
    · simpa [AV.has] using h
    · exact h
  | _ => exact h
theorem opg_has {b d : Nat} {want : Bool} (hf : fresh b c = true) (x : Operand) : (opg c d want x).has b = false := by
  unfold opg
  split
  · exact strip_has (strip_has (opv_has hf x))
  · exact strip_has (opv_has hf x)
theorem opg_vals (hs : SRK E K c a w) {d : Nat} {want : Bool} (hd : a.tmps.getD d undef = .bool want) : Vals E K c a w (opg c d want) := by
  intro x
  have h0 := strip_fv (opv_vals hs x) hd
  unfold opg
  split
  · rename_i d1 w1 u1 hl
    have hf := hs.fr d
    rw [hl] at hf
    rcases hf with ⟨h1, _⟩ | ⟨_, h2⟩
    · exact strip_fv h0 h1
    · rw [hd] at h2; simp [undef] at h2
  · exact h0

theorem wp_weaken {K1 K2 : Act → World → Prop} {Q : Exit → Act → World → Prop} (h : o.wp P a w K1 NoQ) (hk : ∀ a w, K1 a w → K2 a w) : o.wp P a w K2 Q := by
  unfold Oper.wp at *
  generalize (execOp a.eval o).run P w = res at *
  cases res with
  | ok n w' =>
    cases n <;> simp only [Oper.upon] at h ⊢ <;>
      first
        | exact hk _ _ h
        | exact Calls.mono h (fun e w'' he => by
            cases e with
            | returned v => exact hk _ _ he
            | panicked ch => exact he.elim
            | outgrown => obtain ⟨_, _, he⟩ := he; exact he.elim)
        | exact Rows.mono h (fun _ _ he => hk _ _ he)
  | halt x w' => cases x <;> simp only [Oper.upon] at h ⊢ <;> exact h.elim

/-- ONE OPERATION's evaluation, and what it comes to. -/
inductive StepOK (dr : Bool) (P : Program) (T : Tab) (N : Nat) (ops : Array Oper) (o : Oper) (c : Cfg) : Res → Prop
  | run {r : Res} : o.guard = none → dstOK N c o.dst = true → (evOp dr T (opv c) (olk c.O) o).holds P (· = r) → freshD c r.nw r.D = true → notOpt r.v = true → StepOK dr P T N ops o c r
  | yes {j d : Nat} {want : Bool} {r : Res} : o.guard = some (j, want) → gslot ops j = some d → lk c.fr d = .bool want → dstOK N c o.dst = true → (evOp dr T (opv c) (olk c.O) o).holds P (· = r) → freshD c r.nw r.D = true → notOpt r.v = true → StepOK dr P T N ops o c r
  | skip {j d : Nat} {want b : Bool} : o.guard = some (j, want) → gslot ops j = some d → lk c.fr d = .bool b → b ≠ want → dstOK N c o.dst = true → StepOK dr P T N ops o c { v := .und }
  | dead {j d : Nat} {want : Bool} : o.guard = some (j, want) → gslot ops j = some d → lk c.fr d = .und → dstOK N c o.dst = true → StepOK dr P T N ops o c { v := .und }
  | spec {j d : Nat} {want : Bool} {r : Res} : o.guard = some (j, want) → gslot ops j = some d → isB (lk c.fr d) = true → neD d o.dst = true → dstOK N c o.dst = true → (evOp dr T (opg c d want) (olk c.O) o).holds P (· = r) → r.D = [] → r.pg = none →
      StepOK dr P T N ops o c { v := wrapOpt d want r.v }

theorem eqB_true {a b : Bool} (h : eqB a b = true) : a = b := by cases a <;> cases b <;> first | rfl | cases h
theorem eqB_false {a b : Bool} (h : eqB a b = false) : a ≠ b := by cases a <;> cases b <;> first | (intro e; cases e; done) | cases h
theorem isLit_of {u : AV} {b : Bool} (h : isLit u b = true) : u = .bool b := by
  cases u <;> simp only [isLit] at h <;> first | (cases h; done) | skip
  rw [eqB_true h]

theorem evOps_cons {A : Acc} {i : Nat} {rest : List Oper} {Kk : Cfg → Prop} (h : evOps dr P T N dm ops A i (o :: rest) c Kk) : ∃ r, StepOK dr P T N ops o c r ∧ drOK dr ops A r.nw i (mkRec o c r.D r.pg r.v) = true ∧ evOps dr P T N dm ops (A.push i (mkRec o c r.D r.pg r.v)) (i + 1) rest (c.app o.dst r) Kk := by
  unfold evOps at h
  split at h
  · exact h.elim
  · rename_i hd
    split at h
    · rename_i hg
      obtain ⟨r, h1, h2⟩ := holds_get h
      rw [Res.withK_iff] at h2
      split at h2
      · rename_i hf
        rw [Bool.and_eq_true, Bool.and_eq_true] at hf
        have h3 := told_of h2
        rw [Cfg.appK_iff] at h3
        exact ⟨r, .run hg hd h1 hf.1.1 hf.2, hf.1.2, h3⟩
      · exact h2.elim
    · rename_i j want hg
      split at h
      · exact h.elim
      · rename_i d hgs
        split at h
        · rename_i b hb
          split at h
          · rename_i he
            have he := eqB_true he
            split at h
            · rename_i hl
              obtain ⟨r, h1, h2⟩ := holds_get h
              rw [Res.withK_iff] at h2
              split at h2
              · rename_i hf
                rw [Bool.and_eq_true, Bool.and_eq_true] at hf
                have h3 := told_of h2
                rw [Cfg.appK_iff] at h3
                refine ⟨r, .yes hg hgs ?_ hd h1 hf.1.1 hf.2, hf.1.2, h3⟩
                rw [isLit_of hl, he]
              · exact h2.elim
            · exact h.elim
          · rename_i he
            have he := eqB_false he
            split at h
            · rename_i hl
              split at h
              · rename_i hdr
                rw [Cfg.appK_iff] at h
                exact ⟨_, .skip hg hgs (isLit_of hl) he hd, hdr, h⟩
              · exact h.elim
            · exact h.elim
        · split at h
          · rename_i hu
            have hu : lk c.fr d = .und := by
              revert hu
              cases lk c.fr d <;> intro hu <;> first | rfl | (cases hu; done)
            split at h
            · rename_i hdr
              rw [Cfg.appK_iff] at h
              exact ⟨_, .dead hg hgs hu hd, hdr, h⟩
            · exact h.elim
          · split at h
            · rename_i hb
              rw [Bool.and_eq_true] at hb
              obtain ⟨r, h1, h2⟩ := holds_get h
              rw [Res.withK_iff] at h2
              split at h2
              · rename_i hD hpg
                rw [AV.force_iff] at h2
                split at h2
                · rename_i hdr
                  rw [Cfg.appK_iff] at h2
                  exact ⟨_, .spec hg hgs hb.1 hb.2 hd h1 hD hpg, hdr, h2⟩
                · exact h2.elim
              · exact h2.elim
            · exact h.elim

theorem noOpt_purge {d b : Nat} : ∀ {fr : List (Nat × AV)}, noOpt d fr = true → noOpt d (purgeF b fr) = true
  | [], _ => rfl
  | (t, v) :: r, h => by
    have hr : noOpt d r = true := by
      unfold noOpt at h
      cases v <;> simp only at h <;> first | exact h | skip
      split at h
      · cases h
      · exact h
    have ih := noOpt_purge (b := b) hr
    unfold purgeF
    cases hv : v.has b
    · simp only
      unfold noOpt at h ⊢
      cases v <;> simp only at h ⊢ <;> first | exact ih | skip
      split at h
      · cases h
      · exact ih
    · simp only; unfold noOpt; exact ih
theorem dstOK_eff {dst : Option Nat} (r : Res) (h : dstOK N c dst = true) : dstOK N (c.eff r) dst = true := by
  cases dst with
  | none => rfl
  | some d =>
    simp only [dstOK, Bool.and_eq_true] at h ⊢
    refine ⟨h.1, ?_⟩
    unfold Cfg.eff
    split
    · exact h.2
    · exact noOpt_purge h.2
    · exact h.2

theorem yielded_iff {j d : Nat} {want : Bool} (hg : gslot ops j = some d) (tm : Array Value) : (yielded ops tm j == some want) = true ↔ tm.getD d undef = .bool want := by
  unfold gslot at hg
  unfold yielded
  rw [hg]
  simp only [Option.bind_some, Array.getD_eq_getD_getElem?]
  cases h : tm[d]? with
  | none => simp [undef]
  | some v => cases v <;> simp

theorem post_sr (hN : E.N = N) (hd : dstOK N c o.dst = true) {a' : Act} {w' : World} (h : OpPost E c r a o.dst a' w') : SR E (c.app o.dst r) a' w' := by
  obtain ⟨K', vv, rfl, hs', hv⟩ := h
  rw [Cfg.app_eq]
  refine ⟨K', hs'.put (by rw [hN]; exact dstOK_eff r hd) fun d _ => FV.of hv⟩

theorem step_sound (hT : TabOK P T) (h1 : TabOne T = true) (hN : E.N = N) {i : Nat} {Q : Exit → Act → World → Prop} (ho : ops[i]? = some o) (h : StepOK dr P T N ops o c r) (hs : SR E c a w) :
    wpOp P ops Q i (fun a' w' => SR E (c.app o.dst r) a' w') a w := by
  obtain ⟨K, hs⟩ := hs
  unfold wpOp
  rw [ho]
  simp only
  cases h with
  | run hg hd hh hf hno =>
    have hw : Region.wanted o (yielded ops a.tmps) = true := by simp [Region.wanted, hg]
    rw [if_pos hw]
    exact .inl (wp_weaken (evOp_sound hT h1 hs (opv_vals hs) (fun x b hb => opv_has hb x) hf hh) fun a' w' => post_sr hN hd)
  | yes hg hgs hl hd hh hf hno =>
    rename_i j d want
    have htm : a.tmps.getD d undef = .bool want := VR.bool_inv (by have := hs.fr d; rw [hl] at this; exact this)
    have hw : Region.wanted o (yielded ops a.tmps) = true := by
      simp only [Region.wanted, hg]
      exact (yielded_iff hgs _).2 htm
    rw [if_pos hw]
    exact .inl (wp_weaken (evOp_sound hT h1 hs (opv_vals hs) (fun x b hb => opv_has hb x) hf hh) fun a' w' => post_sr hN hd)
  | skip hg hgs hl hne hd =>
    rename_i j d want b
    have htm : a.tmps.getD d undef = .bool b := VR.bool_inv (by have := hs.fr d; rw [hl] at this; exact this)
    have hw : ¬ Region.wanted o (yielded ops a.tmps) = true := by
      simp only [Region.wanted, hg]
      rw [yielded_iff hgs, htm]
      intro e; injection e with e; exact hne e
    rw [if_neg hw]
    refine ⟨K, ?_⟩
    have := hs.put (dst := o.dst) (u := .und) (v := undef) (by rw [hN]; exact hd) fun d _ => FV.of .und
    exact this
  | dead hg hgs hl hd =>
    rename_i j d want
    have htm : a.tmps.getD d undef = undef := VR.und_inv (by have := hs.fr d; rw [hl] at this; exact this)
    have hw : ¬ Region.wanted o (yielded ops a.tmps) = true := by
      simp only [Region.wanted, hg]
      rw [yielded_iff hgs, htm]
      simp [undef]
    rw [if_neg hw]
    refine ⟨K, ?_⟩
    have := hs.put (dst := o.dst) (u := .und) (v := undef) (by rw [hN]; exact hd) fun d _ => FV.of .und
    exact this
  | spec hg hgs hb hne hd hh hD hpg =>
    rename_i j d want r
    have hne' : ∀ e, o.dst = some e → d ≠ e := by
      intro e he
      rw [he] at hne
      simp only [neD] at hne
      split at hne
      · cases hne
      · rename_i hb'; exact beq_false hb'
    have hkeep : ∀ (vv : Value), (a.put o.dst vv).tmps.getD d undef = a.tmps.getD d undef := by
      intro vv
      cases hdst : o.dst with
      | none => rfl
      | some e =>
        have := hne' e hdst
        simp [Act.put, Array.getD_eq_getD_getElem?, Ne.symm this]
    by_cases htm : a.tmps.getD d undef = .bool want
    · have hw : Region.wanted o (yielded ops a.tmps) = true := by
        simp only [Region.wanted, hg]
        exact (yielded_iff hgs _).2 htm
      rw [if_pos hw]
      refine .inl (wp_weaken (evOp_sound hT h1 hs (opg_vals hs htm) (fun x b hb => opg_has hb x) (by rw [hD]; rfl) hh) fun a' w' hp => ?_)
      obtain ⟨K', vv, rfl, hs', hv⟩ := hp
      have he : c.eff r = c := by simp [Cfg.eff, hD, hpg, setD]
      rw [he] at hs' hv
      refine ⟨K', hs'.put (dst := o.dst) (u := wrapOpt d want r.v) (v := vv) (by rw [hN]; exact hd) fun e hde => ?_⟩
      unfold wrapOpt
      split
      · exact FV.top
      · exact .inl ⟨by rw [hkeep]; exact htm, hv⟩
    · have hw : ¬ Region.wanted o (yielded ops a.tmps) = true := by
        simp only [Region.wanted, hg]
        rw [yielded_iff hgs]
        exact htm
      rw [if_neg hw]
      refine ⟨K, hs.put (dst := o.dst) (u := wrapOpt d want r.v) (v := undef) (by rw [hN]; exact hd) fun e hde => ?_⟩
      unfold wrapOpt
      split
      · exact FV.top
      · exact .inr ⟨by rw [hkeep]; exact htm, rfl⟩

/-- THE OPERATIONS IN THE TEXT's ORDER. -/
theorem evOps_sound (hT : TabOK P T) (h1 : TabOne T = true) (hN : E.N = N) {Kk : Cfg → Prop} {Q : Exit → Act → World → Prop} (hQ : ∀ c a w, Kk c → SR E c a w → Q .normal a w) :
    ∀ (l : List Oper) (A : Acc) (i : Nat) (c : Cfg) (a : Act) (w : World), (∀ j, l[j]? = ops[i + j]?) → evOps dr P T N dm ops A i l c Kk → SR E c a w → wpOps P ops Q (List.range' i l.length) a w
  | [], A, i, c, a, w, _, h, hs => hQ c a w h hs
  | o :: rest, A, i, c, a, w, hl, h, hs => by
    obtain ⟨r, hst, _, hrest⟩ := evOps_cons h
    have ho : ops[i]? = some o := by have := hl 0; simpa using this.symm
    rw [List.length_cons, List.range'_succ, wpOps_cons]
    refine wpOp_mono (fun a' w' hs' => ?_) (step_sound hT h1 hN ho hst hs)
    exact evOps_sound hT h1 hN hQ rest _ (i + 1) _ a' w' (fun j => by have := hl (j + 1); rw [List.getElem?_cons_succ] at this; rw [this]; congr 1; omega) hrest hs'
end
end
end Go.Abs
namespace Go.Abs
section
open Go.RowKit
set_option linter.unusedVariables false

/-! ### an operation looks at its operands alone -/
theorem fillE_congr {val val' : Operand → AV} {place : Nat → Option (Nat × Nat)} : ∀ {parts : List (Nat × Operand)} {row : List AV}, (∀ p ∈ parts, val p.2 = val' p.2) → fillE place val parts row = fillE place val' parts row
  | [], _, _ => rfl
  | (i, x) :: r, row, h => by
    have h0 := h (i, x) (by simp)
    simp only at h0
    simp only [fillE, h0]
    split
    · rfl
    · split
      · rfl
      · split
        · split
          · exact fillE_congr fun p hp => h p (by simp [hp])
          · rfl
        · rfl
theorem map_congr' {val val' : Operand → AV} {xs : List Operand} (h : ∀ x ∈ xs, val x = val' x) : xs.map val = xs.map val' := List.map_congr_left h

theorem evOp_congr {dr : Bool} {T : Tab} {val val' : Operand → AV} {own : Nat → Option OBlk} {o : Oper} (h : ∀ x ∈ o.op.operands, val x = val' x) : evOp dr T val own o = evOp dr T val' own o := by
  have hm : ∀ {xs : Array Operand}, (∀ x ∈ xs, x ∈ o.op.operands) → xs.toList.map val = xs.toList.map val' := fun hx => map_congr' fun x hx' => h x (hx x (by simpa using hx'))
  cases hop : o.op with
  | move x => simp only [evOp, hop]; rw [h x (by simp [hop, Op.operands])]
  | assign x => simp only [evOp, hop]; rw [h x (by simp [hop, Op.operands])]
  | box t x => simp only [evOp, hop]; rw [h x (by simp [hop, Op.operands])]
  | load t x => simp only [evOp, hop]; rw [h x (by simp [hop, Op.operands])]
  | store t x y => simp only [evOp, hop]; rw [h x (by simp [hop, Op.operands]), h y (by simp [hop, Op.operands])]
  | binOp op t x y t' => simp only [evOp, hop]; rw [h x (by simp [hop, Op.operands]), h y (by simp [hop, Op.operands])]
  | unOp op t x =>
    have := h x (by simp [hop, Op.operands])
    cases op <;> simp only [evOp, hop, this]
  | convert s t x => simp only [evOp, hop]; rw [h x (by simp [hop, Op.operands])]
  | fieldAddr s x f => simp only [evOp, hop]; rw [h x (by simp [hop, Op.operands])]
  | field s x f => simp only [evOp, hop]; rw [h x (by simp [hop, Op.operands])]
  | indexAddr t x ix => simp only [evOp, hop]; rw [h x (by simp [hop, Op.operands]), h ix (by simp [hop, Op.operands])]
  | extract x k => simp only [evOp, hop]; rw [h x (by simp [hop, Op.operands])]
  | pick x y z => simp only [evOp, hop]; rw [h x (by simp [hop, Op.operands]), h y (by simp [hop, Op.operands]), h z (by simp [hop, Op.operands])]
  | makeFunc fn first caps =>
    have hc : caps.toList.map (fun x => (val x).noopt) = caps.toList.map (fun x => (val' x).noopt) := List.map_congr_left fun x hx => by rw [h x (by simp [hop, Op.operands]; exact .inr (by simpa using hx))]
    cases fn <;> simp only [evOp, hop, hc]
  | build t parts =>
    have hf : ∀ place row, fillE place val parts.toList row = fillE place val' parts.toList row := fun place row => fillE_congr fun p hp => h p.2 (by simp [hop, Op.operands]; exact ⟨p.1, by simpa using hp⟩)
    simp only [evOp, hop, hf]
  | buildSlice t n parts =>
    have hf : ∀ place row, fillE place val parts.toList row = fillE place val' parts.toList row := fun place row => fillE_congr fun p hp => h p.2 (by simp [hop, Op.operands]; exact ⟨p.1, by simpa using hp⟩)
    simp only [evOp, hop, hf]
  | makeSlice t l c => simp only [evOp, hop]; rw [h l (by simp [hop, Op.operands]), h c (by simp [hop, Op.operands])]
  | slice t x lo hi mx =>
    have hx := h x (by simp [hop, Op.operands])
    have hl : lo.map val = lo.map val' := by cases lo with | none => rfl | some l => simp [h l (by simp [hop, Op.operands])]
    have hh : hi.map val = hi.map val' := by cases hi with | none => rfl | some l => simp [h l (by simp [hop, Op.operands])]
    cases mx with
    | none => simp only [evOp, hop, hx, hl, hh]
    | some m =>
      have hm := h m (by simp [hop, Op.operands])
      cases lo with
      | none => simp only [evOp, hop]
      | some l => cases hi with
        | none => simp only [evOp, hop]
        | some k => simp only [evOp, hop, hx, hm, h l (by simp [hop, Op.operands]), h k (by simp [hop, Op.operands])]
  | index t x ix => simp only [evOp, hop]; rw [h x (by simp [hop, Op.operands]), h ix (by simp [hop, Op.operands])]
  | call cl =>
    obtain ⟨callee, args, ts⟩ := cl
    have hargs : args.toList.map val = args.toList.map val' := hm fun x hx => by rw [hop]; simp only [Op.operands, Call.operands]; cases callee <;> simp [hx]
    cases callee with
    | value f => simp only [evOp, hop, callA, hargs, h f (by simp [hop, Op.operands, Call.operands])]
    | invoke x m => simp only [evOp, hop, callA]
    | builtin b => cases b <;> simp only [evOp, hop, callA, hargs]
  | _ => simp only [evOp, hop]

/-! ### an operation looks at the blocks that its operands lead to, and at no others -/
section
variable {own own' : Nat → Option OBlk}
/-- the values lead to b -/
def RReach (own : Nat → Option OBlk) (vals : List AV) (b : Nat) : Prop := AV.hasL b vals = true ∨ ∃ i x, own i = some x ∧ x.kd = .any ∧ AV.hasL i vals = true ∧ hasRow b x.rows = true
theorem hasL_mem {b : Nat} {u : AV} : ∀ {us : List AV}, u ∈ us → u.has b = true → AV.hasL b us = true
  | x :: xs, h, hu => by
    rcases List.mem_cons.1 h with rfl | h
    · simp [AV.hasL, hu]
    · simp [AV.hasL, hasL_mem h hu]
theorem RReach.mem {u : AV} {us : List AV} {b : Nat} (hu : u ∈ us) (h : RReach own [u] b) : RReach own us b := by
  rcases h with h | ⟨i, x, h1, h2, h3, h4⟩
  · simp [AV.hasL] at h; exact .inl (hasL_mem hu h)
  · simp [AV.hasL] at h3; exact .inr ⟨i, x, h1, h2, hasL_mem hu h3, h4⟩
theorem RReach.sub {us vs : List AV} {b : Nat} (hs : ∀ b, AV.hasL b us = true → AV.hasL b vs = true) (h : RReach own us b) : RReach own vs b := by
  rcases h with h | ⟨i, x, h1, h2, h3, h4⟩
  · exact .inl (hs b h)
  · exact .inr ⟨i, x, h1, h2, hs i h3, h4⟩
theorem viewCell_own {u : AV} (h : ∀ b, u.has b = true → own' b = own b) : viewCell own' u = viewCell own u := by
  cases u <;> simp only [viewCell]
  rename_i b sz n
  rw [h b (by simp [AV.has])]
theorem viewCells_own : ∀ {us : List AV}, (∀ b, AV.hasL b us = true → own' b = own b) → viewCells own' us = viewCells own us
  | [], _ => rfl
  | x :: xs, h => by
    simp only [viewCells]
    rw [viewCell_own fun b hb => h b (by simp [AV.hasL, hb]), viewCells_own (us := xs) fun b hb => h b (by simp [AV.hasL, hb])]
theorem viewRows_own : ∀ {us : List (List AV)}, (∀ b, hasRow b us = true → own' b = own b) → viewRows own' us = viewRows own us
  | [], _ => rfl
  | x :: xs, h => by
    simp only [viewRows]
    rw [viewCells_own fun b hb => h b (by simp [hasRow, hb]), viewRows_own (us := xs) fun b hb => h b (by simp only [hasRow, Bool.or_eq_true]; exact .inr hb)]
theorem hasRow_of_take {b : Nat} : ∀ {us : List (List AV)} {n : Nat}, hasRow b (us.take n) = true → hasRow b us = true
  | [], n, h => by simp at h; exact h
  | x :: xs, 0, h => by simp [hasRow] at h
  | x :: xs, n + 1, h => by
    simp only [List.take_succ_cons, hasRow, Bool.or_eq_true] at h ⊢
    exact h.imp id hasRow_of_take
theorem view1_own {u : AV} (h : ∀ b, RReach own [u] b → own' b = own b) : view1 own' u = view1 own u := by
  have h0 : ∀ b, u.has b = true → own' b = own b := fun b hb => h b (.inl (by simp [AV.hasL, hb]))
  cases u with
  | osl b sz n =>
    simp only [view1]
    rw [h0 b (by simp [AV.has])]
    cases hb : own b with
    | none => rfl
    | some blk =>
      obtain ⟨e, sz', kd, rows⟩ := blk
      cases kd with
      | pure => exact viewCell_own h0
      | flat => exact viewCell_own h0
      | any =>
        simp only
        rw [viewRows_own fun b' hb' => h b' (.inr ⟨b, _, hb, rfl, by simp [AV.hasL, AV.has], hasRow_of_take hb'⟩)]
  | ovar b off =>
    simp only [view1]
    rw [h0 b (by simp [AV.has])]
    cases hb : own b with
    | none => rfl
    | some blk =>
      obtain ⟨e, sz, kd, rows⟩ := blk
      cases kd with
      | pure => rfl
      | flat => rfl
      | any =>
        match rows, hb with
        | [], _ => rfl
        | [row], hb =>
          simp only
          rw [viewCells_own fun b' hb' => h b' (.inr ⟨b, _, hb, rfl, by simp [AV.hasL, AV.has], by simp [hasRow, hb']⟩)]
        | _ :: _ :: _, _ => rfl
  | agg xs =>
    simp only [view1]
    rw [viewCells_own fun b hb => h0 b (by simpa [AV.has] using hb)]
  | _ => simp only [view1]; exact viewCell_own h0
theorem views1_own : ∀ {us : List AV}, (∀ b, RReach own us b → own' b = own b) → views1 own' us = views1 own us
  | [], _ => rfl
  | x :: xs, h => by
    simp only [views1]
    rw [view1_own fun b hb => h b (hb.mem (by simp)), views1_own (us := xs) fun b hb => h b (hb.sub fun b hb => by simp [AV.hasL, hb])]
theorem view_own {u : AV} (h : ∀ b, RReach own [u] b → own' b = own b) : view own' u = view own u := by
  cases u with
  | func f caps =>
    simp only [view]
    rw [views1_own fun b hb => h b (hb.sub fun b hb => by simpa [AV.hasL, AV.has] using hb)]
  | _ => simp only [view]; exact view1_own h
theorem views_own : ∀ {us : List AV}, (∀ b, RReach own us b → own' b = own b) → views own' us = views own us
  | [], _ => rfl
  | x :: xs, h => by
    simp only [views]
    rw [view_own fun b hb => h b (hb.mem (by simp)), views_own (us := xs) fun b hb => h b (hb.sub fun b hb => by simp [AV.hasL, hb])]
theorem loadA_own {i : TyI} {u : AV} (h : ∀ b, u.has b = true → own' b = own b) : loadA i own' u = loadA i own u := by
  cases u <;> simp only [loadA]
  · rename_i b off; rw [h b (by simp [AV.has])]
  · rename_i b sz k off; rw [h b (by simp [AV.has])]
theorem storeA_own {i : TyI} {u v : AV} (h : ∀ b, u.has b = true → own' b = own b) : storeA i own' u v = storeA i own u v := by
  cases u <;> simp only [storeA]
  · rename_i b off; rw [h b (by simp [AV.has])]
  · rename_i b sz k off; rw [h b (by simp [AV.has])]
theorem srcRows_own {n : Nat} {u : AV} (h : ∀ b, u.has b = true → own' b = own b) : srcRows own' n u = srcRows own n u := by
  cases u <;> simp only [srcRows]
  rename_i b sz n; rw [h b (by simp [AV.has])]
theorem appendA_own {dr : Bool} {T : Tab} {dst : Option Nat} {t : Nat} {s x : AV} (hs : ∀ b, s.has b = true → own' b = own b) (hx : ∀ b, x.has b = true → own' b = own b) : appendA dr T own' dst t s x = appendA dr T own dst t s x := by
  have e : ∀ n, srcRows own' n x = srcRows own n x := fun n => srcRows_own hx
  cases s <;> simp only [appendA, e]
  rename_i b sz n
  rw [hs b (by simp [AV.has])]
theorem cutA_own {T : Tab} {t : Nat} {x : AV} {lo hi : Option AV} (hx : ∀ b, x.has b = true → own' b = own b) : cutA T own' t x lo hi = cutA T own t x lo hi := by
  unfold cutA
  cases T.get t with
  | none => rfl
  | some ti => cases hk : ti.k <;> simp only [hk]
               rename_i e
               cases T.get e with
               | none => rfl
               | some ei =>
                 cases x <;> first | rfl | skip
                 rename_i b sz n
                 have e := hx b (by simp [AV.has])
                 cases lo with
                 | none => cases hi <;> rfl
                 | some l => cases hi with
                   | none => cases l <;> rfl
                   | some h => cases l <;> first | rfl | (cases h <;> first | rfl | simp only [e])
theorem appSelfA_own {T : Tab} {t : Nat} {s x : AV} (hs : ∀ b, s.has b = true → own' b = own b) (hx : ∀ b, x.has b = true → own' b = own b) : appSelfA T own' t s x = appSelfA T own t s x := by
  unfold appSelfA
  cases T.get t with
  | none => rfl
  | some ti => cases hk : ti.k <;> simp only [hk]
               rename_i e
               cases T.get e with
               | none => rfl
               | some ei =>
                 cases s <;> first | rfl | skip
                 rename_i b sz n
                 have e := hs b (by simp [AV.has])
                 cases x <;> first | rfl | simp only [e]
theorem dstOf_has {b sz lo m : Nat} {u : AV} (h : dstOf u = some (b, sz, lo, m)) : u.has b = true := by
  cases u <;> simp only [dstOf] at h <;> try cases h
  · simp [AV.has]
  · simp [AV.has]
theorem copyA_own {T : Tab} {t : Nat} {s x : AV} (hs : ∀ b, s.has b = true → own' b = own b) (hx : ∀ b, x.has b = true → own' b = own b) : copyA T own' t s x = copyA T own t s x := by
  unfold copyA
  rw [srcRows_own hx]
  cases T.get t with
  | none => rfl
  | some ti => cases hk : ti.k <;> simp only [hk]
               rename_i e
               cases T.get e with
               | none => rfl
               | some ei =>
                 simp only
                 cases hd : dstOf s with
                 | none => rfl
                 | some q =>
                   obtain ⟨b, sz, lo, m⟩ := q
                   cases Nat.beq ei.size 1 with
                   | false => rfl
                   | true => simp only [hs b (dstOf_has hd)]
theorem viewM1_own {b : Nat} {u : AV} (h : ∀ b, u.has b = true → own' b = own b) : viewM1 own' b u = viewM1 own b u := by
  cases u <;> simp only [viewM1]
  rename_i b' off
  rw [h b' (by simp [AV.has])]
theorem viewsM1_own {b : Nat} : ∀ {us : List AV}, (∀ b, AV.hasL b us = true → own' b = own b) → viewsM1 own' b us = viewsM1 own b us
  | [], _ => rfl
  | x :: xs, h => by
    simp only [viewsM1]
    rw [viewM1_own fun b hb => h b (by simp [AV.hasL, hb]), viewsM1_own (us := xs) fun b hb => h b (by simp [AV.hasL, hb])]
theorem viewM_own {b : Nat} {u : AV} (h : ∀ b, u.has b = true → own' b = own b) : viewM own' b u = viewM own b u := by
  cases u with
  | func f caps =>
    simp only [viewM]
    rw [viewsM1_own fun b hb => h b (by simpa [AV.has] using hb)]
  | _ => simp only [viewM]; exact viewM1_own h
theorem viewsM_own {b : Nat} : ∀ {us : List AV}, (∀ b, AV.hasL b us = true → own' b = own b) → viewsM own' b us = viewsM own b us
  | [], _ => rfl
  | x :: xs, h => by
    simp only [viewsM]
    rw [viewM_own fun b hb => h b (by simp [AV.hasL, hb]), viewsM_own (us := xs) fun b hb => h b (by simp [AV.hasL, hb])]
theorem callMA_own {dst : Option Nat} {f : AV} {us : List AV} (h : ∀ b, AV.hasL b us = true → own' b = own b) : callMA own' dst f us = callMA own dst f us := by
  unfold callMA
  split
  · rename_i g b sz n rest
    rw [h b (by simp [AV.hasL, AV.has])]
    have e : ∀ b, viewsM own' b rest = viewsM own b rest := fun b => viewsM_own fun b hb => h b (by simp [AV.hasL, hb])
    simp only [e]
  · rfl
theorem handCells_rr : ∀ {row : List AV}, (∀ b, AV.hasL b row = true → own' b = own b) → handCells own' row = handCells own row
  | [], _ => rfl
  | u :: r, h => by
    have ih := handCells_rr (row := r) fun b hb => h b (by simp [AV.hasL, hb])
    cases u with
    | osl b sz n => simp only [handCells]; rw [h b (by simp [AV.hasL, AV.has]), ih]
    | _ => simp only [handCells]; rw [ih]
theorem handOne_rr {u : AV} (h : ∀ b, RReach own [u] b → own' b = own b) : handOne own' u = handOne own u := by
  cases u with
  | ovar b off =>
    have hb := h b (.inl (by simp [AV.hasL, AV.has]))
    simp only [handOne, hb]
    cases hbk : own b with
    | none => rfl
    | some blk =>
      simp only
      split
      · rename_i row hk hr
        rw [handCells_rr fun i hi => h i (.inr ⟨b, blk, hbk, hk, by simp [AV.hasL, AV.has], by rw [hr]; simp [hasRow, hi]⟩)]
      · rfl
  | osl b sz n => simp only [handOne]; rw [h b (.inl (by simp [AV.hasL, AV.has]))]
  | _ => rfl
theorem handAll_rr {ps : List Nat} : ∀ {us : List AV} {i : Nat}, (∀ b, RReach own us b → own' b = own b) → handAll own' ps i us = handAll own ps i us
  | [], _, _ => rfl
  | x :: xs, i, h => by
    simp only [handAll]
    rw [handOne_rr fun b hb => h b (hb.mem (by simp)), handAll_rr (us := xs) fun b hb => h b (hb.sub fun b hb => by simp [AV.hasL, hb])]
theorem viewS_rr {bs : List Nat} {u : AV} (h : ∀ b, u.has b = true → own' b = own b) : viewS own' bs u = viewS own bs u := by
  cases u with
  | osl b sz n => simp only [viewS]; rw [h b (by simp [AV.has])]
  | ovar b off => simp only [viewS]; rw [h b (by simp [AV.has])]
  | _ => rfl
theorem viewsS_rr {ps bs : List Nat} : ∀ {us : List AV} {i : Nat}, (∀ b, AV.hasL b us = true → own' b = own b) → viewsS own' ps bs i us = viewsS own ps bs i us
  | [], _, _ => rfl
  | x :: xs, i, h => by
    simp only [viewsS]
    rw [viewS_rr fun b hb => h b (by simp [AV.hasL, hb]), viewsS_rr (us := xs) fun b hb => h b (by simp [AV.hasL, hb])]
theorem hasL_app {b : Nat} : ∀ (xs ys : List AV), AV.hasL b (xs ++ ys) = (AV.hasL b xs || AV.hasL b ys)
  | [], ys => by simp [AV.hasL]
  | x :: xs, ys => by simp [AV.hasL, hasL_app xs ys, Bool.or_assoc]
theorem callSA_rr {f : AV} {us : List AV} (h : ∀ b, RReach own (f :: us) b → own' b = own b) : callSA own' f us = callSA own f us := by
  cases f with
  | func g caps =>
    have hr : ∀ b, RReach own (us ++ caps) b → own' b = own b := fun b hb => h b (hb.sub fun b hb => by
      rw [hasL_app, Bool.or_eq_true] at hb
      rcases hb with hb | hb
      · simp [AV.hasL, hb]
      · simp [AV.hasL, AV.has, hb])
    have h1 : handAll own' (posOf g capIds) 0 (us ++ caps) = handAll own (posOf g capIds) 0 (us ++ caps) := handAll_rr hr
    have h2 : ∀ bs, viewsS own' (posOf g capIds) bs 0 (us ++ caps) = viewsS own (posOf g capIds) bs 0 (us ++ caps) := fun bs => viewsS_rr fun b hb => hr b (.inl hb)
    simp only [callSA, h1, h2]
  | _ => rfl
theorem clearA_own {T : Tab} {t : Nat} {x : AV} (hx : ∀ b, x.has b = true → own' b = own b) : clearA T own' t x = clearA T own t x := by
  cases x <;> simp only [clearA]
  rename_i b sz lo n
  rw [hx b (by simp [AV.has])]
theorem evOp_own {dr : Bool} {T : Tab} {val : Operand → AV} {o : Oper} (h : ∀ b, RReach own (o.op.operands.toList.map val) b → own' b = own b) : evOp dr T val own' o = evOp dr T val own o := by
  have h1 : ∀ x, x ∈ o.op.operands → ∀ b, (val x).has b = true → own' b = own b := fun x hx b hb => h b (.inl (hasL_mem (List.mem_map.2 ⟨x, by simpa using hx, rfl⟩) hb))
  cases hop : o.op with
  | load t x =>
    simp only [evOp, hop]
    cases T.get t with
    | none => rfl
    | some i => exact loadA_own (h1 x (by simp [hop, Op.operands]))
  | store t x y =>
    simp only [evOp, hop]
    cases T.get t with
    | none => rfl
    | some i => exact storeA_own (h1 x (by simp [hop, Op.operands]))
  | unOp op t x => cases op <;> simp only [evOp, hop]
  | makeFunc fn first caps => cases fn <;> simp only [evOp, hop]
  | slice t x lo hi mx =>
    have hx := h1 x (by simp [hop, Op.operands])
    cases mx with
    | none =>
      simp only [evOp, hop]
      rw [cutA_own hx]
    | some m => cases lo with
      | none => simp only [evOp, hop]
      | some l => cases hi <;> simp only [evOp, hop]
  | call cl =>
    obtain ⟨callee, args, ts⟩ := cl
    cases callee with
    | value f =>
      simp only [evOp, hop, callA]
      have hm : callMA own' o.dst (val f) (args.toList.map val) = callMA own o.dst (val f) (args.toList.map val) := callMA_own fun b hb => h b (.inl (by
        rw [hop]
        simp only [Op.operands, Call.operands]
        simp [AV.hasL, hb]))
      have hS : callSA own' (val f) (args.toList.map val) = callSA own (val f) (args.toList.map val) := callSA_rr fun b hb => h b (hb.sub fun b hb => by
        rw [hop]
        simp only [Op.operands, Call.operands]
        simpa [AV.hasL, Bool.or_comm] using hb)
      rw [hS, hm, view_own fun b hb => h b (hb.mem (List.mem_map.2 ⟨f, by simp [hop, Op.operands, Call.operands], rfl⟩)),
        views_own fun b hb => h b (hb.sub fun b hb => ?_)]
      rw [hop]
      simp only [Op.operands, Call.operands]
      simp [AV.hasL, hb]
    | invoke x m => simp only [evOp, hop, callA]
    | builtin b =>
      have ha : ∀ u ∈ args.toList.map val, ∀ b, u.has b = true → own' b = own b := by
        intro u hu b hb
        obtain ⟨x, hx, rfl⟩ := List.mem_map.1 hu
        exact h1 x (by rw [hop]; simp only [Op.operands, Call.operands]; simpa using hx) b hb
      cases b <;> simp only [evOp, hop, callA] <;> revert ha <;> generalize args.toList.map val = us <;> intro ha
      case clear =>
        match us, ts.toList, ha with
        | [x], [t], ha => exact clearA_own (ha x (by simp))
        | [], _, _ => rfl
        | [_], [], _ => rfl
        | [_], _ :: _ :: _, _ => rfl
        | _ :: _ :: _, _, _ => rfl
      case copy =>
        match us, ts.toList, ha with
        | [s, x], [t, t'], ha =>
          simp only
          cases Nat.beq t t' with
          | true => rw [copyA_own (ha s (by simp)) (ha x (by simp))]
          | false => rfl
        | [], _, _ => rfl
        | [_], _, _ => rfl
        | _ :: _ :: _ :: _, _, _ => rfl
        | [_, _], [], _ => rfl
        | [_, _], [_], _ => rfl
        | [_, _], _ :: _ :: _ :: _, _ => rfl
      match us, ts.toList, ha with
      | [s, x], [t, t'], ha =>
        simp only
        cases Nat.beq t t' with
        | true => rw [appendA_own (ha s (by simp)) (ha x (by simp)), appSelfA_own (ha s (by simp)) (ha x (by simp))]
        | false => rfl
      | [], _, _ => rfl
      | [_], _, _ => rfl
      | _ :: _ :: _ :: _, _, _ => rfl
      | [_, _], [], _ => rfl
      | [_, _], [_], _ => rfl
      | [_, _], _ :: _ :: _ :: _, _ => rfl
  | _ => simp only [evOp, hop]
end
end
end Go.Abs
namespace Go.Abs
section
open Go.RowKit
set_option linter.unusedVariables false

/-! ### regions that draw their order -/
/-- each bit is borne by an edge -/
def justified (ops : List Oper) (bs : List Nat) : Bool :=
  (List.range ops.length).all fun j => (List.range ops.length).all fun i => !(bs.getD j 0).testBit i ||
    match ops[j]? with
    | some o => o.after.toList.any fun e => Region.binds .any e && (Nat.beq e.on i || (Nat.blt e.on j && (bs.getD e.on 0).testBit i))
    | none => false
def edgesDown (ops : List Oper) : Bool :=
  (List.range ops.length).all fun j => match ops[j]? with
    | some o => o.after.toList.all fun e => !Region.binds .any e || Nat.blt e.on j
    | none => true
def pairsOK (ops : Array Oper) (bs : List Nat) : Bool :=
  (List.range ops.size).all fun j => (List.range j).all fun i => ordB bs i j ||
    match ops[i]?, ops[j]? with
    | some x, some y => x.apart ops y
    | _, _ => true
/-- what is asked, once, of a region that draws its order -/
def drawSt (ops : Array Oper) : Bool := justified ops.toList (befores ops.toList) && edgesDown ops.toList && pairsOK ops (befores ops.toList)

/-- the state behind the operations that are chosen, in the text's order -/
def cfgS (s : Nat → Bool) : Nat → List Oper → List Res → Cfg → Cfg
  | i, o :: l, r :: rs, c => cfgS s (i + 1) l rs (if s i = true then c.app o.dst r else c)
  | _, _, _, c => c

/-- it purges no slot -/
def NoP (r : Res) : Prop := r.pg = none ∨ r.nw = true
theorem app_fr {c : Cfg} {dst : Option Nat} {r : Res} (h : NoP r) : (c.app dst r).fr = putF dst r.v c.fr := by
  unfold Cfg.app
  cases hp : r.pg with
  | none => rfl
  | some b =>
    rcases h with h | h
    · rw [hp] at h; cases h
    · rw [h]
theorem olk_setD (b : Nat) : ∀ (D O : List (Nat × OBlk)), olk (setD D O) b = match olk D b with | some x => some x | none => olk O b
  | [], O => rfl
  | (i, x) :: D, O => by
    rw [setD, olk_setO, olk_cons, olk_setD b D O]
    by_cases e : i = b
    · rw [if_pos e, if_pos e]
    · rw [if_neg e, if_neg e]
theorem olk_app {c : Cfg} {dst : Option Nat} {r : Res} (h : NoP r) (b : Nat) : olk (c.app dst r).O b = match olk r.D b with | some x => some x | none => if r.pg = some b then none else olk c.O b := by
  unfold Cfg.app
  cases hp : r.pg with
  | none => simp only [olk_setD]; simp
  | some p =>
    rcases h with h | h
    · rw [hp] at h; cases h
    · rw [h]
      simp only [olk_setD, olk_delO]
      simp
theorem wids_D {b : Nat} : ∀ {D : List (Nat × OBlk)} {p : Option Nat}, b ∉ wids D p → olk D b = none ∧ p ≠ some b
  | [], none, _ => ⟨rfl, by simp⟩
  | [], some q, h => ⟨rfl, by simp [wids] at h; intro e; injection e with e; exact h e.symm⟩
  | (i, x) :: D, p, h => by
    simp [wids] at h
    obtain ⟨h1, h2⟩ := wids_D (D := D) (p := p) h.2
    exact ⟨by rw [olk_cons, if_neg (fun e => h.1 e.symm)]; exact h1, h2⟩
theorem wids_mem {b : Nat} : ∀ {D : List (Nat × OBlk)} {p : Option Nat}, b ∈ wids D p → (∃ x, (b, x) ∈ D) ∨ p = some b
  | [], none, h => by simp [wids] at h
  | [], some q, h => by simp [wids] at h; exact .inr (by rw [h])
  | (i, x) :: D, p, h => by
    simp [wids] at h
    rcases h with rfl | h
    · exact .inl ⟨x, by simp⟩
    · rcases wids_mem h with ⟨y, hy⟩ | h
      · exact .inl ⟨y, by simp [hy]⟩
      · exact .inr h
theorem wids_of {b : Nat} {x : OBlk} : ∀ {D : List (Nat × OBlk)} {p : Option Nat}, (b, x) ∈ D → b ∈ wids D p
  | (i, y) :: D, p, h => by
    rcases List.mem_cons.1 h with e | h
    · injection e with e _; subst e; simp [wids]
    · simp [wids, wids_of h]
theorem olk_mem {b : Nat} {x : OBlk} : ∀ {D : List (Nat × OBlk)}, olk D b = some x → (b, x) ∈ D
  | (i, y) :: D, h => by
    rw [olk_cons] at h
    by_cases e : i = b
    · rw [if_pos e] at h; injection h with h; subst e h; simp
    · rw [if_neg e] at h; simp [olk_mem h]
theorem mem_olk {b : Nat} {x : OBlk} : ∀ {D : List (Nat × OBlk)}, (b, x) ∈ D → ∃ y, olk D b = some y
  | (i, y) :: D, h => by
    rw [olk_cons]
    by_cases e : i = b
    · exact ⟨y, by rw [if_pos e]⟩
    · rw [if_neg e]
      rcases List.mem_cons.1 h with e' | h
      · injection e' with e' _; exact absurd e'.symm e
      · exact mem_olk h
theorem olk_app_not {c : Cfg} {dst : Option Nat} {r : Res} (h : NoP r) {b : Nat} (hb : b ∉ wids r.D r.pg) : olk (c.app dst r).O b = olk c.O b := by
  obtain ⟨h1, h2⟩ := wids_D hb
  rw [olk_app h, h1, if_neg h2]
/-- what an operation leaves of a block that it makes, turns or hands on -/
theorem olk_app_in {c c' : Cfg} {dst dst' : Option Nat} {r : Res} (h : NoP r) {b : Nat} (hb : b ∈ wids r.D r.pg) : olk (c.app dst r).O b = olk (c'.app dst' r).O b := by
  rw [olk_app h, olk_app h]
  cases hD : olk r.D b with
  | some x => rfl
  | none =>
    rcases wids_mem hb with ⟨x, hx⟩ | hp
    · obtain ⟨y, hy⟩ := mem_olk hx
      rw [hD] at hy; cases hy
    · simp [hp]

theorem cfgS_congr {s s' : Nat → Bool} : ∀ {l : List Oper} {rs : List Res} {i : Nat} {c : Cfg}, (∀ k, k < l.length → s (i + k) = s' (i + k)) → cfgS s i l rs c = cfgS s' i l rs c
  | [], _, _, _, _ => by simp [cfgS]
  | o :: l, [], _, _, _ => by simp [cfgS]
  | o :: l, r :: rs, i, c, h => by
    simp only [cfgS]
    rw [show s i = s' i from h 0 (by simp)]
    exact cfgS_congr fun k hk => by have := h (k + 1) (by simpa using hk); rw [show i + (k + 1) = i + 1 + k by omega] at this; exact this

theorem lk_app {c : Cfg} {dst : Option Nat} {r : Res} (hpg : NoP r) (t : Nat) : lk (c.app dst r).fr t = if dst = some t then r.v else lk c.fr t := by
  rw [app_fr hpg]
  cases dst with
  | none => simp [putF]
  | some d => simp only [putF, lk_cons, Option.some.injEq]

theorem cfgS_lk {s s' : Nat → Bool} {t : Nat} : ∀ {l : List Oper} {rs : List Res} {i : Nat} {c c' : Cfg}, (∀ r ∈ rs, NoP r) → (∀ (k : Nat) o, l[k]? = some o → o.dst = some t → s (i + k) = s' (i + k)) → lk c.fr t = lk c'.fr t →
    lk (cfgS s i l rs c).fr t = lk (cfgS s' i l rs c').fr t
  | [], _, _, _, _, _, _, h => by simpa [cfgS] using h
  | o :: l, [], _, _, _, _, _, h => by simpa [cfgS] using h
  | o :: l, r :: rs, i, c, c', hp, hs, h => by
    simp only [cfgS]
    refine cfgS_lk (fun r' hr' => hp r' (by simp [hr'])) (fun k o' ho hd => by have := hs (k + 1) o' (by simpa using ho) hd; rw [show i + (k + 1) = i + 1 + k by omega] at this; exact this) ?_
    have hpr := hp r (by simp)
    by_cases hd : o.dst = some t
    · have := hs 0 o (by simp) hd
      simp only [Nat.add_zero] at this
      rw [this]
      split
      · rw [lk_app hpr, lk_app hpr, if_pos hd, if_pos hd]
      · exact h
    · have e1 : lk (if s i = true then c.app o.dst r else c).fr t = lk c.fr t := by
        split
        · rw [lk_app hpr, if_neg hd]
        · rfl
      have e2 : lk (if s' i = true then c'.app o.dst r else c').fr t = lk c'.fr t := by
        split
        · rw [lk_app hpr, if_neg hd]
        · rfl
      rw [e1, e2, h]
/-- the last that is chosen counts -/
theorem cfgS_last {s : Nat → Bool} {t : Nat} : ∀ {l : List Oper} {rs : List Res} {i j : Nat} {c : Cfg} {o : Oper} {r : Res}, (∀ r ∈ rs, NoP r) → l[j]? = some o → rs[j]? = some r → o.dst = some t → s (i + j) = true →
    (∀ (k : Nat) o, j < k → l[k]? = some o → o.dst = some t → s (i + k) = false) → lk (cfgS s i l rs c).fr t = r.v
  | [], _, _, _, _, _, _, _, h, _, _, _, _ => by simp at h
  | o' :: l, [], _, _, _, _, _, _, _, h, _, _, _ => by simp at h
  | o' :: l, r' :: rs, i, 0, c, o, r, hp, ho, hr, hd, hsj, hk => by
    simp at ho hr
    subst ho hr
    simp only [cfgS, Nat.add_zero] at hsj ⊢
    rw [if_pos hsj]
    have := cfgS_lk (s := s) (s' := fun _ => false) (t := t) (l := l) (rs := rs) (i := i + 1) (c := c.app o'.dst r') (c' := c.app o'.dst r') (fun r hr => hp r (by simp [hr]))
      (fun k o'' ho'' hd' => by have := hk (k + 1) o'' (by omega) (by simpa using ho'') hd'; rw [show i + (k + 1) = i + 1 + k by omega] at this; exact this) rfl
    rw [this]
    have none_ : ∀ (l : List Oper) (rs : List Res) (i : Nat) (c : Cfg), cfgS (fun _ => false) i l rs c = c := by
      intro l
      induction l with
      | nil => intros; simp [cfgS]
      | cons x xs ih => intro rs i c; cases rs with
        | nil => simp [cfgS]
        | cons y ys => simp [cfgS, ih]
    rw [none_, lk_app (hp r' (by simp)), if_pos hd]
  | o' :: l, r' :: rs, i, j + 1, c, o, r, hp, ho, hr, hd, hsj, hk => by
    simp only [cfgS]
    refine cfgS_last (i := i + 1) (j := j) (fun r hr => hp r (by simp [hr])) (by simpa using ho) (by simpa using hr) hd (by rw [show i + 1 + j = i + (j + 1) by omega]; exact hsj) fun k o'' hlt ho'' hd' => ?_
    have := hk (k + 1) o'' (by omega) (by simpa using ho'') hd'
    rw [show i + (k + 1) = i + 1 + k by omega] at this
    exact this
theorem cfgS_olk {s s' : Nat → Bool} {b : Nat} : ∀ {l : List Oper} {rs : List Res} {i : Nat} {c c' : Cfg}, (∀ r ∈ rs, NoP r) → (∀ (k : Nat) r, k < l.length → rs[k]? = some r → b ∈ wids r.D r.pg → s (i + k) = s' (i + k)) → olk c.O b = olk c'.O b →
    olk (cfgS s i l rs c).O b = olk (cfgS s' i l rs c').O b
  | [], _, _, _, _, _, _, h => by simpa [cfgS] using h
  | o :: l, [], _, _, _, _, _, h => by simpa [cfgS] using h
  | o :: l, r :: rs, i, c, c', hp, hs, h => by
    simp only [cfgS]
    refine cfgS_olk (fun r' hr' => hp r' (by simp [hr'])) (fun k r' hk hr hd => by have := hs (k + 1) r' (by simpa using hk) (by simpa using hr) hd; rw [show i + (k + 1) = i + 1 + k by omega] at this; exact this) ?_
    have hpr := hp r (by simp)
    by_cases hd : b ∈ wids r.D r.pg
    · have := hs 0 r (by simp) (by simp) hd
      simp only [Nat.add_zero] at this
      rw [this]
      split
      · exact olk_app_in hpr hd
      · exact h
    · have e : ∀ (x : Bool) (c : Cfg), olk (if x = true then c.app o.dst r else c).O b = olk c.O b := by
        intro x c
        split
        · exact olk_app_not hpr hd
        · rfl
      rw [e, e, h]
/-- the last that is chosen and writes b counts -/
theorem cfgS_olk_last {s : Nat → Bool} {b : Nat} : ∀ {l : List Oper} {rs : List Res} {i j : Nat} {c c' : Cfg} {o : Oper} {r : Res} {dst : Option Nat}, (∀ r ∈ rs, NoP r) → l[j]? = some o → rs[j]? = some r → b ∈ wids r.D r.pg → s (i + j) = true →
    (∀ (k : Nat) r, j < k → rs[k]? = some r → b ∈ wids r.D r.pg → s (i + k) = false) → olk (cfgS s i l rs c).O b = olk (c'.app dst r).O b
  | [], _, _, _, _, _, _, _, _, _, h, _, _, _, _ => by simp at h
  | o' :: l, [], _, _, _, _, _, _, _, _, _, h, _, _, _ => by simp at h
  | o' :: l, r' :: rs, i, 0, c, c', o, r, dst, hp, ho, hr, hd, hsj, hk => by
    simp at ho hr
    subst ho hr
    simp only [cfgS, Nat.add_zero] at hsj ⊢
    rw [if_pos hsj]
    have := cfgS_olk (s := s) (s' := fun _ => false) (b := b) (l := l) (rs := rs) (i := i + 1) (c := c.app o'.dst r') (c' := c.app o'.dst r') (fun r hr => hp r (by simp [hr]))
      (fun k r'' hkl hr'' hd' => by have := hk (k + 1) r'' (by omega) (by simpa using hr'') hd'; rw [show i + (k + 1) = i + 1 + k by omega] at this; exact this) rfl
    rw [this]
    have none_ : ∀ (l : List Oper) (rs : List Res) (i : Nat) (c : Cfg), cfgS (fun _ => false) i l rs c = c := by
      intro l
      induction l with
      | nil => intros; simp [cfgS]
      | cons x xs ih => intro rs i c; cases rs with
        | nil => simp [cfgS]
        | cons y ys => simp [cfgS, ih]
    rw [none_]
    exact olk_app_in (hp r' (by simp)) hd
  | o' :: l, r' :: rs, i, j + 1, c, c', o, r, dst, hp, ho, hr, hd, hsj, hk => by
    simp only [cfgS]
    refine cfgS_olk_last (i := i + 1) (j := j) (fun r hr => hp r (by simp [hr])) (by simpa using ho) (by simpa using hr) hd (by rw [show i + 1 + j = i + (j + 1) by omega]; exact hsj) fun k r'' hlt hr'' hd' => ?_
    have := hk (k + 1) r'' (by omega) (by simpa using hr'') hd'
    rw [show i + (k + 1) = i + 1 + k by omega] at this
    exact this
theorem cfgS_none : ∀ (s : Nat → Bool) (l : List Oper) (rs : List Res) (i : Nat) (c : Cfg), (∀ k, i ≤ k → s k = false) → cfgS s i l rs c = c
  | s, [], rs, i, c, _ => by simp [cfgS]
  | s, o :: l, [], i, c, _ => by simp [cfgS]
  | s, o :: l, r :: rs, i, c, h => by
    simp only [cfgS]
    rw [if_neg (by rw [h i (Nat.le_refl _)]; simp)]
    exact cfgS_none s l rs (i + 1) c fun k hk => h k (by omega)

/-- the entries of the frame speak of no guard at d -/
theorem noOpt_app {c : Cfg} {dst : Option Nat} {r : Res} {d : Nat} (hpg : NoP r) (h : noOpt d c.fr = true) (hv : ∀ w v, r.v ≠ .opt d w v) : noOpt d (c.app dst r).fr = true := by
  rw [app_fr hpg]
  cases dst with
  | none => exact h
  | some e =>
    simp only [putF]
    unfold noOpt
    cases hr : r.v <;> simp only <;> first | exact h | skip
    rename_i d' w' v'
    split
    · rename_i hb
      have := beq_true hb
      subst this
      exact absurd hr (hv w' v')
    · exact h
theorem noOpt_app_iff {c : Cfg} {dst : Option Nat} {r : Res} {d : Nat} (hpg : NoP r) (h : noOpt d (c.app dst r).fr = true) : noOpt d c.fr = true ∧ (dst ≠ none → ∀ w v, r.v ≠ .opt d w v) := by
  rw [app_fr hpg] at h
  cases dst with
  | none => exact ⟨h, fun h => absurd rfl h⟩
  | some e =>
    simp only [putF] at h
    unfold noOpt at h
    cases hr : r.v <;> rw [hr] at h <;> simp only at h <;> first | exact ⟨h, fun _ _ _ e => by cases e⟩ | skip
    rename_i d' w' v'
    split at h
    · cases h
    · rename_i hb
      refine ⟨h, fun _ w v e => ?_⟩
      injection e with e _ _
      subst e
      exact beq_false hb rfl

theorem cfgS_noOpt {s : Nat → Bool} {d : Nat} : ∀ {l : List Oper} {rs : List Res} {i : Nat} {c : Cfg}, (∀ r ∈ rs, NoP r) → noOpt d c.fr = true → (∀ (k : Nat) o r, l[k]? = some o → rs[k]? = some r → s (i + k) = true → o.dst ≠ none → ∀ w v, r.v ≠ .opt d w v) → noOpt d (cfgS s i l rs c).fr = true
  | [], _, _, _, _, h, _ => by simpa [cfgS] using h
  | o :: l, [], _, _, _, h, _ => by simpa [cfgS] using h
  | o :: l, r :: rs, i, c, hp, h, hv => by
    simp only [cfgS]
    refine cfgS_noOpt (fun r' hr' => hp r' (by simp [hr'])) ?_ (fun k o' r' ho hr hs => by have := hv (k + 1) o' r' (by simpa using ho) (by simpa using hr) (by rw [show i + (k + 1) = i + 1 + k by omega]; exact hs); exact this)
    split
    · rename_i hs
      by_cases hd : o.dst = none
      · have : (c.app o.dst r).fr = c.fr := by rw [app_fr (hp r (by simp)), hd]; rfl
        rw [this]; exact h
      · exact noOpt_app (hp r (by simp)) h (hv 0 o r (by simp) (by simp) (by simpa using hs) hd)
    · exact h
theorem noOpt_cfgS {s : Nat → Bool} {d : Nat} : ∀ {l : List Oper} {rs : List Res} {i : Nat} {c : Cfg}, (∀ r ∈ rs, NoP r) → noOpt d (cfgS s i l rs c).fr = true →
    noOpt d c.fr = true ∧ (∀ (k : Nat) o r, l[k]? = some o → rs[k]? = some r → s (i + k) = true → o.dst ≠ none → ∀ w v, r.v ≠ .opt d w v)
  | [], _, _, _, _, h => ⟨by simpa [cfgS] using h, fun k o r ho => by simp at ho⟩
  | o :: l, [], _, _, _, h => ⟨by simpa [cfgS] using h, fun k o r _ hr => by simp at hr⟩
  | o :: l, r :: rs, i, c, hp, h => by
    simp only [cfgS] at h
    obtain ⟨h1, h2⟩ := noOpt_cfgS (fun r' hr' => hp r' (by simp [hr'])) h
    have h0 : noOpt d c.fr = true ∧ (s i = true → o.dst ≠ none → ∀ w v, r.v ≠ .opt d w v) := by
      by_cases hs : s i = true
      · rw [if_pos hs] at h1
        obtain ⟨a1, a2⟩ := noOpt_app_iff (hp r (by simp)) h1
        exact ⟨a1, fun _ => a2⟩
      · rw [if_neg hs] at h1
        exact ⟨h1, fun e => absurd e hs⟩
    refine ⟨h0.1, fun k o' r' ho hr hs hd => ?_⟩
    cases k with
    | zero => simp at ho hr; subst ho hr; exact h0.2 (by simpa using hs) hd
    | succ k => exact h2 k o' r' (by simpa using ho) (by simpa using hr) (by rw [show i + 1 + k = i + (k + 1) by omega]; exact hs) hd

/-- what the evaluation in the text's order has come to, operation by operation -/
def Outs (P : Program) (T : Tab) (N : Nat) (ops : Array Oper) : Acc → Nat → List Oper → Cfg → List Res → Prop
  | _, _, [], _, [] => True
  | A, i, o :: l, c, r :: rs => StepOK true P T N ops o c r ∧ drOK true ops A r.nw i (mkRec o c r.D r.pg r.v) = true ∧ Outs P T N ops (A.push i (mkRec o c r.D r.pg r.v)) (i + 1) l (c.app o.dst r) rs
  | _, _, _, _, _ => False
theorem evOps_outs {P : Program} {T : Tab} {N : Nat} {dm : List (Nat × Bool)} {ops : Array Oper} {Kk : Cfg → Prop} : ∀ {l : List Oper} {A : Acc} {i : Nat} {c : Cfg}, evOps true P T N dm ops A i l c Kk →
    ∃ rs : List Res, rs.length = l.length ∧ Outs P T N ops A i l c rs ∧ Kk (cfgS (fun k => decide (k < i + l.length)) i l rs c)
  | [], A, i, c, h => ⟨[], rfl, trivial, by simpa [cfgS, evOps] using h⟩
  | o :: l, A, i, c, h => by
    obtain ⟨r, hst, hdr, hrest⟩ := evOps_cons h
    obtain ⟨rs, hlen, hj, hk⟩ := evOps_outs hrest
    refine ⟨r :: rs, by simp [hlen], ⟨hst, hdr, hj⟩, ?_⟩
    simp only [cfgS]
    rw [if_pos (by simp)]
    rw [show i + (o :: l).length = i + 1 + l.length by simp; omega]
    exact hk
def AccOK (A : Acc) : Prop := ∀ q ∈ A.qs, wids q.2.D q.2.pg ≠ [] → q ∈ A.ws
theorem AccOK.push {A : Acc} (h : AccOK A) (i : Nat) (q : Rec) : AccOK (A.push i q) := by
  intro p hp hw
  unfold Acc.push at hp ⊢
  cases hq : wids q.D q.pg with
  | nil =>
    rw [hq] at hp
    simp only at hp ⊢
    rcases List.mem_cons.1 hp with rfl | hp
    · exact absurd hq hw
    · exact h p hp hw
  | cons x xs =>
    rw [hq] at hp
    simp only at hp ⊢
    rcases List.mem_cons.1 hp with rfl | hp
    · simp
    · exact List.mem_cons_of_mem _ (h p hp hw)
theorem push_qs (A : Acc) (i : Nat) (q : Rec) : (A.push i q).qs = (i, q) :: A.qs ∧ (A.push i q).c0 = A.c0 := by
  unfold Acc.push
  split <;> exact ⟨rfl, rfl⟩
theorem outs_get {P : Program} {T : Tab} {N : Nat} {ops : Array Oper} : ∀ {l : List Oper} {rs : List Res} {A : Acc} {i j : Nat} {c : Cfg} {o : Oper} {r : Res}, Outs P T N ops A i l c rs → AccOK A → l[j]? = some o → rs[j]? = some r →
    ∃ B : Acc, AccOK B ∧ B.c0 = A.c0 ∧ (∀ q ∈ A.qs, q ∈ B.qs) ∧ StepOK true P T N ops o (cfgS (fun k => decide (k < i + j)) i l rs c) r ∧ drOK true ops B r.nw (i + j) (mkRec o (cfgS (fun k => decide (k < i + j)) i l rs c) r.D r.pg r.v) = true ∧
      ∀ (k : Nat) o' r', k < j → l[k]? = some o' → rs[k]? = some r' → (i + k, mkRec o' (cfgS (fun m => decide (m < i + k)) i l rs c) r'.D r'.pg r'.v) ∈ B.qs
  | [], _, _, _, _, _, _, _, _, _, h, _ => by simp at h
  | o' :: l, [], _, _, _, _, _, _, _, _, _, h => by simp at h
  | o' :: l, r' :: rs, A, i, 0, c, o, r, h, hA, ho, hr => by
    simp at ho hr
    subst ho hr
    obtain ⟨h1, h2, _⟩ := h
    have e : cfgS (fun k => decide (k < i + 0)) i (o' :: l) (r' :: rs) c = c := cfgS_none _ _ _ _ _ fun k hk => by simp; omega
    rw [e]
    exact ⟨A, hA, rfl, fun q hq => hq, h1, h2, fun k _ _ hk => by omega⟩
  | o' :: l, r' :: rs, A, i, j + 1, c, o, r, h, hA, ho, hr => by
    obtain ⟨_, _, h3⟩ := h
    obtain ⟨B, b1, b2, b3, b4, b5, b6⟩ := outs_get (j := j) h3 (hA.push _ _) (by simpa using ho) (by simpa using hr)
    obtain ⟨p1, p2⟩ := push_qs A i (mkRec o' c r'.D r'.pg r'.v)
    have e : ∀ m, 0 < m → cfgS (fun k => decide (k < i + m)) i (o' :: l) (r' :: rs) c = cfgS (fun k => decide (k < i + m)) (i + 1) l rs (c.app o'.dst r') := by
      intro m hm
      simp only [cfgS]
      rw [if_pos (by simp; omega)]
    refine ⟨B, b1, b2.trans p2, fun q hq => b3 q (by rw [p1]; exact List.mem_cons_of_mem _ hq), ?_, ?_, fun k o'' r'' hk ho'' hr'' => ?_⟩
    · rw [e (j + 1) (by omega), show i + (j + 1) = i + 1 + j by omega]; exact b4
    · rw [e (j + 1) (by omega), show i + (j + 1) = i + 1 + j by omega]; exact b5
    · cases k with
      | zero =>
        simp at ho'' hr''
        subst ho'' hr''
        rw [cfgS_none _ _ _ _ _ fun k hk => by simp; omega]
        exact b3 _ (by rw [p1]; simp)
      | succ k =>
        have := b6 k o'' r'' (by omega) (by simpa using ho'') (by simpa using hr'')
        rw [e (k + 1) (by omega), show i + (k + 1) = i + 1 + k by omega]
        exact this
/-- neither makes or turns what the other leads to or leaves -/
def IndepP (q s : Rec) : Prop := (∀ b ∈ wids q.D q.pg, reachB s b = false ∧ outB s b = false) ∧ ∀ b ∈ wids s.D s.pg, reachB q b = false ∧ outB q b = false
theorem clean_of {s : Rec} : ∀ {l : List Nat}, cleanB s l = true → ∀ b ∈ l, reachB s b = false ∧ outB s b = false
  | x :: l, h, b, hb => by
    unfold cleanB at h
    cases h1 : reachB s x with
    | true => rw [h1] at h; cases h
    | false =>
      rw [h1] at h
      cases h2 : outB s x with
      | true => rw [h2] at h; cases h
      | false =>
        rw [h2] at h
        rcases List.mem_cons.1 hb with rfl | hb
        · exact ⟨h1, h2⟩
        · exact clean_of h b hb
theorem indep_of {q s : Rec} (h : indepB q s = true) : IndepP q s := by
  unfold indepB at h
  cases h1 : cleanB s (wids q.D q.pg) with
  | false => rw [h1] at h; cases h
  | true => rw [h1] at h; exact ⟨clean_of h1, clean_of h⟩
theorem sep_of {bs : List Nat} {i : Nat} {s : Rec} : ∀ {l : List (Nat × Rec)}, sepB bs i s l = true → ∀ q ∈ l, ordB bs q.1 i = true ∨ IndepP q.2 s
  | (k, p) :: l, h, q, hq => by
    unfold sepB at h
    cases h1 : ordB bs k i with
    | true =>
      rw [h1] at h
      rcases List.mem_cons.1 hq with rfl | hq
      · exact .inl h1
      · exact sep_of h q hq
    | false =>
      rw [h1] at h
      cases h2 : indepB p s with
      | false => rw [h2] at h; cases h
      | true =>
        rw [h2] at h
        rcases List.mem_cons.1 hq with rfl | hq
        · exact .inr (indep_of h2)
        · exact sep_of h q hq
theorem noOut_of {b : Nat} : ∀ {l : List (Nat × Rec)}, noOut b l = true → ∀ q ∈ l, outB q.2 b = false
  | (k, p) :: l, h, q, hq => by
    unfold noOut at h
    cases h1 : outB p b with
    | true => rw [h1] at h; cases h
    | false =>
      rw [h1] at h
      rcases List.mem_cons.1 hq with rfl | hq
      · exact h1
      · exact noOut_of h q hq
theorem nw_of {c0 : Cfg} {qs : List (Nat × Rec)} : ∀ {D : List (Nat × OBlk)}, nwOK c0 qs D = true → ∀ b x, (b, x) ∈ D → fresh b c0 = true ∧ ∀ q ∈ qs, outB q.2 b = false
  | (i, y) :: D, h, b, x, hb => by
    unfold nwOK at h
    cases h1 : fresh i c0 with
    | false => rw [h1] at h; cases h
    | true =>
      rw [h1] at h
      cases h2 : noOut i qs with
      | false => rw [h2] at h; cases h
      | true =>
        rw [h2] at h
        rcases List.mem_cons.1 hb with e | hb
        · injection e with e _; subst e; exact ⟨h1, noOut_of h2⟩
        · exact nw_of h b x hb
theorem dr_of {ops : Array Oper} {A : Acc} {nw : Bool} {i : Nat} {s : Rec} (hA : AccOK A) (h : drOK true ops A nw i s = true) :
    (s.pg = none ∨ nw = true) ∧ (∀ q ∈ A.qs, ordB (befores ops.toList) q.1 i = true ∨ IndepP q.2 s) ∧ (nw = true → ∀ b x, (b, x) ∈ s.D → fresh b A.c0 = true ∧ ∀ q ∈ A.qs, outB q.2 b = false) := by
  unfold drOK at h
  simp only at h
  cases hw : wids s.D s.pg with
  | nil =>
    have hD : s.D = [] := by cases hd : s.D with | nil => rfl | cons x xs => rw [hd] at hw; obtain ⟨i, y⟩ := x; simp [wids] at hw
    have hp : s.pg = none := by rw [hD] at hw; cases hp : s.pg with | none => rfl | some b => rw [hp] at hw; simp [wids] at hw
    rw [hw] at h
    simp only at h
    refine ⟨.inl hp, fun q hq => ?_, fun _ b x hb => by rw [hD] at hb; cases hb⟩
    by_cases hq0 : wids q.2.D q.2.pg = []
    · exact .inr ⟨fun b hb => (by rw [hq0] at hb; cases hb), fun b hb => (by rw [hw] at hb; cases hb)⟩
    · have hqw := hA q hq hq0
      split at h
      · rename_i he; rw [he] at hqw; cases hqw
      · exact sep_of h q hqw
  | cons x xs =>
    rw [hw] at h
    simp only at h
    split at h
    · rename_i h1
      exact ⟨.inr rfl, sep_of h1, fun _ => nw_of h⟩
    · rename_i h1 h2
      exact ⟨.inl h2, sep_of h1, fun h => by cases h⟩
    · cases h
theorem freshO_setO {b i : Nat} {x : OBlk} (hi : b ≠ i) (hx : x.kd = .any → hasRow b x.rows = false) : ∀ {O : List (Nat × OBlk)}, freshO b O = true → freshO b (setO i x O) = true
  | [], _ => by
    have h1 : Nat.beq b i = false := by cases h : Nat.beq b i with | false => rfl | true => exact absurd (beq_true h) hi
    simp only [setO, freshO, h1]
    cases hk : x.kd <;> simp only
    rw [hx hk]
  | (j, y) :: r, h => by
    have h1 : Nat.beq b i = false := by cases h : Nat.beq b i with | false => rfl | true => exact absurd (beq_true h) hi
    have hr : freshO b r = true := by
      simp only [freshO] at h
      split at h
      · cases h
      · split at h
        · split at h
          · cases h
          · exact h
        · exact h
    simp only [setO]
    cases hj : Nat.beq j i with
    | true =>
      simp only [freshO, h1]
      cases hk : x.kd <;> simp only
      · exact hr
      · exact hr
      · rw [hx hk]; exact hr
    | false =>
      have ih := freshO_setO hi hx hr
      cases hbj : Nat.beq b j with
      | true => simp [freshO, hbj] at h
      | false =>
        simp only [freshO, hbj] at h ⊢
        cases hk : y.kd with
        | pure => exact ih
        | flat => exact ih
        | any =>
          simp only [hk] at h ⊢
          cases hr' : hasRow b y.rows with
          | true => rw [hr'] at h; cases h
          | false => exact ih
theorem freshO_delO {b p : Nat} : ∀ {O : List (Nat × OBlk)}, freshO b O = true → freshO b (delO p O) = true
  | [], _ => rfl
  | (j, y) :: r, h => by
    have hr : freshO b r = true := by
      simp only [freshO] at h
      split at h
      · cases h
      · split at h
        · split at h
          · cases h
          · exact h
        · exact h
    have ih := freshO_delO (p := p) hr
    simp only [delO]
    cases hj : Nat.beq j p with
    | true => exact ih
    | false =>
      cases hbj : Nat.beq b j with
      | true => simp [freshO, hbj] at h
      | false =>
        simp only [freshO, hbj] at h ⊢
        cases hk : y.kd with
        | pure => exact ih
        | flat => exact ih
        | any =>
          simp only [hk] at h ⊢
          cases hr' : hasRow b y.rows with
          | true => rw [hr'] at h; cases h
          | false => exact ih
theorem freshO_setD {b : Nat} : ∀ {D O : List (Nat × OBlk)}, outD b D = false → freshO b O = true → freshO b (setD D O) = true
  | [], O, _, h => h
  | (i, x) :: D, O, hD, h => by
    simp only [outD] at hD
    split at hD
    · cases hD
    · rename_i hi
      have hi := beq_false hi
      have key : outD b D = false ∧ (x.kd = .any → hasRow b x.rows = false) := by
        split at hD
        · split at hD
          · cases hD
          · rename_i hr; exact ⟨hD, fun _ => hr⟩
        · rename_i hk; exact ⟨hD, fun hk' => absurd hk' (by simpa using hk)⟩
      exact freshO_setO (fun e => hi e.symm) key.2 (freshO_setD key.1 h)
theorem fresh_app {b : Nat} {c : Cfg} {dst : Option Nat} {r : Res} (hp : NoP r) (hv : r.v.has b = false) (hD : outD b r.D = false) (h : fresh b c = true) : fresh b (c.app dst r) = true := by
  simp only [fresh, Bool.and_eq_true] at h ⊢
  obtain ⟨h, hpn⟩ := h
  refine ⟨⟨?_, ?_⟩, hpn⟩
  · rw [app_fr hp]
    cases dst with
    | none => exact h.1
    | some d => simp only [putF, freshF, hv]; exact h.1
  · unfold Cfg.app
    cases hq : r.pg with
    | none => exact freshO_setD hD h.2
    | some p =>
      rcases hp with hp | hp
      · rw [hq] at hp; cases hp
      · rw [hp]; exact freshO_setD hD (freshO_delO h.2)
theorem cfgS_fresh {s : Nat → Bool} {b : Nat} : ∀ {l : List Oper} {rs : List Res} {i : Nat} {c : Cfg}, (∀ r ∈ rs, NoP r) → fresh b c = true → (∀ (k : Nat) o r, l[k]? = some o → rs[k]? = some r → s (i + k) = true → r.v.has b = false ∧ outD b r.D = false) → fresh b (cfgS s i l rs c) = true
  | [], _, _, _, _, h, _ => by simpa [cfgS] using h
  | o :: l, [], _, _, _, h, _ => by simpa [cfgS] using h
  | o :: l, r :: rs, i, c, hp, h, hv => by
    simp only [cfgS]
    refine cfgS_fresh (fun r' hr' => hp r' (by simp [hr'])) ?_ (fun k o' r' ho hr hs => hv (k + 1) o' r' (by simpa using ho) (by simpa using hr) (by rw [show i + (k + 1) = i + 1 + k by omega]; exact hs))
    split
    · rename_i hs
      obtain ⟨h1, h2⟩ := hv 0 o r (by simp) (by simp) (by simpa using hs)
      exact fresh_app (hp r (by simp)) h1 h2 h
    · exact h

theorem ord_in {ops : List Oper} {bs : List Nat} (hj : justified ops bs = true) {L : Nat → Bool} (hcl : ∀ (j : Nat) o, ops[j]? = some o → L j = true → ∀ e ∈ o.after, Region.binds .any e = true → L e.on = true) :
    ∀ (j : Nat) (o : Oper), ops[j]? = some o → (∀ e ∈ o.after, Region.binds .any e = true → L e.on = true) → ∀ i, i < ops.length → ordB bs i j = true → L i = true := by
  intro j
  induction j using Nat.strongRecOn with
  | _ j ih =>
    intro o ho hr i hi hb
    have hjl : j < ops.length := (List.getElem?_eq_some_iff.1 ho).1
    have h1 := List.all_eq_true.1 hj j (List.mem_range.2 hjl)
    have h2 := List.all_eq_true.1 h1 i (List.mem_range.2 hi)
    rw [ho] at h2
    unfold ordB at hb
    rw [hb] at h2
    simp only [Bool.not_true, Bool.false_or] at h2
    obtain ⟨e, he, hh⟩ := List.any_eq_true.1 h2
    simp only [Bool.and_eq_true, Bool.or_eq_true] at hh
    have hle := hr e (by simpa using he) hh.1
    rcases hh.2 with h3 | ⟨h3, h4⟩
    · rw [← beq_true h3]; exact hle
    · have hlt : e.on < j := Nat.le_of_ble_eq_true h3
      have hel : e.on < ops.length := by omega
      exact ih e.on hlt _ (List.getElem?_eq_getElem hel) (hcl e.on _ (List.getElem?_eq_getElem hel) hle) i hi h4
end
end Go.Abs
namespace Go.Abs
section
open Go.RowKit
set_option linter.unusedVariables false

section
variable {P : Program} {T : Tab} {E : Env} {c c' : Cfg} {a : Act} {w : World} {o : Oper} {r : Res} {ops : Array Oper} {dm : List (Nat × Bool)} {N : Nat} {dr : Bool}

theorem opv_eq (hlk : ∀ t ∈ o.looksAt ops, lk c'.fr t = lk c.fr t) : ∀ x ∈ o.op.operands, opv c x = opv c' x := by
  intro x hx
  cases x with
  | tmp t =>
    simp only [opv]
    exact (hlk t (by
      unfold Oper.looksAt
      exact List.mem_append_left _ (List.mem_filterMap.2 ⟨.tmp t, by simpa using hx, rfl⟩))).symm
  | const v => rfl
  | global g => rfl
  | func f => rfl
theorem guard_eq (hlk : ∀ t ∈ o.looksAt ops, lk c'.fr t = lk c.fr t) {j d : Nat} {want : Bool} (hg : o.guard = some (j, want)) (hgs : gslot ops j = some d) : lk c'.fr d = lk c.fr d := by
  refine hlk d ?_
  unfold Oper.looksAt
  refine List.mem_append_right _ ?_
  rw [hg]
  unfold gslot at hgs
  simp only [hgs]
  simp

theorem opg_reach {d : Nat} {want : Bool} {b : Nat} (h : RReach (olk c.O) (o.op.operands.toList.map (opg c d want)) b) : RReach (olk c.O) (o.op.operands.toList.map (opv c)) b := by
  refine h.sub fun b hb => ?_
  generalize o.op.operands.toList = xs at hb
  induction xs with
  | nil => exact hb
  | cons x xs ih =>
    simp only [List.map_cons, AV.hasL, Bool.or_eq_true] at hb ⊢
    rcases hb with hb | hb
    · left
      cases hv : (opv c x).has b with
      | true => rfl
      | false =>
        have : (opg c d want x).has b = false := by
          unfold opg
          split
          · exact strip_has (strip_has hv)
          · exact strip_has hv
        rw [this] at hb; cases hb
    · exact .inr (ih hb)
theorem evOp_move (h : lookO o = false) (val : Operand → AV) (own own' : Nat → Option OBlk) : evOp dr T val own o = evOp dr T val own' o := by
  unfold lookO at h
  split at h
  · rename_i x hop
    unfold evOp
    rw [hop]
  · cases h
theorem StepOK.transport (h : StepOK dr P T N ops o c r) (hlk : ∀ t ∈ o.looksAt ops, lk c'.fr t = lk c.fr t) (hR : ∀ b, lookO o = true → RReach (olk c.O) (o.op.operands.toList.map (opv c)) b → olk c'.O b = olk c.O b) (hd' : dstOK N c' o.dst = true)
    (hfd : freshD c r.nw r.D = true → freshD c' r.nw r.D = true) : StepOK dr P T N ops o c' r := by
  have own : ∀ val : Operand → AV, (∀ b, RReach (olk c.O) (o.op.operands.toList.map val) b → RReach (olk c.O) (o.op.operands.toList.map (opv c)) b) → evOp dr T val (olk c'.O) o = evOp dr T val (olk c.O) o := by
    intro val hv
    cases hm : lookO o with
    | false => exact evOp_move hm _ _ _
    | true => exact evOp_own fun b hb => hR b hm (hv b hb)
  cases h with
  | run hg hd hh hf hno => exact .run hg hd' (by rw [← evOp_congr (opv_eq hlk), own _ fun _ hb => hb]; exact hh) (hfd hf) hno
  | yes hg hgs hl hd hh hf hno => exact .yes hg hgs (by rw [guard_eq hlk hg hgs]; exact hl) hd' (by rw [← evOp_congr (opv_eq hlk), own _ fun _ hb => hb]; exact hh) (hfd hf) hno
  | skip hg hgs hl hne hd => exact .skip hg hgs (by rw [guard_eq hlk hg hgs]; exact hl) hne hd'
  | dead hg hgs hl hd => exact .dead hg hgs (by rw [guard_eq hlk hg hgs]; exact hl) hd'
  | spec hg hgs hb hne hd hh hD' hpg =>
    rename_i j d want r'
    have hlk' := guard_eq hlk hg hgs
    refine .spec hg hgs (by rw [hlk']; exact hb) hne hd' ?_ hD' hpg
    rw [evOp_congr (val' := opg c d want) (fun x hx => ?_), own _ fun _ hb => opg_reach hb]
    · exact hh
    · unfold opg
      rw [hlk', opv_eq hlk x hx]

/-- what an operation leaves is reckoned under a guard only if it is guarded -/
theorem StepOK.tag (h : StepOK dr P T N ops o c r) {d : Nat} {want : Bool} {v : AV} (hv : r.v = .opt d want v) : d ∈ o.looksAt ops := by
  cases h with
  | run hg hd hh hf hno => rw [hv] at hno; cases hno
  | yes hg hgs hl hd hh hf hno => rw [hv] at hno; cases hno
  | skip => cases hv
  | dead => cases hv
  | spec hg hgs hb hne hd hh hD' hpg =>
    rename_i j d' want' r'
    simp only at hv
    have : d' = d := by
      unfold wrapOpt at hv
      split at hv
      · cases hv
      · injection hv
    subst this
    unfold Oper.looksAt
    refine List.mem_append_right _ ?_
    rw [hg]
    unfold gslot at hgs
    simp only [hgs]
    simp

theorem SR.same (h : SR E c a w) (hlk : ∀ t, lk c'.fr t = lk c.fr t) (hO : ∀ b, olk c'.O b = olk c.O b) : SR E c' a w := by
  obtain ⟨K, h⟩ := h
  exact ⟨K, h.weak (fun t => .inl (hlk t)) (fun b x hb => by rw [hO] at hb; exact hb)⟩

theorem reach_of {s : Rec} {b : Nat} (h : reachB s b = false) : ¬ RReach (olk s.O) s.vals b := by
  unfold reachB at h
  cases h1 : AV.hasL b s.vals with
  | true => rw [h1] at h; cases h
  | false =>
    rw [h1] at h
    rintro (h2 | ⟨i, x, h2, h3, h4, h5⟩)
    · rw [h1] at h2; cases h2
    · have hm := olk_mem h2
      simp only at h
      generalize s.O = O at h hm
      induction O with
      | nil => cases hm
      | cons p O ih =>
        obtain ⟨j, y⟩ := p
        unfold reachO at h
        rcases List.mem_cons.1 hm with e | hm
        · injection e with e1 e2; subst e1 e2
          rw [h3] at h
          simp only [h4, h5] at h
          cases h
        · refine ih ?_ hm
          split at h
          · split at h
            · split at h
              · cases h
              · exact h
            · exact h
          · exact h
theorem out_of {s : Rec} {b : Nat} (h : outB s b = false) : s.v.has b = false ∧ outD b s.D = false ∧ b ∉ wids s.D s.pg := by
  unfold outB at h
  cases h1 : s.v.has b with
  | true => rw [h1] at h; cases h
  | false =>
    rw [h1] at h
    cases h2 : outD b s.D with
    | true => rw [h2] at h; cases h
    | false =>
      rw [h2] at h
      refine ⟨rfl, rfl, fun hb => ?_⟩
      rcases wids_mem hb with ⟨x, hx⟩ | hp
      · have : ∀ {D : List (Nat × OBlk)}, (b, x) ∈ D → outD b D = true := by
          intro D
          induction D with
          | nil => intro h; cases h
          | cons p D ih =>
            intro h
            obtain ⟨j, y⟩ := p
            unfold outD
            rcases List.mem_cons.1 h with e | h
            · injection e with e1 _; subst e1
              rw [show Nat.beq b b = true from Nat.beq_refl b]
            · rw [ih h]
              split
              · rfl
              · split
                · split <;> rfl
                · rfl
        rw [this hx] at h2; cases h2
      · rw [hp] at h
        simp only [isP] at h
        rw [show Nat.beq b b = true from Nat.beq_refl b] at h; cases h
theorem freshD_all {nw : Bool} : ∀ {D : List (Nat × OBlk)}, freshD c nw D = true ↔ ∀ b x, (b, x) ∈ D → (nw = true → fresh b c = true) ∧ (nw = false → (olk c.O b).isSome = true)
  | [] => by simp [freshD]
  | (i, y) :: D => by
    have ih := freshD_all (nw := nw) (D := D)
    unfold freshD
    cases nw with
    | true =>
      dsimp only
      cases h1 : fresh i c with
      | true =>
        dsimp only
        rw [ih]
        constructor
        · intro h b x hb
          rcases List.mem_cons.1 hb with e | hb
          · injection e with e _; subst e; exact ⟨fun _ => h1, fun h => by cases h⟩
          · exact h b x hb
        · intro h b x hb; exact h b x (List.mem_cons_of_mem _ hb)
      | false =>
        refine ⟨fun h => (by cases h), fun h => ?_⟩
        have := (h i y (by simp)).1 rfl
        rw [h1] at this; cases this
    | false =>
      dsimp only
      cases h1 : olk c.O i with
      | some z =>
        dsimp only
        rw [ih]
        constructor
        · intro h b x hb
          rcases List.mem_cons.1 hb with e | hb
          · injection e with e _; subst e; exact ⟨fun h => (by cases h), fun _ => by rw [h1]; rfl⟩
          · exact h b x hb
        · intro h b x hb; exact h b x (List.mem_cons_of_mem _ hb)
      | none =>
        refine ⟨fun h => (by cases h), fun h => ?_⟩
        have := (h i y (by simp)).2 rfl
        rw [h1] at this; cases this

theorem count_set : ∀ {l : List Bool} {i : Nat}, l[i]? = some false → (l.set i true).count false + 1 = l.count false
  | [], _, h => by simp at h
  | b :: l, 0, h => by simp at h; subst h; simp
  | b :: l, i + 1, h => by
    have := count_set (l := l) (i := i) (by simpa using h)
    simp only [List.set_cons_succ, List.count_cons]
    omega

set_option maxHeartbeats 1000000 in
theorem draw_sound (hT : TabOK P T) (h1 : TabOne T = true) (hN : E.N = N) (hm : P.follows .mixedOrders = true) (hst : drawSt ops = true) {Kk : Cfg → Prop} {Q : Exit → Act → World → Prop} {id : Nat}
    (hQ : ∀ c a w, Kk c → SR E c a w → Q .normal a w) (h : evOps true P T N dm ops ⟨c, [], []⟩ 0 ops.toList c Kk) (hs : SR E c a w) : (Code.region id ops true).wp P Q a w := by
  simp only [drawSt, Bool.and_eq_true] at hst
  obtain ⟨⟨hju, hed⟩, hpa⟩ := hst
  obtain ⟨rs, hlen, houts, hfin⟩ := evOps_outs h
  have hacc : AccOK ⟨c, [], []⟩ := by intro q hq; cases hq
  have hj : ∀ (j : Nat) o r, ops.toList[j]? = some o → rs[j]? = some r → StepOK true P T N ops o (cfgS (fun k => decide (k < j)) 0 ops.toList rs c) r ∧ NoP r ∧
      (∀ (k : Nat) o' r', k < j → ops.toList[k]? = some o' → rs[k]? = some r' → ordB (befores ops.toList) k j = true ∨ IndepP (mkRec o' (cfgS (fun m => decide (m < k)) 0 ops.toList rs c) r'.D r'.pg r'.v) (mkRec o (cfgS (fun m => decide (m < j)) 0 ops.toList rs c) r.D r.pg r.v)) ∧
      (r.nw = true → ∀ b x, (b, x) ∈ r.D → fresh b c = true ∧ ∀ (k : Nat) o' r', k < j → ops.toList[k]? = some o' → rs[k]? = some r' → outB (mkRec o' (cfgS (fun m => decide (m < k)) 0 ops.toList rs c) r'.D r'.pg r'.v) b = false) := by
    intro j o r ho hr
    obtain ⟨B, b1, b2, _, b4, b5, b6⟩ := outs_get houts hacc ho hr
    simp only [Nat.zero_add] at b4 b5 b6
    obtain ⟨d1, d2, d3⟩ := dr_of b1 b5
    refine ⟨b4, d1, fun k o' r' hk ho' hr' => d2 _ (b6 k o' r' hk ho' hr'), fun hnw b x hb => ?_⟩
    obtain ⟨f1, f2⟩ := d3 hnw b x hb
    rw [b2] at f1
    exact ⟨f1, fun k o' r' hk ho' hr' => f2 _ (b6 k o' r' hk ho' hr')⟩
  simp only [Nat.zero_add] at hfin
  have hn : ops.toList.length = ops.size := by simp
  have hget : ∀ j, j < ops.size → ∃ o r, ops.toList[j]? = some o ∧ rs[j]? = some r := fun j hj' => ⟨_, _, List.getElem?_eq_getElem (by simpa using hj'), List.getElem?_eq_getElem (by rw [hlen]; simpa using hj')⟩
  have hpg : ∀ r ∈ rs, NoP r := by
    intro r hr
    obtain ⟨j, hjr⟩ := List.getElem?_of_mem hr
    have hjl : j < ops.size := by have := (List.getElem?_eq_some_iff.1 hjr).1; rw [hlen] at this; simpa using this
    obtain ⟨o, r', ho, hr'⟩ := hget j hjl
    rw [hjr] at hr'; injection hr' with hr'; subst hr'
    exact (hj j o r ho hjr).2.1
  -- unordered pairs are apart
  have hapart : ∀ (i j : Nat) (x y : Oper), i < j → ops.toList[i]? = some x → ops.toList[j]? = some y → ordB (befores ops.toList) i j = false → x.apart ops y = true := by
    intro i j x y hij hx hy ho
    have hjl : j < ops.size := by have := (List.getElem?_eq_some_iff.1 hy).1; simpa using this
    have h2 := List.all_eq_true.1 (List.all_eq_true.1 hpa j (List.mem_range.2 hjl)) i (List.mem_range.2 hij)
    rw [ho, Bool.false_or] at h2
    simp only [Array.getElem?_toList] at hx hy
    rw [hx, hy] at h2
    exact h2
  have key : ∀ (fuel : Nat) (listed : Array Bool) (a : Act) (w : World), listed.size = ops.size → listed.toList.count false = fuel →
      (∀ (j : Nat) o, ops.toList[j]? = some o → listed.getD j false = true → ∀ e ∈ o.after, Region.binds .any e = true → listed.getD e.on false = true) →
      SR E (cfgS (fun k => listed.getD k false) 0 ops.toList rs c) a w → wpAny P .any ops Q fuel listed a w := by
    intro fuel
    induction fuel with
    | zero =>
      intro listed a w hsz hcnt hcl hs
      have hall : ∀ k, k < ops.size → listed.getD k false = true := by
        intro k hk
        have hk' : k < listed.size := by omega
        have : false ∉ listed.toList := List.count_eq_zero.1 hcnt
        cases hb : listed[k] with
        | true => simp [Array.getD, hk', hb]
        | false => exact absurd (Array.mem_toList_iff.2 (by rw [← hb]; exact Array.getElem_mem hk')) this
      refine ⟨?_, hQ _ a w hfin ?_⟩
      · unfold Region.ready
        rw [List.filter_eq_nil_iff]
        intro k hk
        have hk' : k < ops.size := List.mem_range.1 hk
        have := hall k hk'
        have hk'' : k < listed.size := by omega
        simp [Array.getD, hk''] at this ⊢
        simp [this]
      · have e : cfgS (fun k => decide (k < ops.toList.length)) 0 ops.toList rs c = cfgS (fun k => listed.getD k false) 0 ops.toList rs c := cfgS_congr fun k hk => by
          simp only [Nat.zero_add]
          rw [hall k (by simpa using hk)]
          simpa using hk
        rw [e]
        exact hs
    | succ fuel ih =>
      intro listed a w hsz hcnt hcl hs
      have hmem : ∀ i, i ∈ Region.ready .any ops listed ↔ i < ops.size ∧ listed.getD i false = false ∧ ∀ o, ops.toList[i]? = some o → ∀ e ∈ o.after, Region.binds .any e = true → listed.getD e.on false = true := by
        intro i
        unfold Region.ready
        rw [List.mem_filter, List.mem_range]
        constructor
        · rintro ⟨hi, hb⟩
          rw [Bool.and_eq_true] at hb
          have hi' : i < listed.size := by omega
          refine ⟨hi, by have := hb.1; simp [Array.getD, hi'] at this ⊢; exact this, fun o ho e he hbe => ?_⟩
          have ho' : ops[i]? = some o := by simpa using ho
          have h2 := hb.2
          rw [ho'] at h2
          simp only [Option.map_some, Option.getD_some, Array.all_eq_true_iff_forall_mem] at h2
          have := h2 e he
          simpa [hbe] using this
        · rintro ⟨hi, hl, hb⟩
          refine ⟨hi, ?_⟩
          rw [Bool.and_eq_true]
          have hi' : i < listed.size := by omega
          refine ⟨by simp [Array.getD, hi'] at hl ⊢; exact hl, ?_⟩
          have ho' : ops[i]? = some ops[i] := by simp [hi]
          rw [ho']
          simp only [Option.map_some, Option.getD_some, Array.all_eq_true_iff_forall_mem]
          intro e he
          cases hbe : Region.binds .any e
          · rfl
          · simpa using hb ops[i] (by simp [hi]) e he hbe
      refine ⟨fun hnil => ?_, fun i hi => ?_⟩
      · -- something is left, and the first that is left can come
        exfalso
        have hex : ∃ k, k < ops.size ∧ listed.getD k false = false := by
          have : false ∈ listed.toList := List.count_pos_iff.1 (by omega)
          obtain ⟨k, hk, he⟩ := List.mem_iff_getElem.1 this
          have hk' : k < listed.size := by simpa using hk
          exact ⟨k, by omega, by simp [Array.getD, hk']; simpa using he⟩
        obtain ⟨k, hk1, hk2, hk3⟩ : ∃ k, k < ops.size ∧ listed.getD k false = false ∧ ∀ m, m < k → listed.getD m false = true := by
          obtain ⟨k, hk⟩ := hex
          induction k using Nat.strongRecOn with
          | _ k ihk =>
            by_cases hm' : ∃ m, m < k ∧ listed.getD m false = false
            · obtain ⟨m, hm1, hm2⟩ := hm'
              exact ihk m hm1 ⟨by omega, hm2⟩
            · exact ⟨k, hk.1, hk.2, fun m hm1 => by
                cases hb : listed.getD m false
                · exact absurd ⟨m, hm1, hb⟩ hm'
                · rfl⟩
        have : k ∈ Region.ready .any ops listed := (hmem k).2 ⟨hk1, hk2, fun o ho e he hbe => by
          have h2 := List.all_eq_true.1 hed k (List.mem_range.2 (by simpa using hk1))
          rw [ho] at h2
          have h3 := List.all_eq_true.1 h2 e (by simpa using he)
          rw [hbe] at h3
          simp only [Bool.not_true, Bool.false_or] at h3
          exact hk3 e.on (Nat.le_of_ble_eq_true h3)⟩
        rw [hnil] at this
        cases this
      · obtain ⟨hil, hiu, hir⟩ := (hmem i).1 hi
        obtain ⟨o, r, ho, hr⟩ := hget i hil
        have hstep := (hj i o r ho hr).1
        have hil' : i < listed.size := by omega
        -- who is chosen
        have before : ∀ k, k < i → listed.getD k false = false → ordB (befores ops.toList) k i = false := by
          intro k hk hl
          cases hb : ordB (befores ops.toList) k i
          · rfl
          · have := ord_in hju hcl i o ho (hir o ho) k (by simp; omega) hb
            rw [hl] at this; cases this
        have behind : ∀ k, i < k → k < ops.size → listed.getD k false = true → ordB (befores ops.toList) i k = false := by
          intro k hk hkl hl
          cases hb : ordB (befores ops.toList) i k
          · rfl
          · obtain ⟨o', r', ho', _⟩ := hget k hkl
            have := ord_in hju hcl k o' ho' (hcl k o' ho' hl) i (by simp; omega) hb
            rw [hiu] at this; cases this
        -- who is chosen and touches what the operation looks at
        have touch : ∀ (k : Nat) x t, ops.toList[k]? = some x → x.dst = some t → t ∈ o.looksAt ops → listed.getD k false = decide (k < i) := by
          intro k x t hx hxt hto
          have hkl : k < ops.size := by have := (List.getElem?_eq_some_iff.1 hx).1; simpa using this
          rcases Nat.lt_trichotomy k i with hlt | heq | hgt
          · cases hl : listed.getD k false
            · have := hapart k i x o hlt hx ho (before k hlt hl)
              exact absurd hto ((Oper.apart_spec this).1 t hxt)
            · simp [hlt]
          · subst heq; rw [hiu]; simp
          · cases hl : listed.getD k false
            · simp; omega
            · have := hapart i k o x hgt ho hx (behind k hgt hkl hl)
              exact absurd hto ((Oper.apart_spec this).2.2 t hxt)
        have writers : ∀ (b k : Nat) r', k < ops.size → rs[k]? = some r' → b ∈ wids r'.D r'.pg → k ≠ i → (b ∈ wids r.D r.pg ∨ (lookO o = true ∧ RReach (olk (cfgS (fun m => decide (m < i)) 0 ops.toList rs c).O) (o.op.operands.toList.map (opv (cfgS (fun m => decide (m < i)) 0 ops.toList rs c))) b)) → listed.getD k false = decide (k < i) := by
          intro b k r' hkl hr' hb hki hor
          obtain ⟨o', r'', ho', hr''⟩ := hget k hkl
          rw [hr'] at hr''; injection hr'' with hr''; subst hr''
          have no : reachB (mkRec o (cfgS (fun m => decide (m < i)) 0 ops.toList rs c) r.D r.pg r.v) b = false ∧ outB (mkRec o (cfgS (fun m => decide (m < i)) 0 ops.toList rs c) r.D r.pg r.v) b = false → False := by
            rintro ⟨n1, n2⟩
            rcases hor with hor | hor
            · exact (out_of n2).2.2 hor
            · have e : mkRec o (cfgS (fun m => decide (m < i)) 0 ops.toList rs c) r.D r.pg r.v = ⟨o.op.operands.toList.map (opv (cfgS (fun m => decide (m < i)) 0 ops.toList rs c)), (cfgS (fun m => decide (m < i)) 0 ops.toList rs c).O, r.v, r.D, r.pg⟩ := by
                unfold mkRec; rw [hor.1]
              rw [e] at n1
              exact reach_of n1 hor.2
          rcases Nat.lt_or_ge k i with hlt | hge
          · cases hl : listed.getD k false
            · rcases (hj i o r ho hr).2.2.1 k o' r' hlt ho' hr' with h2 | h2
              · rw [before k hlt hl] at h2; cases h2
              · exact (no (h2.1 b hb)).elim
            · simp [hlt]
          · have hgt : i < k := by omega
            cases hl : listed.getD k false
            · simp; omega
            · rcases (hj k o' r' ho' hr').2.2.1 i o r hgt ho hr with h2 | h2
              · rw [behind k hgt hkl hl] at h2; cases h2
              · exact (no (h2.2 b hb)).elim
        -- the step in the state that is there
        have hstep' : StepOK true P T N ops o (cfgS (fun k => listed.getD k false) 0 ops.toList rs c) r := by
          have holk : ∀ b, (b ∈ wids r.D r.pg ∨ (lookO o = true ∧ RReach (olk (cfgS (fun m => decide (m < i)) 0 ops.toList rs c).O) (o.op.operands.toList.map (opv (cfgS (fun m => decide (m < i)) 0 ops.toList rs c))) b)) →
              olk (cfgS (fun k => listed.getD k false) 0 ops.toList rs c).O b = olk (cfgS (fun m => decide (m < i)) 0 ops.toList rs c).O b := by
            intro b hor
            refine cfgS_olk hpg (fun k r' hk hr' hb => ?_) rfl
            simp only [Nat.zero_add]
            by_cases hki : k = i
            · subst hki; rw [hiu]; simp
            · exact writers b k r' (by simpa using hk) hr' hb hki hor
          refine hstep.transport (fun t ht => ?_) (fun b hm hb => holk b (.inr ⟨hm, hb⟩)) ?_ fun hfd => ?_
          · exact cfgS_lk hpg (fun k x hx hxt => by simp only [Nat.zero_add]; exact touch k x t hx hxt ht) rfl
          · have hd0 : dstOK N (cfgS (fun k => decide (k < i)) 0 ops.toList rs c) o.dst = true := by cases hstep <;> assumption
            cases hdst : o.dst with
            | none => rfl
            | some d =>
              rw [hdst] at hd0
              simp only [dstOK, Bool.and_eq_true] at hd0 ⊢
              refine ⟨hd0.1, ?_⟩
              obtain ⟨n1, n2⟩ := noOpt_cfgS hpg hd0.2
              refine cfgS_noOpt hpg n1 fun k x r' hx hr' hsel hxd w' v' hv => ?_
              simp only [Nat.zero_add] at hsel n2
              have hkl : k < ops.size := by have := (List.getElem?_eq_some_iff.1 hx).1; simpa using this
              rcases Nat.lt_trichotomy k i with hlt | heq | hgt
              · exact n2 k x r' hx hr' (by simpa using hlt) hxd w' v' hv
              · subst heq; rw [hiu] at hsel; cases hsel
              · have hap := hapart i k o x hgt ho hx (behind k hgt hkl hsel)
                exact (Oper.apart_spec hap).1 d hdst ((hj k x r' hx hr').1.tag hv)
          · rw [freshD_all] at hfd ⊢
            intro b x hb
            obtain ⟨h1', h2'⟩ := hfd b x hb
            refine ⟨fun hnw => ?_, fun hnw => by rw [holk b (.inl (wids_of hb))]; exact h2' hnw⟩
            obtain ⟨g1, g2⟩ := (hj i o r ho hr).2.2.2 hnw b x hb
            refine cfgS_fresh hpg g1 fun k o' r' ho' hr' hsel => ?_
            simp only [Nat.zero_add] at hsel
            have hkl : k < ops.size := by have := (List.getElem?_eq_some_iff.1 ho').1; simpa using this
            rcases Nat.lt_trichotomy k i with hlt | heq | hgt
            · have := out_of (g2 k o' r' hlt ho' hr')
              exact ⟨this.1, this.2.1⟩
            · subst heq; rw [hiu] at hsel; cases hsel
            · rcases (hj k o' r' ho' hr').2.2.1 i o r hgt ho hr with h2 | h2
              · rw [behind k hgt hkl hsel] at h2; cases h2
              · have := out_of (h2.1 b (wids_of hb)).2
                exact ⟨this.1, this.2.1⟩
        refine wpOp_mono (fun a' w' hs' => ?_) (step_sound hT h1 hN (by simpa using ho) hstep' hs)
        -- the state behind it
        have hL : ∀ k, (listed.setIfInBounds i true).getD k false = if k = i then true else listed.getD k false := by
          intro k
          simp only [Array.getD_eq_getD_getElem?, Array.getElem?_setIfInBounds]
          by_cases hk : i = k
          · subst hk; simp [hil']
          · rw [if_neg hk, if_neg (fun e => hk e.symm)]
        refine ih (listed.setIfInBounds i true) a' w' (by simp [hsz]) ?_ ?_ ?_
        · have hli : listed.toList[i]? = some false := by
            have := hiu
            simp [Array.getD, hil'] at this
            simp [hil', this]
          have := count_set hli
          rw [Array.toList_setIfInBounds]
          omega
        · intro j o' ho' hl e he hbe
          rw [hL] at hl ⊢
          split
          · rfl
          · split at hl
            · rename_i hji; subst hji
              exact hir o' ho' e he hbe
            · exact hcl j o' ho' hl e he hbe
        · refine hs'.same (fun t => ?_) ?_
          · rw [lk_app (hpg r (List.mem_of_getElem? hr))]
            by_cases hdt : o.dst = some t
            · rw [if_pos hdt]
              refine cfgS_last hpg ho hr hdt (by simp [hL]) fun k x hik hx hxt => ?_
              simp only [Nat.zero_add, hL]
              rw [if_neg (by omega)]
              cases hl : listed.getD k false
              · rfl
              · have hkl : k < ops.size := by have := (List.getElem?_eq_some_iff.1 hx).1; simpa using this
                have hap := hapart i k o x hik ho hx (behind k hik hkl hl)
                exact absurd hxt ((Oper.apart_spec hap).2.1 t hdt)
            · rw [if_neg hdt]
              refine cfgS_lk hpg (fun k x hx hxt => ?_) rfl
              simp only [Nat.zero_add, hL]
              rw [if_neg]
              rintro rfl
              rw [ho] at hx; injection hx with hx; subst hx; exact hdt hxt
          · intro b
            by_cases hb : b ∈ wids r.D r.pg
            · refine cfgS_olk_last hpg ho hr hb (by simp [hL]) fun k r' hik hr' hb' => ?_
              simp only [Nat.zero_add, hL]
              rw [if_neg (by omega)]
              have hkl : k < ops.size := by have := (List.getElem?_eq_some_iff.1 hr').1; rw [hlen] at this; simpa using this
              rw [writers b k r' hkl hr' hb' (by omega) (.inl hb)]
              simp; omega
            · rw [olk_app_not (hpg r (List.mem_of_getElem? hr)) hb]
              refine cfgS_olk hpg (fun k r' hk hr' hb' => ?_) rfl
              simp only [Nat.zero_add, hL]
              rw [if_neg]
              rintro rfl
              rw [hr] at hr'; injection hr' with hr'; subst hr'; exact hb hb'
  have hrep : ∀ k, (Array.replicate ops.size false).getD k false = false := by
    intro k
    rw [Array.getD_eq_getD_getElem?]
    rw [Array.getElem?_replicate]
    split <;> rfl
  refine wp_region_any hm (key ops.size (Array.replicate ops.size false) a _ (by simp) (by simp) (fun j o ho hl => ?_) ?_)
  · rw [hrep] at hl; cases hl
  · obtain ⟨K, hs⟩ := hs
    rw [cfgS_none _ _ _ _ _ (fun k _ => hrep k)]
    exact ⟨K, hs.move (Step.drawn _ w (w.drawn + 1))⟩
end
end
end Go.Abs
namespace Go.Abs
section
open Go.RowKit
set_option linter.unusedVariables false

def drawsOK : Code → Bool
  | .skip => true
  | .region _ ops dr => match dr with | true => drawSt ops | false => true
  | .seq x y => drawsOK x && drawsOK y
  | .cond _ x y => drawsOK x && drawsOK y
  | .block _ b => drawsOK b
  | .exit _ => true
  | .ret => true
  | .loop b => drawsOK b
  | _ => true

def Ex.toExit : Ex → Exit
  | .normal => .normal
  | .exit id => .exit id
  | .ret => .ret

section
variable {P : Program} {T : Tab} {E : Env} {N : Nat} {ks : List Nat}

theorem SR.endK {c : Cfg} {a : Act} {w : World} (h : SR E c a w) : SR E ⟨keepF c.fr ks, c.O⟩ a w := by
  obtain ⟨K, h⟩ := h
  exact ⟨K, h.weak (fun t => lk_keep c.fr ks t) fun b x hb => hb⟩

theorem opv_FV {c : Cfg} {a : Act} {w : World} (h : SR E c a w) {x : Operand} {b : Bool} (hx : opv c x = .bool b) : a.eval x = .bool b := by
  obtain ⟨K, h⟩ := h
  cases x with
  | tmp t =>
    have := h.fr t
    simp only [opv] at hx
    rw [hx] at this
    exact VR.bool_inv this
  | const v =>
    simp only [opv] at hx
    split at hx
    · unfold AV.ofVal at hx
      split at hx
      · cases hx
      · unfold AV.ofCell at hx
        split at hx <;> first | (injection hx with hx; subst hx; rfl) | cases hx
    · cases hx
  | global g => simp [opv] at hx
  | func f => simp [opv] at hx

theorem ev_sound (hT : TabOK P T) (h1 : TabOne T = true) (hN : E.N = N) (hm : P.follows .mixedOrders = true) :
    ∀ (code : Code) (c : Cfg) (Q : Ex → Cfg → Prop) (Q' : Exit → Act → World → Prop) (a : Act) (w : World), drawsOK code = true → ev P T N ks code c Q →
      (∀ e c a w, Q e c → SR E c a w → Q' e.toExit a w) → SR E c a w → code.wp P Q' a w
  | .skip, c, Q, Q', a, w, hd, h, hQ, hs => wp_skip (hQ .normal c a w h hs)
  | .region id ops dr, c, Q, Q', a, w, hd, h, hQ, hs => by
    have h' : ∃ dm, evOps dr P T N dm ops ⟨c, [], []⟩ 0 ops.toList c fun c' => endK ks c' (Q .normal) := by
      simp only [ev] at h
      split at h
      · exact ⟨[], h⟩
      · exact h
    obtain ⟨dm, h'⟩ := h'
    have hQ' : ∀ c a w, endK ks c (Q .normal) → SR E c a w → Q' .normal a w := fun c a w hk hs => hQ .normal _ a w (endK_iff.1 hk) hs.endK
    cases dr with
    | false =>
      refine wp_region ?_
      have := evOps_sound hT h1 hN hQ' ops.toList _ 0 c a w (fun j => by simp) h' hs
      rw [show ops.toList.length = ops.size by simp, ← List.range_eq_range'] at this
      exact this
    | true => exact draw_sound hT h1 hN hm hd hQ' h' hs
  | .seq x y, c, Q, Q', a, w, hd, h, hQ, hs => by
    simp only [drawsOK, Bool.and_eq_true] at hd
    refine wp_seq (ev_sound hT h1 hN hm x c _ _ a w hd.1 h (fun e c a w hq hs => ?_) hs)
    cases e with
    | normal => exact ev_sound hT h1 hN hm y c Q Q' a w hd.2 hq hQ hs
    | exit id => exact hQ _ c a w hq hs
    | ret => exact hQ _ c a w hq hs
  | .cond x t e, c, Q, Q', a, w, hd, h, hQ, hs => by
    simp only [drawsOK, Bool.and_eq_true] at hd
    simp only [ev] at h
    split at h
    · rename_i b hb
      exact wp_cond_split (opv_FV hs hb) (fun ht => ev_sound hT h1 hN hm t c Q Q' a w hd.1 (h.1 ht) hQ hs) (fun ht => ev_sound hT h1 hN hm e c Q Q' a w hd.2 (h.2 ht) hQ hs)
    · exact h.elim
  | .block id b, c, Q, Q', a, w, hd, h, hQ, hs => by
    refine wp_block (ev_sound hT h1 hN hm b c _ _ a w hd h (fun e c a w hq hs => ?_) hs)
    cases e with
    | normal => exact hQ _ c a w hq hs
    | exit id' =>
      simp only [Ex.toExit, Exit.inBlock]
      simp only at hq
      split at hq
      · rename_i he
        rw [if_pos (beq_true he)]
        exact hQ .normal c a w hq hs
      · rename_i he
        rw [if_neg (beq_false he)]
        exact hQ (.exit id') c a w hq hs
    | ret => exact hQ _ c a w hq hs
  | .exit id, c, Q, Q', a, w, hd, h, hQ, hs => wp_exit (hQ (.exit id) c a w h hs)
  | .ret, c, Q, Q', a, w, hd, h, hQ, hs => wp_ret (hQ .ret c a w h hs)
  | .loop b, c, Q, Q', a, w, hd, h, hQ, hs => by
    obtain ⟨I, ⟨n, c', hw, hI⟩, hr⟩ := h
    refine wp_loop_ghost (fun n a w => ∃ c, I n c ∧ SR E c a w) n ⟨c', hI, hw E a w hs⟩ ?_
    rintro n a w ⟨c, hI, hs⟩
    refine ev_sound hT h1 hN hm b c _ _ a w hd (hr n c hI) (fun e c a w hq hs => ?_) hs
    cases e with
    | normal =>
      obtain ⟨m, c'', hw, hlt, hI'⟩ := hq
      exact ⟨m, hlt, c'', hI', hw E a w hs⟩
    | exit id => exact hQ _ c a w hq hs
    | ret => exact hQ _ c a w hq hs
  | .rangeFunc _ _ _ _, c, Q, Q', a, w, hd, h, hQ, hs => h.elim
  | .scope _, c, Q, Q', a, w, hd, h, hQ, hs => h.elim
  | .label _, c, Q, Q', a, w, hd, h, hQ, hs => h.elim
  | .goto _, c, Q, Q', a, w, hd, h, hQ, hs => h.elim
  | .refuse _, c, Q, Q', a, w, hd, h, hQ, hs => h.elim

theorem Wk.refl (c : Cfg) : Wk c c := fun _ _ _ h => h
theorem Wk.trans {c c' c'' : Cfg} (h : Wk c c') (k : Wk c' c'') : Wk c c'' := fun E a w s => k E a w (h E a w s)
theorem Wk.keep {c : Cfg} (ks ids : List Nat) : Wk c (c.only ks ids) := by
  rintro E a w ⟨K, h⟩
  exact ⟨K, h.weak (fun t => lk_keep c.fr ks t) fun b x hb => olk_keep c.O ids b x hb⟩
/-- the same look-ups -/
theorem Wk.same {c c' : Cfg} (hf : ∀ t, lk c'.fr t = lk c.fr t ∨ lk c'.fr t = .top) (hO : ∀ b x, olk c'.O b = some x → olk c.O b = some x) : Wk c c' := by
  rintro E a w ⟨K, h⟩
  exact ⟨K, h.weak hf hO⟩

/-- A slot's value as a result. -/
def ret1 (c : Cfg) (u r : AV) : Prop :=
  match u with
  | .osl b sz n => ∃ blk, olk c.O b = some blk ∧ blk.sz = sz ∧ n = blk.rows.length ∧ ((blk.kd = .pure ∧ r = .fsl true blk.e sz n blk.rows) ∨ (blk.kd = .flat ∧ r = .fsl false blk.e sz n blk.rows))
  | .nilsl => r = .nilsl ∨ ∃ p e sz, r = .fsl p e sz 0 []
  | u => u.idless = true ∧ r = u
/-- what a result variable holds: a slot, or a cell of one's own -/
def rval (T : Tab) (c : Cfg) : ResultVar → Option AV
  | .tmp t => some (lk c.fr t)
  | .cell t ty => match lk c.fr t with
    | .ovar b off => match T.get ty, olk c.O b with
      | some i, some blk => match blk.rows with
        | [row] => readAt i row off
        | _ => none
      | _, _ => none
    | _ => none
def retL (T : Tab) (c : Cfg) : List ResultVar → List AV → Prop
  | [], [] => True
  | x :: rv, r :: rs => match rval T c x with
    | some u => u.idless = true ∧ r = u ∧ retL T c rv rs
    | none => False
  | _, _ => False
def notTup : AV → Bool
  | .tup _ => false
  | _ => true
def retR (T : Tab) (c : Cfg) : List ResultVar → AV → Prop
  | [x], r => match rval T c x with
    | some u => notTup r = true ∧ ret1 c u r
    | none => False
  | [], r => r = .tup []
  | x :: y :: rv, r => match rval T c x with
    | some u => ∃ r0 rs, r = .tup (r0 :: rs) ∧ ret1 c u r0 ∧ retL T c (y :: rv) rs
    | none => False
def retQ (T : Tab) (rv : List ResultVar) (r : AV) : Ex → Cfg → Prop
  | .exit _, _ => False
  | _, c => retR T c rv r

theorem idless_K {w : World} {X : Nat → Prop} {K K' : KM} {u : AV} {v : Value} (hi : u.idless = true) (h : VR w X K u v) : VR w X K' u v :=
  h.keep (Keep.refl X w) (fun _ _ h => h) fun b hb => by rw [has_idless b u hi] at hb; cases hb

theorem noOpt_idless {u : AV} (h : u.idless = true) : ∀ d want u', u ≠ .opt d want u' := by
  rintro d want u' rfl
  simp [AV.idless] at h

theorem ret1_sound {K : KM} {c : Cfg} {a : Act} {w w0 : World} {X : Nat → Prop} {u r : AV} {vv : Value} {hwi : ∀ w, Ext (fun _ => False) w0 w → WI w} (hs : SRK (Env0 (fun _ => False) X w0 N hwi) K c a w) (hf : FV w (XX (Env0 (fun _ => False) X w0 N hwi) K c.O) K a.tmps u vv) (h : ret1 c u r) :
    RR1 w w0.heap.size (fun g => X g ∧ g < w0.heap.size) r vv := by
  unfold ret1 at h
  split at h
  · rename_i b sz n
    obtain ⟨blk, hb, hsz, hn, hk⟩ := h
    have hv : VR w (XX (Env0 (fun _ => False) X w0 N hwi) K c.O) K (.osl b sz n) vv := hf
    have hrow := hs.rows b blk hb
    have key : ∀ p, (p = true → blk.kd = .pure) → (p = false → blk.kd = .flat) → RR1 w w0.heap.size (fun g => X g ∧ g < w0.heap.size) (.fsl p blk.e sz n blk.rows) vv := by
      intro p hp1 hp2
      refine ⟨hn, fun row hr => (hrow row hr).trans hsz, ?_⟩
      cases hv with
      | oslnil hK => exact .inl ⟨rfl, rfl⟩
      | osl hK hnm hc hcap hmax hsize =>
        rename_i g m cap cur e
        right
        rcases hs.own b blk hb with ⟨h1, h2⟩ | ⟨g', h1, cur', hcur, hcells⟩
        · rw [h1] at hK; cases hK
        · rw [h1] at hK
          injection hK with hK
          injection hK with hK1 hK2
          injection hK1 with hK1
          subst hK1
          rw [hcur] at hc
          injection hc with hc
          injection hc with hc1 hc2
          subst hc1
          refine ⟨g', cap, cur', rfl, hcap, ?_, hcur, hmax, hsize, fun j u hj => ?_⟩
          · rcases hs.mine b g' (by rw [hb]; rfl) (blkOf_of h1) with h | h
            · exact h.elim
            · exact h
          · obtain ⟨x, hx1, hx2, hx3⟩ := hcells j u hj
            refine ⟨x, hx1, hx2, ?_⟩
            cases p with
            | true =>
              rw [hp1 rfl] at hx3
              exact hx3.sub fun _ _ _ => trivial
            | false =>
              rw [hp2 rfl] at hx3
              refine hx3.sub fun g hg hX => ?_
              rcases hX with hX | hX | hX
              · cases hX
              · exact .inr ⟨⟨hX.1, id⟩, hX.2⟩
              · subst hX
                exact .inl ⟨b, by rw [hb]; rfl, blkOf_of h1⟩
    rcases hk with ⟨h1, rfl⟩ | ⟨h1, rfl⟩
    · exact key true (fun _ => h1) (fun h => by cases h)
    · exact key false (fun h => by cases h) (fun _ => h1)
  · have hv : vv = .slice none 0 0 := VR.nilsl_inv hf
    subst hv
    rcases h with rfl | ⟨p, e, sz, rfl⟩
    · exact VR.nilsl
    · exact ⟨rfl, by simp, .inl ⟨rfl, rfl⟩⟩
  · rename_i u _ _
    obtain ⟨hi, rfl⟩ := h
    have hv : VR w (fun g => X g ∧ g < w0.heap.size) K0 r vv := idless_K hi ((hf.vr (noOpt_idless hi)).sub fun g _ h => .inr ⟨⟨h.1, id⟩, h.2⟩)
    clear hf
    cases r <;> first | exact hv | (simp [AV.idless] at hi; done)
end
end
end Go.Abs
namespace Go.Abs
section
open Go.RowKit
set_option linter.unusedVariables false

def idx : Nat → List AV → List (Nat × AV)
  | _, [] => []
  | i, u :: us => (i, u) :: idx (i + 1) us

theorem lk_idx : ∀ (us : List AV) (i t : Nat), lk (idx i us) t = if i ≤ t then us.getD (t - i) .top else .top
  | [], i, t => by simp [idx, lk]
  | u :: us, i, t => by
    rw [idx, lk_cons, lk_idx us (i + 1) t]
    by_cases h : i = t
    · subst h; simp
    · rw [if_neg h]
      by_cases h1 : i ≤ t
      · rw [if_pos (by omega), if_pos h1, show t - i = (t - (i + 1)) + 1 by omega]; simp
      · rw [if_neg (by omega), if_neg h1]

def resRun (tmps : Array Value) : ResultVar → Sem Value
  | .tmp t => pure (tmps.getD t undef)
  | .cell a t => do loadVar t (← asAddr (tmps.getD a undef))
def resV : List Value → Value
  | [v] => v
  | vs => .tuple vs.toArray

section
variable {P : Program} {N : Nat}

theorem mapM_run {w : World} {f : ResultVar → Sem Value} : ∀ {rv : List ResultVar} {vs : List Value}, vs.length = rv.length → (∀ (j : Nat) x v, rv[j]? = some x → vs[j]? = some v → (f x).run P w = .ok v w) →
    (rv.mapM f).run P w = .ok vs w
  | [], vs, hl, _ => by cases vs <;> simp at hl; simp
  | x :: rv, vs, hl, h => by
    cases vs with
    | nil => simp at hl
    | cons v vs =>
      have h0 := h 0 x v rfl rfl
      have ih := mapM_run (rv := rv) (vs := vs) (by simpa using hl) fun j x v hx hv => h (j + 1) x v (by simpa using hx) (by simpa using hv)
      simp only [List.mapM_cons, Sem.run_bind, h0, Result.andThen_ok, ih, Sem.run_pure]

theorem results_run {fn : Func} {rv : List ResultVar} (hr : fn.results.toList = rv) (tmps : Array Value) (w : World) {vs : List Value} (hl : vs.length = rv.length)
    (h : ∀ (j : Nat) x v, rv[j]? = some x → vs[j]? = some v → (resRun tmps x).run P w = .ok v w) : (results fn tmps).run P w = .ok (resV vs) w := by
  have hr' : fn.results = rv.toArray := by rw [← hr]
  have := mapM_run hl h
  unfold results
  rw [hr']
  have e : (rv.toArray.mapM (resRun tmps)).run P w = .ok vs.toArray w := by
    rw [List.mapM_toArray]
    simp only [map_eq_pure_bind, Sem.run_bind, this, Result.andThen_ok, Sem.run_pure]
  have hg : ∀ f : ResultVar → Sem Value, (∀ x, f x = resRun tmps x) → (rv.toArray.mapM f).run P w = .ok vs.toArray w := fun f hf => by rw [show f = resRun tmps from funext hf]; exact e
  simp only [Sem.run_bind]
  rw [hg _ (fun x => by cases x <;> rfl)]
  match vs with
  | [] => simp [resV]
  | [v] => simp [resV]
  | v :: v' :: vs => simp [resV]

theorem rval_sound {T : Tab} (hT : TabOK P T) {E : Env} {K : KM} {c : Cfg} {a : Act} {w : World} (hs : SRK E K c a w) {x : ResultVar} {u : AV} (h : rval T c x = some u) :
    ∃ v, (resRun a.tmps x).run P w = .ok v w ∧ FV w (XX E K c.O) K a.tmps u v := by
  cases x with
  | tmp t =>
    simp only [rval, Option.some.injEq] at h
    subst h
    exact ⟨_, by simp only [resRun, Sem.run_pure], hs.fr t⟩
  | cell t ty =>
    simp only [rval] at h
    split at h
    · rename_i b off hx
      split at h
      · rename_i i blk hi hb
        split at h
        · rename_i row hrow
          have hf := hs.fr t
          rw [hx] at hf
          obtain ⟨g, hK, e1⟩ := VR.ovar_inv hf
          rcases hs.own b blk hb with ⟨h1, _⟩ | ⟨g', h1, h2⟩
          · rw [show blkOf K b = none from by simp [blkOf, h1]] at hK; cases hK
          · rw [blkOf_of h1] at hK; injection hK with hK; subst hK
            have := h2.row (hs.rows b blk hb) (i := 0) (row := row) (by rw [hrow]; rfl)
            simp only [Nat.zero_mul] at this
            obtain ⟨vv, hrun, hv, _⟩ := load_sound (P := P) hT hi this h
            refine ⟨vv, ?_, FV.of hv⟩
            simp only [resRun, e1]
            simpa [Instr.loadAt, Instr.sureAddr, asAddr, Sem.run_bind] using hrun
        · cases h
      · cases h
    · cases h

theorem retL_sound {T : Tab} (hT : TabOK P T) {K : KM} {c : Cfg} {a : Act} {w w0 : World} {X : Nat → Prop} {hwi : ∀ w, Ext (fun _ => False) w0 w → WI w} (hs : SRK (Env0 (fun _ => False) X w0 N hwi) K c a w) : ∀ {rv : List ResultVar} {rs : List AV}, retL T c rv rs →
    ∃ vs : List Value, vs.length = rv.length ∧ rs.length = rv.length ∧ (∀ (j : Nat) x v, rv[j]? = some x → vs[j]? = some v → (resRun a.tmps x).run P w = .ok v w) ∧
      ∀ (j : Nat) u v, rs[j]? = some u → vs[j]? = some v → VR w (fun g => X g ∧ g < w0.heap.size) K0 u v
  | [], [], h => ⟨[], rfl, rfl, fun j u t h => by simp at h, fun j u t h => by simp at h⟩
  | [], _ :: _, h => by simp [retL] at h
  | x :: rv, [], h => by simp [retL] at h
  | x :: rv, r :: rs, h => by
    simp only [retL] at h
    split at h
    · rename_i u hu
      obtain ⟨hi, rfl, h⟩ := h
      obtain ⟨v, hv1, hv2⟩ := rval_sound hT hs hu
      obtain ⟨vs, h1, h2, h3, h4⟩ := retL_sound hT hs h
      refine ⟨v :: vs, by simp [h1], by simp [h2], fun j x' v' hx hv' => ?_, fun j u' v' hu' hv' => ?_⟩
      · cases j with
        | zero => simp at hx hv'; subst hx hv'; exact hv1
        | succ j => exact h3 j x' v' (by simpa using hx) (by simpa using hv')
      · cases j with
        | zero =>
          simp at hu' hv'
          subst hu' hv'
          exact idless_K hi ((hv2.vr (noOpt_idless hi)).sub fun g _ h => .inr ⟨⟨h.1, id⟩, h.2⟩)
        | succ j => exact h4 j u' v' (by simpa using hu') (by simpa using hv')
    · exact h.elim

theorem retR_sound {T : Tab} (hT : TabOK P T) {K : KM} {c : Cfg} {a : Act} {w w0 : World} {X : Nat → Prop} {hwi : ∀ w, Ext (fun _ => False) w0 w → WI w} (hs : SRK (Env0 (fun _ => False) X w0 N hwi) K c a w) {rv : List ResultVar} {r : AV} (h : retR T c rv r) :
    ∃ vs : List Value, vs.length = rv.length ∧ (∀ (j : Nat) x v, rv[j]? = some x → vs[j]? = some v → (resRun a.tmps x).run P w = .ok v w) ∧ RR w w0.heap.size (fun g => X g ∧ g < w0.heap.size) r (resV vs) := by
  unfold retR at h
  split at h
  · rename_i x
    split at h
    · rename_i u hu
      obtain ⟨hn, h⟩ := h
      obtain ⟨v, hv1, hv2⟩ := rval_sound hT hs hu
      refine ⟨[v], rfl, fun j x' v' hx hv' => ?_, ?_⟩
      · cases j with
        | zero => simp at hx hv'; subst hx hv'; exact hv1
        | succ j => simp at hx
      · have := ret1_sound hs hv2 h
        unfold RR
        split
        · simp [notTup] at hn
        · exact this
    · exact h.elim
  · subst h
    exact ⟨[], rfl, fun j x v h => by simp at h, VR.tup (by simp) fun j u c h => by simp at h⟩
  · rename_i x y rv
    split at h
    · rename_i u hu
      obtain ⟨r0, rs, rfl, h0, hl⟩ := h
      obtain ⟨v, hv1, hv2⟩ := rval_sound hT hs hu
      obtain ⟨vs, h1, h2, h3, h4⟩ := retL_sound hT hs hl
      refine ⟨v :: vs, by simp [h1], fun j x' v' hx hv' => ?_, ?_⟩
      · cases j with
        | zero => simp at hx hv'; subst hx hv'; exact hv1
        | succ j => exact h3 j x' v' (by simpa using hx) (by simpa using hv')
      · cases vs with
        | nil => simp at h1
        | cons v' vs =>
          refine ⟨_, rfl, by simp at h1 h2 ⊢; omega, ⟨v, by simp, ret1_sound hs hv2 h0⟩, fun j u' c' hu' hc => ?_⟩
          exact h4 j u' c' hu' (by simpa using hc)
    · exact h.elim

/-- A FUNCTION'S CONTRACT FROM ITS BODY'S EVALUATION -/
theorem fn_of {T : Tab} {f : FuncId} {fn : Func} {code : Code} {args : List AV} {r : AV} {ks : List Nat} (rv : List ResultVar) (hT : TabOK P T) (h1 : TabOne T = true) (hm : P.follows .mixedOrders = true)
    (hf : P.funcs[f]? = some fn) (hb : fn.body = some code) (hname : (fn.name == "runtime.NumGoroutine") = false) (hd : drawsOK code = true) (hn : Nat.ble args.length fn.ntmps = true) (hN : fn.ntmps = N)
    (hr : fn.results.toList = rv) (h : ev P T N ks code ⟨idx 0 args, []⟩ (retQ T rv r)) : Fn P f args r := by
  refine ⟨⟨fn, hf, hname, by rw [hb]; rfl⟩, fun X w vs hwi hlen hargs => ?_⟩
  refine calls_of_wp hf hb ?_
  have hn' := Nat.le_of_ble_eq_true hn
  subst hN
  refine ev_sound (E := Env0 (fun _ => False) X w fn.ntmps (fun w' hx => hwi.mono hx.size fun g hg => hx.block g hg id)) hT h1 rfl hm code _ _ _ _ _ hd h (fun e c a w' hq hs => ?_) ⟨K0, ?_⟩
  · obtain ⟨K, hs⟩ := hs
    have key : retR T c rv r → a.defers = [] ∧ ∃ v, (results fn a.tmps).run P w' = .ok v w' ∧ ∃ v', Ending.returned v = .returned v' ∧ RR w' w.heap.size (fun g => X g ∧ g < w.heap.size) r v' ∧ Below w.heap.size w w' := by
      intro hq
      obtain ⟨vs, hl, ht, hR⟩ := retR_sound hT hs hq
      refine ⟨hs.defers, _, results_run hr _ _ hl ht, _, rfl, hR, ?_⟩
      exact ⟨hs.ext.os, hs.ext.tape, hs.ext.output, hs.ext.size, fun k hk => hs.ext.block k hk (fun h => h)⟩
    cases e with
    | normal => exact key hq
    | exit => exact hq.elim
    | ret => exact key hq
  · refine ⟨by simp; omega, rfl, ⟨rfl, rfl, rfl, Nat.le_refl _, fun _ _ _ => rfl, fun _ cur _ h => ⟨cur, h, rfl⟩⟩, fun t => ?_, fun b blk hb => by simp [olk] at hb, fun b blk hb => by simp [olk] at hb, fun b b' g hb => by simp [olk] at hb, fun b g hb => by simp [olk] at hb, fun b x hx => by cases hx⟩
    simp only [lk_idx, Nat.zero_le, if_true, Nat.sub_zero]
    cases hu : args[t]? with
    | none => rw [List.getD_eq_getElem?_getD, hu]; exact FV.top
    | some u =>
      rw [List.getD_eq_getElem?_getD, hu]
      have ht : t < vs.size := by rw [← hlen]; exact (List.getElem?_eq_some_iff.1 hu).1
      have hv : vs[t]? = some vs[t] := by simp [ht]
      have := hargs t u _ hu hv
      rw [show (vs ++ Array.replicate (fn.ntmps - vs.size) undef).getD t undef = vs[t] by
        rw [Array.getD_eq_getD_getElem?, Array.getElem?_append_left ht, hv]; rfl]
      refine FV.of (this.sub fun g hg hX => ?_)
      rcases hX with ⟨b, hb, _⟩ | hX
      · simp [olk] at hb
      · exact hX.1.1
end
end
end Go.Abs
namespace Go.Abs
section
open Go.RowKit Go.ChangeShapes Go.WideShapes
set_option linter.unusedVariables false

def RdFs (rd : TypeId → List AV → Prop) : List Field → List AV → Prop
  | [], us => us = []
  | f :: fs, us => ∃ p q, us = p ++ q ∧ rd f.type p ∧ RdFs rd fs q
def RdN (rd : List AV → Prop) : Nat → List AV → Prop
  | 0, us => us = []
  | n + 1, us => ∃ p q, us = p ++ q ∧ rd p ∧ RdN rd n q
/-- the cells of a value of type t, read -/
def Rd (P : Program) : Nat → TypeId → List AV → Prop
  | 0, _, _ => False
  | d + 1, t, us => match P.underlying t with
    | some .bool => ∃ b, us = [.bool b]
    | some (.int k) => ∃ n, us = [.int k n] ∧ (Lit.int k n).wf = true
    | some .string => ∃ s : ByteArray, us = [.str s] ∧ s.size ≤ maxLen
    | some (.slice e) => ∃ rows : List (List AV), us = [.rsl (P.cellsOf e) rows.length rows] ∧ rows.length ≤ maxLen ∧ ∀ row ∈ rows, Rd P d e row
    | some (.struct fs) => RdFs (Rd P d) fs.toList us
    | some (.array n e) => RdN (Rd P d e) n us
    | _ => False
def tilesB (C : TypeId → Nat) : Nat → List Field → Nat → Bool
  | o, [], n => Nat.beq o n
  | o, f :: fs, n => Nat.beq f.offset o && tilesB C (o + C f.type) fs n
def plainT (P : Program) : Nat → TypeId → Bool
  | 0, _ => false
  | d + 1, t => match P.underlying t with
    | some .bool => true
    | some (.int _) => true
    | some .string => true
    | some (.slice e) => Nat.blt 0 (P.cellsOf e) && plainT P d e
    | some (.struct fs) => tilesB P.cellsOf 0 fs.toList (P.cellsOf t) && fs.toList.all fun f => plainT P d f.type
    | some (.array n e) => Nat.beq (P.cellsOf t) (n * P.cellsOf e) && plainT P d e
    | _ => false

def VRs (w : World) (us : List AV) (cs : List Value) : Prop :=
  us.length = cs.length ∧ (∀ c ∈ cs, c.oneCell' = true) ∧ ∀ (j : Nat) u c, us[j]? = some u → cs[j]? = some c → VR w (fun _ => False) K0 u c
theorem VRs.nil (w : World) : VRs w [] [] := ⟨rfl, by simp, by simp⟩
theorem VRs.append {w : World} {us us' : List AV} {cs cs' : List Value} (h : VRs w us cs) (h' : VRs w us' cs') : VRs w (us ++ us') (cs ++ cs') := by
  refine ⟨by simp [h.1, h'.1], fun c hc => ?_, fun j u c hu hc => ?_⟩
  · rcases List.mem_append.1 hc with hc | hc
    · exact h.2.1 c hc
    · exact h'.2.1 c hc
  · by_cases hj : j < us.length
    · rw [List.getElem?_append_left hj] at hu
      rw [List.getElem?_append_left (by rw [← h.1]; exact hj)] at hc
      exact h.2.2 j u c hu hc
    · rw [List.getElem?_append_right (by omega)] at hu
      rw [List.getElem?_append_right (by rw [← h.1]; omega), ← h.1] at hc
      exact h'.2.2 _ u c hu hc
theorem VRs.one {w : World} {u : AV} {c : Value} (h1 : c.oneCell' = true) (h : VR w (fun _ => False) K0 u c) : VRs w [u] [c] := by
  refine ⟨rfl, by simpa using h1, fun j u' c' hu hc => ?_⟩
  cases j with
  | zero => simp at hu hc; subst hu hc; exact h
  | succ j => simp at hu

section
variable {H : Type} {enc : TypeId × Value → H} {P : Program} {w : World} {base : Nat} {spare : Nat → Bool} {held : Bool}

theorem rdFs_of {C : TypeId → Nat} {rd : TypeId → List AV → Prop} {cs : List Value} : ∀ {fs : List Field} {o : Nat}, tilesB C o fs cs.length = true →
    (∀ f ∈ fs, ∃ us, rd f.type us ∧ VRs w us ((cs.drop f.offset).take (C f.type))) → ∃ us, RdFs rd fs us ∧ VRs w us (cs.drop o)
  | [], o, ht, _ => by
    have : o = cs.length := beq_true ht
    subst this
    exact ⟨[], rfl, by simpa using VRs.nil w⟩
  | f :: fs, o, ht, h => by
    simp only [tilesB, Bool.and_eq_true] at ht
    have ho : f.offset = o := beq_true ht.1
    obtain ⟨p, hp1, hp2⟩ := h f (by simp)
    obtain ⟨q, hq1, hq2⟩ := rdFs_of ht.2 fun f' hf' => h f' (by simp [hf'])
    refine ⟨p ++ q, ⟨p, q, rfl, hp1, hq1⟩, ?_⟩
    have e : cs.drop o = (cs.drop o).take (C f.type) ++ cs.drop (o + C f.type) := by
      rw [← List.drop_drop, List.take_append_drop]
    rw [e]
    rw [ho] at hp2
    exact hp2.append hq2
theorem rdN_of {C : Nat} {rd : List AV → Prop} {cs : List Value} (hl : ∀ n, cs.length = n * C → True) : ∀ {n i : Nat}, cs.length = (i + n) * C →
    (∀ j, i ≤ j → j < i + n → ∃ us, rd us ∧ VRs w us ((cs.drop (j * C)).take C)) → ∃ us, RdN rd n us ∧ VRs w us (cs.drop (i * C))
  | 0, i, hn, _ => by
    refine ⟨[], rfl, ?_⟩
    rw [List.drop_of_length_le (by rw [hn]; simp)]
    exact VRs.nil w
  | n + 1, i, hn, h => by
    obtain ⟨p, hp1, hp2⟩ := h i (Nat.le_refl _) (by omega)
    obtain ⟨q, hq1, hq2⟩ := rdN_of (i := i + 1) (n := n) hl (by rw [hn]; congr 1; omega) fun j h1 h2 => h j (by omega) (by omega)
    refine ⟨p ++ q, ⟨p, q, rfl, hp1, hq1⟩, ?_⟩
    have e : cs.drop (i * C) = (cs.drop (i * C)).take C ++ cs.drop ((i + 1) * C) := by
      rw [Nat.succ_mul, ← List.drop_drop, List.take_append_drop]
    rw [e]
    exact hp2.append hq2

theorem rows_of {C : Nat} {rd : List AV → Prop} {a : Addr} : ∀ {n : Nat}, (∀ i, i < n → ∃ us cs, rd us ∧ VRs w us cs ∧ w.cells? base (a.add (i * C)) C = some cs) →
    ∃ (rows : List (List AV)) (cs : List Value), rows.length = n ∧ (∀ row ∈ rows, row.length = C ∧ rd row) ∧ VRs w rows.flatten cs ∧ cs.length = n * C ∧ ∀ (j : Nat) c, cs[j]? = some c → w.cell? (a.add j) = some c
  | 0, _ => ⟨[], [], rfl, by simp, VRs.nil w, by simp, by simp⟩
  | n + 1, h => by
    obtain ⟨rows, cs, h1, h2, h3, h4, h5⟩ := rows_of (n := n) fun i hi => h i (by omega)
    obtain ⟨us, cs', k1, k2, k3⟩ := h n (by omega)
    obtain ⟨_, kl, kc⟩ := World.cells?_some k3
    refine ⟨rows ++ [us], cs ++ cs', by simp [h1], fun row hr => ?_, ?_, by simp [h4, kl, Nat.succ_mul], fun j c hc => ?_⟩
    · rcases List.mem_append.1 hr with hr | hr
      · exact h2 row hr
      · rw [List.mem_singleton] at hr; subst hr; exact ⟨k2.1.trans kl, k1⟩
    · rw [List.flatten_append]
      simpa using h3.append k2
    · by_cases hj : j < cs.length
      · rw [List.getElem?_append_left hj] at hc
        exact h5 j c hc
      · rw [List.getElem?_append_right (by omega)] at hc
        have hlt : j - cs.length < C := by rw [← kl]; exact (List.getElem?_eq_some_iff.1 hc).1
        have := kc _ hlt
        rw [hc, Go.Deep.add_add, show n * C + (j - cs.length) = j by rw [← h4]; omega] at this
        exact this

theorem trod_rd : ∀ (d : Nat) (t : TypeId) (fuel : Nat) (cs : List Value) (x : DataW H × List MemPlace), plainT P d t = true → DataW.trod enc P w base spare held fuel t cs = some x →
    ∃ us, Rd P d t us ∧ VRs w us cs
  | 0, t, fuel, cs, x, hp, h => by simp [plainT] at hp
  | d + 1, t, fuel, cs, x, hp, h => by
    unfold plainT at hp
    split at hp
    · rename_i ht
      obtain ⟨b, rfl, _⟩ := DataW.trod_bool ht h
      exact ⟨[.bool b], by simp [Rd, ht], VRs.one rfl .bool⟩
    · rename_i k ht
      obtain ⟨n, rfl, _, hw⟩ := DataW.trod_int ht h
      exact ⟨[.int k n], by simp [Rd, ht, hw], VRs.one rfl .int⟩
    · rename_i ht
      obtain ⟨s, rfl, _, hw⟩ := DataW.trod_string ht h
      exact ⟨[.str s], by simp [Rd, ht, hw], VRs.one rfl .str⟩
    · rename_i e ht
      rw [Bool.and_eq_true] at hp
      have hC : 0 < P.cellsOf e := Nat.le_of_ble_eq_true hp.1
      rcases Go.Deep.open_slice ht h with ⟨rfl, _⟩ | ⟨a, len, cap, m, n, D, Pl, rfl, hb, hl, hmax, hm, _, hi⟩
      · refine ⟨[.rsl (P.cellsOf e) 0 []], ?_, VRs.one rfl (.rsl (cs := []) rfl (by simp) (Nat.le_refl _) (fun _ => rfl) rfl (by simp) (fun h => absurd rfl h) (by simp))⟩
        simp only [Rd, ht]
        exact ⟨[], rfl, by simp, by simp⟩
      · have hml : len ≤ m := by rw [hm]; split <;> omega
        obtain ⟨rows, cs, h1, h2, h3, h4, h5⟩ := rows_of (w := w) (base := base) (C := P.cellsOf e) (rd := Rd P d e) (a := a) (n := len) fun i hi' => by
          obtain ⟨cs', hc, ht'⟩ := hi i (by omega)
          obtain ⟨us, hu, hv⟩ := trod_rd d e n cs' _ hp.2 ht'
          exact ⟨us, cs', hu, hv, hc⟩
        subst h1
        refine ⟨[.rsl (P.cellsOf e) rows.length rows], ?_, VRs.one rfl ?_⟩
        · simp only [Rd, ht]
          exact ⟨rows, rfl, by omega, fun row hr => (h2 row hr).2⟩
        · refine .rsl rfl (fun row hr => (h2 row hr).1) hl (fun h => by cases h) h3.1.symm h3.2.1 (fun hne => ?_) h3.2.2
          have hpos : 0 < cs.length := by
            rw [h4]
            exact Nat.mul_pos (List.length_pos_iff.2 hne) hC
          have h0 := h5 0 _ (List.getElem?_eq_getElem hpos)
          obtain ⟨g, o, sp⟩ := a
          have hsp : sp = none := by simpa [Addr.add] using World.cell?_spot h0
          subst hsp
          refine ⟨g, o, rfl, ?_, fun h => h, fun j c hj => ?_⟩
          · have : w.cell? ⟨g, o, none⟩ = some cs[0] := by simpa [Addr.add] using h0
            unfold World.cell? at this
            cases hg : w.heap[g]? with
            | none => simp [hg] at this
            | some ob => exact (Array.getElem?_eq_some_iff.1 hg).1
          · have := h5 j c hj
            rwa [addr_add] at this
    · rename_i fs ht
      rw [Bool.and_eq_true] at hp
      obtain ⟨xs, n, _, _, hlen, hxl, hf⟩ := DataW.trod_struct ht h
      obtain ⟨us, hu, hv⟩ := rdFs_of (w := w) (C := P.cellsOf) (rd := Rd P d) (cs := cs) (fs := fs.toList) (o := 0) (by rw [hlen]; exact hp.1) fun f hf' => by
        obtain ⟨i, hi⟩ := List.getElem?_of_mem hf'
        have hi' : fs[i]? = some f := by simpa using hi
        have hil : i < xs.length := by rw [hxl]; exact (Array.getElem?_eq_some_iff.1 hi').1
        have := hf i f hi'
        rw [List.getElem?_eq_getElem hil] at this
        exact trod_rd d f.type n _ _ (List.all_eq_true.1 hp.2 f hf') this
      exact ⟨us, by simp only [Rd, ht]; exact hu, by simpa using hv⟩
    · rename_i n e ht
      rw [Bool.and_eq_true] at hp
      obtain ⟨xs, m, _, _, hlen, hxl, hf⟩ := DataW.trod_array ht h
      obtain ⟨us, hu, hv⟩ := rdN_of (w := w) (C := P.cellsOf e) (rd := Rd P d e) (cs := cs) (n := n) (i := 0) (fun _ _ => trivial) (by rw [hlen, beq_true hp.1]; simp) fun j _ hj => by
        have hj' : j < n := by omega
        have := hf j hj'
        rw [List.getElem?_eq_getElem (by omega)] at this
        exact trod_rd d e m _ _ hp.2 this
      exact ⟨us, by simp only [Rd, ht]; exact hu, by simpa using hv⟩
    · cases hp

/-- an argument, read -/
def RdV (P : Program) (d : Nat) (t : TypeId) (u : AV) : Prop :=
  match P.underlying t with
  | some (.struct _) => ∃ us, u = .agg us ∧ Rd P d t us
  | some (.array _ _) => ∃ us, u = .agg us ∧ Rd P d t us
  | _ => Rd P d t [u]
theorem arg_rd {r : Reach} {b0 d : Nat} {t : TypeId} {v : Value} {dd : DataW H} {p : List MemPlace} (hp : plainT P d t = true) (hv : Value.okWide P w r b0 t v) (h : DataW.Trod enc P w base spare held t v dd p) :
    ∃ u, RdV P d t u ∧ VR w (fun _ => False) K0 u v := by
  obtain ⟨fuel, hf⟩ := h
  obtain ⟨us, hu, hvs⟩ := trod_rd d t fuel _ _ hp hf
  have agg : ∀ cs, v = .agg cs → VR w (fun _ => False) K0 (.agg us) v := by
    rintro cs rfl
    have e : (Value.agg cs).cells.toList = cs.toList := rfl
    rw [e] at hvs
    refine .agg (by simpa using hvs.1) (fun j c hc => hvs.2.1 c (by simpa using Array.mem_of_getElem? hc)) fun j u c hu hc => hvs.2.2 j u c hu (by simpa using hc)
  have single : ∀ c, v.cells.toList = [c] → c = v → ∃ u, us = [u] ∧ VR w (fun _ => False) K0 u v := by
    rintro c hc rfl
    rw [hc] at hvs
    match us, hvs.1 with
    | [u], _ => exact ⟨u, rfl, hvs.2.2 0 u c rfl rfl⟩
  unfold RdV
  split
  · rename_i fs ht
    unfold Value.okWide at hv
    rw [ht] at hv
    obtain ⟨cs, rfl, _⟩ := hv
    exact ⟨.agg us, ⟨us, rfl, hu⟩, agg cs rfl⟩
  · rename_i n e ht
    unfold Value.okWide at hv
    rw [ht] at hv
    obtain ⟨cs, rfl, _⟩ := hv
    exact ⟨.agg us, ⟨us, rfl, hu⟩, agg cs rfl⟩
  · rename_i h1 h2
    cases d with
    | zero => simp [plainT] at hp
    | succ d =>
      unfold plainT at hp
      split at hp
      · rename_i ht
        obtain ⟨b, rfl⟩ := okWide_bool ht hv
        obtain ⟨u, rfl, hu'⟩ := single _ rfl rfl
        exact ⟨u, hu, hu'⟩
      · rename_i k ht
        obtain ⟨b, rfl⟩ := okWide_int ht hv
        obtain ⟨u, rfl, hu'⟩ := single _ rfl rfl
        exact ⟨u, hu, hu'⟩
      · rename_i ht
        obtain ⟨b, rfl⟩ := okWide_string ht hv
        obtain ⟨u, rfl, hu'⟩ := single _ rfl rfl
        exact ⟨u, hu, hu'⟩
      · rename_i e ht
        obtain ⟨a, l, c, rfl⟩ := okWide_slice ht hv
        obtain ⟨u, rfl, hu'⟩ := single _ rfl rfl
        exact ⟨u, hu, hu'⟩
      · rename_i fs ht; exact absurd ht (h1 fs)
      · rename_i n e ht; exact absurd ht (h2 n e)
      · cases hp
end
end
end Go.Abs
namespace Go.Abs
section
open Go.RowKit Go.ChangeShapes Go.WideShapes Go.ChangeAt
set_option linter.unusedVariables false

def RdVs (P : Program) (d : Nat) : List TypeId → List AV → Prop
  | [], [] => True
  | t :: ts, u :: us => RdV P d t u ∧ RdVs P d ts us
  | _, _ => False

section
variable {H : Type} {enc : TypeId × Value → H} {P : Program} {w : World} {base : Nat} {spare : Nat → Bool} {held : Bool}
theorem args_rd {d b0 : Nat} : ∀ {ts : List TypeId} {vs : List Value} {ds : List (DataW H)} {p : List MemPlace}, (ts.all fun t => plainT P d t) = true →
    (∀ (j : Nat) t v, ts[j]? = some t → vs[j]? = some v → Value.okWide P w .any b0 t v) → DataW.TrodAll enc P w base spare held ts vs ds p →
    ∃ us, RdVs P d ts us ∧ us.length = vs.length ∧ ∀ (j : Nat) u c, us[j]? = some u → vs[j]? = some c → VR w (fun _ => False) K0 u c
  | [], vs, ds, p, _, _, h => by
    obtain ⟨rfl, _, _⟩ := trodAll_nil h
    exact ⟨[], trivial, rfl, by simp⟩
  | t :: ts, vs, ds, p, hp, hv, h => by
    obtain ⟨v, vs', d', ds', p', q, rfl, rfl, rfl, h1, h2⟩ := trodAll_cons h
    simp only [List.all_cons, Bool.and_eq_true] at hp
    obtain ⟨u, hu, hr⟩ := arg_rd hp.1 (hv 0 t v rfl rfl) h1
    obtain ⟨us, hus, hl, hrs⟩ := args_rd hp.2 (fun j t' v' ht hv' => hv (j + 1) t' v' (by simpa using ht) (by simpa using hv')) h2
    refine ⟨u :: us, ⟨hu, hus⟩, by simp [hl], fun j u' c hu' hc => ?_⟩
    cases j with
    | zero => simp at hu' hc; subst hu' hc; exact hr
    | succ j => exact hrs j u' c (by simpa using hu') (by simpa using hc)

theorem below_trodAll {W W' : World} (hl : laidOutB P = true) (hb : Below W.heap.size W W') : ∀ {ts : List TypeId} {vs : List Value} {ds : List (DataW H)} {p : List MemPlace}, (ts.all fun t => P.readableRec t && decide (t < P.types.size)) = true →
    DataW.TrodAll enc P W 0 (fun _ => true) true ts vs ds p → DataW.TrodAll enc P W' 0 (fun b => decide (b < W.heap.size)) true ts vs ds p
  | [], vs, ds, p, _, h => by
    obtain ⟨rfl, rfl, rfl⟩ := trodAll_nil h
    exact trodAll_mk0
  | t :: ts, vs, ds, p, hp, h => by
    obtain ⟨v, vs', d', ds', p', q, rfl, rfl, rfl, h1, h2⟩ := trodAll_cons h
    simp only [List.all_cons, Bool.and_eq_true, decide_eq_true_eq] at hp
    have lt : ∀ x ∈ p', x.block < W.heap.size := by
      obtain ⟨m, hm⟩ := h1
      exact DataW.trod_lt m _ _ _ hm
    exact trodAll_cons_mk (Below.trod hl hp.1.1 hp.1.2 h1 hb lt) (below_trodAll hl hb (by simpa using hp.2) h2)
theorem trodAll_len : ∀ {ts : List TypeId} {vs : List Value} {ds : List (DataW H)} {p : List MemPlace}, DataW.TrodAll enc P w base spare held ts vs ds p → ds.length = ts.length ∧ vs.length = ts.length
  | [], vs, ds, p, h => by obtain ⟨rfl, rfl, _⟩ := trodAll_nil h; exact ⟨rfl, rfl⟩
  | t :: ts, vs, ds, p, h => by
    obtain ⟨v, vs', d', ds', p', q, rfl, rfl, rfl, h1, h2⟩ := trodAll_cons h
    have := trodAll_len h2
    simp [this]

/-- THE ROW'S STEP, whatever the law -/
theorem law_lifted {C : Checked} {os : Os} {f : FuncId} {fn : Func} {s : ChangeSpec} {conds : List PathCond} {d tb : Nat}
    (own : ownKnob C.prog.godebug = none) (started : os.Started) (noInit : C.prog.inits.idxOf? f = none) (hfn : C.prog.funcs[f]? = some fn)
    (witness : ∃ (w : World) (tape : Tape) (i : Input), w.os = os ∧ (w.forCall tape i).Shaped C.prog ∧ i.vars = [] ∧ Input.okWide C.prog (w.forCall tape i) .any w.heap.size f i ∧
      s.pre6 enc C.prog fn conds false (w.forCall tape i).memory i.args ∧ ({} : Assume).holds C.prog (lone (Frame.enter C.prog f i.args .normal) [] (w.forCall tape i)))
    (laid : laidOutB C.prog = true) (hplain : (fn.params.toList.all fun t => plainT C.prog d t) = true) (hread : (fn.params.toList.all fun t => C.prog.readableRec t && decide (t < C.prog.types.size)) = true)
    (hres : fn.resultTypes = #[tb]) (htb : C.prog.underlying tb = some .bool) (hvars : s.vars = [])
    (hspec : ∀ ds : List (DataW H), ds.length = fn.params.toList.length → s.fn H ds = { results := [.lit (.bool true)], args := ds })
    (hwi : ∀ w, WI w) (law : ∀ us, RdVs C.prog d fn.params.toList us → Fn C.prog f us (.bool true)) :
    ReturnsInHanded {} C os f .any (s.pre6 enc C.prog fn conds false) (s.post enc C.prog fn false true false false) := by
  refine returnsInHanded_of_change own started noInit hfn witness ?_
  intro W b0 args ds gs before hval hW hcnd _
  have hW' := hW
  obtain ⟨p, q, hA, hV, rfl, hfz, hnd⟩ := hW
  rw [hvars] at hV
  obtain ⟨rfl, rfl⟩ := trodVars_none hV
  obtain ⟨hdl, hvl⟩ := trodAll_len hA
  obtain ⟨us, hus, hl, hr⟩ := args_rd (w := W) (b0 := b0) hplain (fun j t v ht hv => hval j t v (by simpa using ht) (by simpa using hv)) hA
  refine ((law us hus).2 (fun _ => False) W args (hwi W) (by rw [hl]; simp) (fun j u c hu hc => hr j u c hu (by simpa using hc))).mono fun e W' ⟨v, he, hR, bel⟩ => ?_
  subst he
  have hv : v = .bool true := VR.bool_inv hR
  subst hv
  refine ⟨_, rfl, ds, [], p ++ [], [], p, [], hW', ?_, ?_, ?_, bel.frame _, fun h => by cases h⟩
  · rw [hspec _ (by simpa using hdl), hres]
    exact trodAll_mk1 (shut_bool htb _)
  · rw [hspec _ (by simpa using hdl)]
    simp only [List.append_nil]
    exact below_trodAll laid bel hread hA
  · rw [hspec _ (by simpa using hdl), hvars]
    exact rfl
end
end
end Go.Abs
namespace Go.Abs
section
theorem fits_nil {us : List AV} (h : fitsCK [] us = true) : us = [] := by cases us <;> simp [fitsCK] at h ⊢
theorem fits_i {k : IntKind} {cs : List CK} {us : List AV} (h : fitsCK (.i k :: cs) us = true) : ∃ n us', us = .int k n :: us' ∧ fitsCK cs us' = true := by
  cases us with
  | nil => simp [fitsCK] at h
  | cons u us =>
    simp only [fitsCK, Bool.and_eq_true] at h
    obtain ⟨h1, h2⟩ := h
    cases u <;> simp [CK.fits] at h1
    have := kindEq_iff h1
    subst this
    exact ⟨_, _, rfl, h2⟩
theorem fits_b {cs : List CK} {us : List AV} (h : fitsCK (.b :: cs) us = true) : ∃ n us', us = .bool n :: us' ∧ fitsCK cs us' = true := by
  cases us with
  | nil => simp [fitsCK] at h
  | cons u us =>
    simp only [fitsCK, Bool.and_eq_true] at h
    obtain ⟨h1, h2⟩ := h
    cases u <;> simp [CK.fits] at h1
    exact ⟨_, _, rfl, h2⟩
theorem fits_s {cs : List CK} {us : List AV} (h : fitsCK (.s :: cs) us = true) : ∃ n us', us = .str n :: us' ∧ fitsCK cs us' = true := by
  cases us with
  | nil => simp [fitsCK] at h
  | cons u us =>
    simp only [fitsCK, Bool.and_eq_true] at h
    obtain ⟨h1, h2⟩ := h
    cases u <;> simp [CK.fits] at h1
    exact ⟨_, _, rfl, h2⟩
end
end Go.Abs
namespace Go.Abs
section
open Go.RowKit
set_option linter.unusedVariables false

/-- an empty slice that is read is nil, or it isn't -/
theorem fn_empty {P : Program} {f : FuncId} {sz : Nat} {us : List AV} {r : AV} (h1 : Fn P f (.nilsl :: us) r) (h2 : Fn P f (.esl :: us) r) : Fn P f (.rsl sz 0 [] :: us) r := by
  refine ⟨h1.1, fun X w vs hw hl hv => ?_⟩
  have h0 : 0 < vs.size := by rw [← hl]; simp
  have hv0 : vs[0]? = some vs[0] := by simp [h0]
  obtain ⟨A, cap, e1, hn, _, _, hA, _⟩ := VR.rsl_inv (hv 0 _ _ rfl hv0)
  cases A with
  | none =>
    have := hA rfl
    subst this
    refine h1.2 X w vs hw (by simpa using hl) fun j u c hu hc => ?_
    cases j with
    | zero => simp at hu; subst hu; rw [hv0] at hc; injection hc with hc; subst hc; rw [e1]; exact .nilsl
    | succ j => exact hv (j + 1) u c (by simpa using hu) hc
  | some A =>
    refine h2.2 X w vs hw (by simpa using hl) fun j u c hu hc => ?_
    cases j with
    | zero => simp at hu; subst hu; rw [hv0] at hc; injection hc with hc; subst hc; rw [e1]; exact .esl
    | succ j => exact hv (j + 1) u c (by simpa using hu) hc

theorem wrap64 {x : Int} (h1 : -9223372036854775808 ≤ x) (h2 : x ≤ 9223372036854775807) : IntKind.i64.wrap x = x := by
  rw [IntKind.wrap_i64]; omega
end
end Go.Abs
namespace Go.Abs
section
open Go.RowKit
set_option linter.unusedVariables false

/-- the nil slice in a slot, as a block of one's own without a row -/
theorem Wk.nil {c : Cfg} (t b : Nat) (blk : OBlk) (ht : lk c.fr t = .nilsl) (hf : fresh b c = true) (hr : blk.rows = []) : Wk c ⟨(t, .osl b blk.sz 0) :: c.fr, setO b blk c.O⟩ := by
  rintro E a w ⟨K, h⟩
  obtain ⟨h1, h2, h3⟩ := fresh_of hf
  have h' := h.rebindNil (blk := blk) (fresh_pin hf) h2 (fun i x hi _ hk => h3 i x hi hk) hr
  refine ⟨_, h'.size, h'.defers, h'.ext, fun s => ?_, h'.rows, h'.own, h'.inj, h'.mine, h'.pin⟩
  rw [lk_cons]
  split
  · rename_i e
    subst e
    have hv := h.fr t
    rw [ht] at hv
    have : a.tmps.getD t undef = .slice none 0 0 := VR.nilsl_inv hv
    rw [this]
    exact VR.oslnil (upd_same _ _ _)
  · exact h'.fr s
/-- the same, and only some slots and blocks are kept -/
theorem Wk.nilKeep {c : Cfg} (t b : Nat) (blk : OBlk) (ks ids : List Nat) (ht : lk c.fr t = .nilsl) (hf : fresh b c = true) (hr : blk.rows = []) : Wk c (Cfg.only ⟨(t, .osl b blk.sz 0) :: c.fr, setO b blk c.O⟩ ks ids) :=
  (Wk.nil t b blk ht hf hr).trans (Wk.keep ks ids)

theorem drop_cons {α : Type} {l : List α} {i : Nat} (h : i < l.length) : ∃ a, l[i]? = some a ∧ l.drop i = a :: l.drop (i + 1) ∧ l.take (i + 1) = l.take i ++ [a] :=
  ⟨l[i], by simp [h], List.drop_eq_getElem_cons h, by simp⟩
theorem get_map {α β : Type} {f : α → β} {l : List α} {i : Nat} {a : α} (h : l[i]? = some a) : (l.map f)[i]? = some (f a) := by simp [h]
theorem get_map' {α β : Type} {f : α → β} {l : List α} {i : Nat} {j : Int} {a : α} (h : l[i]? = some a) (hj : j = i) : (l.map f)[j.toNat]? = some (f a) := by subst hj; simp [h]
end
end Go.Abs
namespace Go.Abs
section
open Go.RowKit
set_option linter.unusedVariables false
/-! ### plain laws on lists and integers -/
/-- the first index at which p holds, or -1 -/
def idxF {α : Type} (p : α → Bool) : Nat → List α → Int
  | _, [] => -1
  | k, a :: r => if p a = true then k else idxF p (k + 1) r
theorem idxF_spec {α : Type} (p : α → Bool) : ∀ (l : List α) (k : Nat), (idxF p k l = -1 ∧ ∀ a ∈ l, p a = false) ∨ ∃ (i : Nat) (a : α), l[i]? = some a ∧ p a = true ∧ idxF p k l = (k + i : Nat) ∧ ∀ (j : Nat) b, j < i → l[j]? = some b → p b = false
  | [], k => .inl ⟨rfl, by simp⟩
  | a :: r, k => by
    simp only [idxF]
    split
    · rename_i h
      exact .inr ⟨0, a, by simp, h, by simp, by omega⟩
    · rename_i h
      rcases idxF_spec p r (k + 1) with ⟨h1, h2⟩ | ⟨i, b, h1, h2, h3, h4⟩
      · exact .inl ⟨h1, by simpa using ⟨by simpa using h, h2⟩⟩
      · refine .inr ⟨i + 1, b, by simpa using h1, h2, by rw [h3]; congr 1; omega, fun j c hj hc => ?_⟩
        cases j with
        | zero => simp at hc; subst hc; simpa using h
        | succ j => exact h4 j c (by omega) (by simpa using hc)
theorem idxF_any {α : Type} (p : α → Bool) (l : List α) : decide (idxF p 0 l ≥ 0) = l.any p := by
  rw [Bool.eq_iff_iff]
  rcases idxF_spec p l 0 with ⟨h1, h2⟩ | ⟨i, a, h1, h2, h3, _⟩
  · rw [h1]
    simp only [decide_eq_true_eq, List.any_eq_true]
    constructor
    · intro h; omega
    · rintro ⟨a, ha, hp⟩
      rw [h2 a ha] at hp; cases hp
  · rw [h3]
    simp only [decide_eq_true_eq, List.any_eq_true]
    constructor
    · intro _; exact ⟨a, List.mem_of_getElem? h1, h2⟩
    · intro _; omega
theorem cfg1 {fr fr' : List (Nat × AV)} {b e sz : Nat} {kd : Kd} {rows rows' : List (List AV)} (h1 : fr = fr') (h2 : rows = rows') : (⟨fr, [(b, ⟨e, sz, kd, rows⟩)]⟩ : Cfg) = ⟨fr', [(b, ⟨e, sz, kd, rows'⟩)]⟩ := by subst h1 h2; rfl
theorem take_app {α : Type} {n : Nat} (xs ys : List α) (h : xs.length = n) : xs.take n ++ ys = xs ++ ys := by rw [List.take_of_length_le (by omega)]
theorem drop2 {α : Type} {l m : List α} {i : Nat} {a b : α} (ha : l[i]? = some a) (hb : m[i]? = some b) (h : l.take i = m.take i) : (a ≠ b → l ≠ m) ∧ (a = b → l.take (i + 1) = m.take (i + 1)) := by
  constructor
  · rintro hn rfl
    rw [ha] at hb; injection hb with hb; exact hn hb
  · rintro rfl
    obtain ⟨h1, h2⟩ := List.getElem?_eq_some_iff.1 ha
    obtain ⟨h3, h4⟩ := List.getElem?_eq_some_iff.1 hb
    rw [List.take_succ_eq_append_getElem h1, List.take_succ_eq_append_getElem h3, h, h2, h4]
theorem map_take_all {α β : Type} (f : α → β) (l : List α) : (l.map f).take l.length = l.map f := List.take_of_length_le (by simp)
def i64 (n : Int) : Prop := -9223372036854775808 ≤ n ∧ n ≤ 9223372036854775807
theorem wf64 {n : Int} (h : (Lit.int .i64 n).wf = true) : i64 n := by
  simp [Lit.wf, IntKind.min, IntKind.max, IntKind.bits, IntKind.signed] at h
  unfold i64
  omega
theorem rdvs1 {P : Program} {d t0 : Nat} {us : List AV} (h : RdVs P d [t0] us) : ∃ u0, us = [u0] ∧ RdV P d t0 u0 := by
  match us, h with
  | [u0], h => exact ⟨u0, rfl, h.1⟩
theorem rdvs2 {P : Program} {d t0 t1 : Nat} {us : List AV} (h : RdVs P d [t0, t1] us) : ∃ u0 u1, us = [u0, u1] ∧ RdV P d t0 u0 ∧ RdV P d t1 u1 := by
  match us, h with
  | [u0, u1], h => exact ⟨u0, u1, rfl, h.1, h.2.1⟩
theorem rdvs3 {P : Program} {d t0 t1 t2 : Nat} {us : List AV} (h : RdVs P d [t0, t1, t2] us) : ∃ u0 u1 u2, us = [u0, u1, u2] ∧ RdV P d t0 u0 ∧ RdV P d t1 u1 ∧ RdV P d t2 u2 := by
  match us, h with
  | [u0, u1, u2], h => exact ⟨u0, u1, u2, rfl, h.1, h.2.1, h.2.2.1⟩
theorem rdvs4 {P : Program} {d t0 t1 t2 t3 : Nat} {us : List AV} (h : RdVs P d [t0, t1, t2, t3] us) : ∃ u0 u1 u2 u3, us = [u0, u1, u2, u3] ∧ RdV P d t0 u0 ∧ RdV P d t1 u1 ∧ RdV P d t2 u2 ∧ RdV P d t3 u3 := by
  match us, h with
  | [u0, u1, u2, u3], h => exact ⟨u0, u1, u2, u3, rfl, h.1, h.2.1, h.2.2.1, h.2.2.2.1⟩
/-- the nil slice is an empty one -/
theorem fn_nil {P : Program} {f : FuncId} (sz : Nat) {us : List AV} {r : AV} (h : Fn P f (.rsl sz 0 [] :: us) r) : Fn P f (.nilsl :: us) r := by
  refine ⟨h.1, fun X w vs hw hl hv => h.2 X w vs hw (by simpa using hl) fun j u c hu hc => ?_⟩
  cases j with
  | zero =>
    simp at hu; subst hu
    have := VR.nilsl_inv (hv 0 _ c rfl hc)
    subst this
    exact .rsl (cs := []) (by simp) (by simp) (Nat.le_refl _) (fun _ => rfl) (by simp) (by simp) (by simp) (by simp)
  | succ j => exact hv (j + 1) u c (by simpa using hu) hc
end
end Go.Abs
namespace Go.Abs
section
open Go.RowKit
set_option linter.unusedVariables false
/-- a slice of a block of one's own, handed back -/
def retM (c : Cfg) (u r : AV) : Prop :=
  match u with
  | .osl b sz n => ∃ blk, olk c.O b = some blk ∧ blk.sz = sz ∧ n ≤ blk.rows.length ∧ blk.kd = .pure ∧ r = .fsl true blk.e sz n (blk.rows.take n)
  | _ => False
def retQM (t : Nat) (r : AV) : Ex → Cfg → Prop
  | .exit _, _ => False
  | _, c => retM c (lk c.fr t) r
section
variable {P : Program} {N : Nat}
/-- THE CONTRACT OF A FUNCTION THAT TAKES A BLOCK OVER, from its body's evaluation -/
theorem fnM_of {T : Tab} {f : FuncId} {fn : Func} {code : Code} {e sz : Nat} {rows : List (List AV)} {args : List AV} {r : AV} {ks : List Nat} (t : Nat) (hT : TabOK P T) (h1 : TabOne T = true) (hm : P.follows .mixedOrders = true)
    (hf : P.funcs[f]? = some fn) (hb : fn.body = some code) (hname : (fn.name == "runtime.NumGoroutine") = false) (hd : drawsOK code = true) (hn : Nat.ble (args.length + 1) fn.ntmps = true) (hN : fn.ntmps = N)
    (hr : fn.results.toList = [.tmp t]) (h : ev P T N ks code ⟨idx 0 (.osl 1 sz rows.length :: args), [(1, ⟨e, sz, .pure, rows⟩)]⟩ (retQM t r)) : FnM P f e sz rows args r := by
  refine ⟨⟨fn, hf, hname, by rw [hb]; rfl⟩, fun X w v vs hown hwi hlen hargs => ?_⟩
  refine calls_of_wp hf hb ?_
  have hn' := Nat.le_of_ble_eq_true hn
  subst hN
  refine ev_sound (E := Env0 (fun g => ownBlk v = some g) X w fn.ntmps (fun w' hx => hwi w' ⟨hx.os, hx.tape, hx.output, hx.size, hx.block, hx.shape⟩)) hT h1 rfl hm code _ _ _ _ _ hd h (fun ex c a w' hq hs => ?_) ?_
  · obtain ⟨K, hs⟩ := hs
    have key : retM c (lk c.fr t) r → a.defers = [] ∧ ∃ v1, (results fn a.tmps).run P w' = .ok v1 w' ∧ ∃ v', Ending.returned v1 = .returned v' ∧ (∃ p e' sz' n' rows', r = .fsl p e' sz' n' rows' ∧ n' = rows'.length ∧ (∀ row ∈ rows', row.length = sz') ∧ ((rows' = [] ∧ v' = .slice none 0 0) ∨
      ∃ (g cap : Nat) (cur : Array Value), v' = .slice (some ⟨g, 0, none⟩) n' cap ∧ n' ≤ cap ∧ (w.heap.size ≤ g ∨ ownBlk v = some g) ∧ w'.heap[g]? = some (.cells cur e' (0, 0)) ∧ cap ≤ maxLen ∧ cap * sz' = cur.size ∧
        ∀ (j : Nat) u, rows'.flatten[j]? = some u → ∃ c, cur[j]? = some c ∧ c.oneCell' = true ∧ VR w' (fun _ => True) K0 u c)) ∧ Ext0 (fun g => ownBlk v = some g) w w' := by
      intro hq
      unfold retM at hq
      split at hq
      · rename_i b sz' n' hu
        obtain ⟨blk, hbk, hbsz, hnl, hkd, rfl⟩ := hq
        have hfv := hs.fr t
        rw [hu] at hfv
        have hrows := hs.rows b blk hbk
        have hlen' : (blk.rows.take n').length = n' := by rw [List.length_take]; omega
        refine ⟨hs.defers, a.tmps.getD t undef, ?_, _, rfl, ⟨true, blk.e, sz', n', blk.rows.take n', rfl, hlen'.symm, fun row hr' => by rw [← hbsz]; exact hrows row (List.mem_of_mem_take hr'), ?_⟩, ⟨hs.ext.os, hs.ext.tape, hs.ext.output, hs.ext.size, hs.ext.block, hs.ext.shape⟩⟩
        · exact results_run hr _ _ (vs := [a.tmps.getD t undef]) rfl fun j x v2 hx hv2 => by
            cases j with
            | zero => simp at hx hv2; subst hx hv2; simp [resRun]
            | succ j => simp at hx
        · rcases VR.osl_inv hfv with ⟨hK, hz, e1⟩ | ⟨g, cap, cur, e0, m, hK, hnm, e1, hc, hnc, hmx, hcur⟩
          · subst hz
            exact .inl ⟨by simp, e1⟩
          · rcases hs.own b blk hbk with ⟨k1, _⟩ | ⟨g', k1, cur', hc', hu'⟩
            · rw [hK] at k1; cases k1
            · have hkk := hK
              rw [hK] at k1; injection k1 with k1; injection k1 with k1 k2; injection k1 with k1; subst k1
              rw [hc] at hc'; injection hc' with hc'; injection hc' with h1' h2'; subst h1' h2'
              refine .inr ⟨g, cap, cur, e1, hnc, ?_, hc, hmx, hcur, fun j u hj => ?_⟩
              · rcases hs.mine b g (by simp [hbk]) (blkOf_of hkk) with h | h
                · exact .inr h
                · exact .inl h
              · have hpre : blk.rows.flatten[j]? = some u := by
                  have : blk.rows = blk.rows.take n' ++ blk.rows.drop n' := (List.take_append_drop _ _).symm
                  rw [this, List.flatten_append, List.getElem?_append_left (List.getElem?_eq_some_iff.1 hj).1]
                  exact hj
                obtain ⟨y, hy, h1y, hvy⟩ := hu' j u hpre
                rw [hkd] at hvy
                exact ⟨y, hy, h1y, hvy⟩
      · exact hq.elim
    cases ex with
    | normal => exact key hq
    | exit => exact hq.elim
    | ret => exact key hq
  · obtain ⟨hrow, hcase⟩ := hown
    obtain ⟨K, hK0, hv, hX, hblk⟩ : ∃ K : KM, (∀ b, b ≠ 1 → K b = none) ∧ (∀ X', VR w X' K (.osl 1 sz rows.length) v) ∧ (∀ g, blkOf K 1 = some g → X g ∧ ownBlk v = some g) ∧
        ((K 1 = some (none, 0) ∧ rows = []) ∨ ∃ g, K 1 = some (some g, rows.length) ∧ ∀ X', BlkR w X' K g ⟨e, sz, .pure, rows⟩) := by
      rcases hcase with ⟨rfl, rfl⟩ | ⟨g, cap, cur, rfl, hnc, hmx, hcur, hc, hXg, hcells⟩
      · refine ⟨upd K0 1 (none, 0), fun b hb => by rw [upd_other _ _ hb]; rfl, fun _ => .oslnil (upd_same _ _ _), fun g hg => ?_, .inl ⟨upd_same _ _ _, rfl⟩⟩
        rw [upd_blk_nil] at hg; cases hg
      · refine ⟨upd K0 1 (some g, rows.length), fun b hb => by rw [upd_other _ _ hb]; rfl, fun _ => .osl (upd_same _ _ _) (Nat.le_refl _) hc hnc hmx hcur, fun g' hg => ?_, .inr ⟨g, upd_same _ _ _, fun _ => ⟨cur, hc, fun j u hj => hcells j u hj⟩⟩⟩
        rw [upd_blk] at hg; injection hg with hg; subst hg
        exact ⟨hXg, rfl⟩
    have hXX : ∀ (hE : ∀ w', Ext (fun g => ownBlk v = some g) w w' → WI w') g, XX (Env0 (fun g => ownBlk v = some g) X w fn.ntmps hE) K [(1, ⟨e, sz, .pure, rows⟩)] g → X g := by
      rintro hE g (⟨b, hb, hk⟩ | hx)
      · have hb1 : b = 1 := by
          rw [olk_cons] at hb
          by_cases e : 1 = b
          · exact e.symm
          · rw [if_neg e] at hb; simp [olk] at hb
        subst hb1
        exact (hX g hk).1
      · exact hx.1.1
    have hone : ∀ {b : Nat} {y : OBlk}, olk [(1, (⟨e, sz, .pure, rows⟩ : OBlk))] b = some y → b = 1 ∧ y = ⟨e, sz, .pure, rows⟩ := by
      intro b y hb
      rw [olk_cons] at hb
      by_cases e : 1 = b
      · rw [if_pos e] at hb; injection hb with hb; exact ⟨e.symm, hb.symm⟩
      · rw [if_neg e] at hb; simp [olk] at hb
    have hsome : ∀ {b : Nat}, (olk [(1, (⟨e, sz, .pure, rows⟩ : OBlk))] b).isSome = true → b = 1 := by
      intro b hb
      obtain ⟨y, hy⟩ := Option.isSome_iff_exists.1 hb
      exact (hone hy).1
    refine ⟨K, by simp; omega, rfl, ⟨rfl, rfl, rfl, Nat.le_refl _, fun _ _ _ => rfl, fun _ cur _ h => ⟨cur, h, rfl⟩⟩, fun s => ?_, fun b y hb => ?_, fun b y hb => ?_, fun b b' g h1 h2 _ _ => by rw [hsome h1, hsome h2], fun b g h1 h2 => ?_, fun b x hx => by cases hx⟩
    · simp only [lk_idx, Nat.zero_le, if_true, Nat.sub_zero]
      cases s with
      | zero =>
        have e0 : ((#[v] ++ vs) ++ Array.replicate (fn.ntmps - (#[v] ++ vs).size) undef).getD 0 undef = v := by
          rw [Array.getD_eq_getD_getElem?, Array.getElem?_append_left (by simp; omega), Array.getElem?_append_left (by simp)]; rfl
        rw [e0]
        exact FV.of (hv _)
      | succ s =>
        simp only [List.getD_cons_succ]
        cases hu : args[s]? with
        | none => rw [List.getD_eq_getElem?_getD, hu]; exact FV.top
        | some u =>
          rw [List.getD_eq_getElem?_getD, hu]
          have hs : s < vs.size := by rw [← hlen]; exact (List.getElem?_eq_some_iff.1 hu).1
          have hvs : vs[s]? = some vs[s] := by simp [hs]
          have := hargs s u _ hu hvs
          rw [show ((#[v] ++ vs) ++ Array.replicate (fn.ntmps - (#[v] ++ vs).size) undef).getD (s + 1) undef = vs[s] by
            rw [Array.getD_eq_getD_getElem?, Array.getElem?_append_left (by simp; omega), Array.getElem?_append_right (by simp)]
            simp [hs]]
          exact FV.of ((this.sub fun g _ hg => hXX _ g hg).any K)
    · obtain ⟨rfl, rfl⟩ := hone hb
      exact hrow
    · obtain ⟨rfl, rfl⟩ := hone hb
      rcases hblk with ⟨k1, k2⟩ | ⟨g, k1, k2⟩
      · exact .inl ⟨k1, k2⟩
      · exact .inr ⟨g, k1, k2 _⟩
    · have := hsome h1
      subst this
      exact .inl (hX g h2).2
/-! ### functions that write blocks in place -/
def subO : List (Nat × OBlk) → List (Nat × OBlk) → Prop
  | [], _ => True
  | (b, x) :: r, O => olk O b = some x ∧ subO r O
theorem subO_get : ∀ {O' O : List (Nat × OBlk)}, subO O' O → ∀ b x, olk O' b = some x → olk O b = some x
  | (i, y) :: r, O, h, b, x, hb => by
    rw [olk_cons] at hb
    by_cases e : i = b
    · rw [if_pos e] at hb; injection hb with hb; subst hb e; exact h.1
    · rw [if_neg e] at hb; exact subO_get h.2 b x hb
/-- plain values alone -/
def scalB (blk : OBlk) : Bool :=
  match blk.kd with
  | .pure => true
  | .any => blk.rows.all (·.all AV.scalar)
  | .flat => false
def scalO : List (Nat × OBlk) → Bool
  | [] => true
  | (_, blk) :: r => scalB blk && scalO r
theorem scalO_get : ∀ {O : List (Nat × OBlk)}, scalO O = true → ∀ b x, olk O b = some x → scalB x = true
  | (i, x) :: r, h, b, y, hb => by
    simp only [scalO, Bool.and_eq_true] at h
    rw [olk_cons] at hb
    by_cases e : i = b
    · rw [if_pos e] at hb; injection hb with hb; subst hb; exact h.1
    · rw [if_neg e] at hb; exact scalO_get h.2 b y hb
theorem scalB_any {w : World} {K K' : KM} {g : Nat} {blk : OBlk} {X X' : Nat → Prop} (hk : scalB blk = true) (h : BlkR w X K g blk) : BlkR w X' K' g blk := by
  obtain ⟨cur, hc, hu⟩ := h
  refine ⟨cur, hc, fun j u hj => ?_⟩
  obtain ⟨y, hy, h1, hv⟩ := hu j u hj
  refine ⟨y, hy, h1, ?_⟩
  unfold scalB at hk
  cases hkd : blk.kd with
  | pure => rw [hkd] at hv; exact hv
  | flat => rw [hkd] at hk; cases hk
  | any =>
    rw [hkd] at hk hv
    have hmem := List.mem_of_getElem? hj
    obtain ⟨row, hr, hur⟩ := List.mem_flatten.1 hmem
    have := List.all_eq_true.1 (List.all_eq_true.1 hk row hr) u hur
    exact scalar_sound this hv _ _
/-- ids that stay bound -/
def pinsOK : List (Nat × OBlk) → Bool
  | [] => true
  | (b, _) :: r => Nat.ble 2 (b % 16) && pinsOK r
theorem pinsOK_get : ∀ {O : List (Nat × OBlk)}, pinsOK O = true → ∀ b, (olk O b).isSome = true → Nat.ble 2 (b % 16) = true
  | (i, x) :: r, h, b, hb => by
    simp only [pinsOK, Bool.and_eq_true] at h
    rw [olk_cons] at hb
    by_cases e : i = b
    · subst e; exact h.1
    · rw [if_neg e] at hb; exact pinsOK_get h.2 b hb
def retRS (c : Cfg) : List ResultVar → AV → Prop
  | [], r => r = .tup []
  | [.tmp t], r => r = lk c.fr t ∧ r.scalar = true
  | _, _ => False
def retQS (rv : List ResultVar) (r : AV) (O' : List (Nat × OBlk)) : Ex → Cfg → Prop
  | .exit _, _ => False
  | _, c => retRS c rv r ∧ scalO O' = true ∧ subO O' c.O
theorem fnS_of {T : Tab} {f : FuncId} {fn : Func} {code : Code} {args : List AV} {O O' : List (Nat × OBlk)} {r : AV} {ks : List Nat} (rv : List ResultVar) (hT : TabOK P T) (h1 : TabOne T = true) (hm : P.follows .mixedOrders = true)
    (hf : P.funcs[f]? = some fn) (hb : fn.body = some code) (hname : (fn.name == "runtime.NumGoroutine") = false) (hd : drawsOK code = true) (hn : Nat.ble args.length fn.ntmps = true) (hN : fn.ntmps = N)
    (hr : fn.results.toList = rv) (hp : pinsOK O = true) (hdom : ∀ b, (olk O' b).isSome = true → (olk O b).isSome = true) (h : ev P T N ks code ⟨idx 0 args, O⟩ (retQS rv r O')) : FnS P f args O O' r := by
  refine ⟨⟨fn, hf, hname, by rw [hb]; rfl⟩, fun w K vs hwi hown hlen hargs => ?_⟩
  refine calls_of_wp hf hb ?_
  have hn' := Nat.le_of_ble_eq_true hn
  subst hN
  refine ev_sound (E := ⟨Live K O, fun _ => False, w, fn.ntmps, hwi, fun b => if (olk O b).isSome = true then K b else none, fun b x hx => by
    by_cases hs : (olk O b).isSome = true
    · exact pinsOK_get hp b hs
    · rw [if_neg hs] at hx; exact (by cases hx), fun _ h => h.elim⟩) hT h1 rfl hm code _ _ _ _ _ hd h (fun ex c a w' hq hs => ?_) ?_
  · obtain ⟨K', hs⟩ := hs
    have hKK : ∀ b, (olk O b).isSome = true → K' b = K b := by
      intro b hb
      rcases hK : K b with _ | x
      · obtain ⟨y, hy⟩ := Option.isSome_iff_exists.1 hb
        rcases hown.own b y hy with ⟨h1, _⟩ | ⟨g, h1, _⟩
        · rw [hK] at h1; cases h1
        · rw [hK] at h1; cases h1
      · exact hs.pin b x (by dsimp only; rw [if_pos hb]; exact hK)
    have key : retRS c rv r ∧ scalO O' = true ∧ subO O' c.O → a.defers = [] ∧ ∃ v1, (results fn a.tmps).run P w' = .ok v1 w' ∧ ∃ v, Ending.returned v1 = .returned v ∧ VR w' (Live K O) K r v ∧ OwnR w' (Live K O) K O' ∧ Ext (Live K O) w w' := by
      rintro ⟨hq, hsc, hsub⟩
      have hsub := subO_get hsub
      have hsc := scalO_get hsc
      have hO' : OwnR w' (Live K O) K O' := by
        refine ⟨fun b blk hb => hs.rows b blk (hsub b blk hb), fun b blk hb => ?_, fun b b' g h1 h2 k1 k2 => ?_⟩
        · have hk := hKK b (hdom b (by simp [hb]))
          rcases hs.own b blk (hsub b blk hb) with ⟨h1, h2⟩ | ⟨g, h1, h2⟩
          · exact .inl ⟨by rw [← hk]; exact h1, h2⟩
          · exact .inr ⟨g, by rw [← hk]; exact h1, scalB_any (hsc b blk hb) h2⟩
        · obtain ⟨x, hx⟩ := Option.isSome_iff_exists.1 h1
          obtain ⟨y, hy⟩ := Option.isSome_iff_exists.1 h2
          exact hs.inj b b' g (by simp [hsub b x hx]) (by simp [hsub b' y hy]) (by rw [blkOf_eq (hKK b (hdom b h1))]; exact k1) (by rw [blkOf_eq (hKK b' (hdom b' h2))]; exact k2)
      match rv, hr, hq with
      | [], hr, hq =>
        have hq : r = .tup [] := hq
        subst hq
        refine ⟨hs.defers, .tuple #[], results_run (rv := []) hr _ _ (vs := []) rfl (fun j x v hx => by simp at hx), _, rfl, .tup rfl (fun j u c hu => by simp at hu), hO', hs.ext⟩
      | [.tmp t], hr, hq =>
        obtain ⟨hq, hsr⟩ : r = lk c.fr t ∧ r.scalar = true := hq
        have hv : FV w' _ K' a.tmps (lk c.fr t) (a.tmps.getD t undef) := hs.fr t
        rw [← hq] at hv
        have hv' := hv.vr (by rintro d want u' rfl; cases hsr)
        refine ⟨hs.defers, a.tmps.getD t undef, results_run hr _ _ (vs := [a.tmps.getD t undef]) rfl (fun j x v2 hx hv2 => by
            cases j with
            | zero => simp at hx hv2; subst hx hv2; simp [resRun]
            | succ j => simp at hx), _, rfl, scalar_sound hsr hv' _ _, hO', hs.ext⟩
      | [.cell _ _], hr, hq => exact hq.elim
      | .tmp _ :: _ :: _, hr, hq => exact (show False from hq).elim
      | .cell _ _ :: _ :: _, hr, hq => exact (show False from hq).elim
    cases ex with
    | normal => exact key hq
    | exit => exact hq.elim
    | ret => exact key hq
  · have hXX : ∀ (E : Env), E.XF = (fun _ => False) → ∀ g, XX E K O g → Live K O g := by
      rintro E hE g (h | h)
      · exact h
      · rw [hE] at h; exact h.1.elim
    refine ⟨K, by simp; omega, rfl, ⟨rfl, rfl, rfl, Nat.le_refl _, fun _ _ _ => rfl, fun _ cur _ h => ⟨cur, h, rfl⟩⟩, fun s => ?_, hown.rows, fun b y hb => ?_, hown.inj, fun b g h1 h2 => .inl ⟨b, h1, h2⟩, fun b x hx => ?_⟩
    · simp only [lk_idx, Nat.zero_le, if_true, Nat.sub_zero]
      cases hu : args[s]? with
      | none => rw [List.getD_eq_getElem?_getD, hu]; exact FV.top
      | some u =>
        rw [List.getD_eq_getElem?_getD, hu]
        have hs : s < vs.size := by rw [← hlen]; exact (List.getElem?_eq_some_iff.1 hu).1
        have hvs : vs[s]? = some vs[s] := by simp [hs]
        have := hargs s u _ hu hvs
        rw [show (vs ++ Array.replicate (fn.ntmps - vs.size) undef).getD s undef = vs[s] by
          rw [Array.getD_eq_getD_getElem?, Array.getElem?_append_left hs]
          simp [hs]]
        exact FV.of (this.sub fun g _ hg => hXX _ rfl g hg)
    · rcases hown.own b y hb with h1 | ⟨g, h1, h2⟩
      · exact .inl h1
      · exact .inr ⟨g, h1, h2.keep rfl (Keep.refl _ _) (fun g _ hg => hXX _ rfl g hg) (fun _ _ _ _ _ _ => rfl)⟩
    · dsimp only at hx
      by_cases hs : (olk O b).isSome = true
      · rw [if_pos hs] at hx; exact hx
      · rw [if_neg hs] at hx; cases hx
/-- one variable, whatever its id -/
theorem FnS.one {f : FuncId} {us : List AV} {b0 b e sz : Nat} {row row' : List AV} {r : AV} (h : FnS P f (us ++ [.ovar b0 0]) [(b0, ⟨e, sz, .any, [row]⟩)] [(b0, ⟨e, sz, .any, [row']⟩)] r) (hu : AV.idlessL us = true) (h1 : AV.idlessL row = true) (h2 : row'.all AV.scalar = true) (hr : scalR r = true) :
    FnS P f (us ++ [.ovar b 0]) [(b, ⟨e, sz, .any, [row]⟩)] [(b, ⟨e, sz, .any, [row']⟩)] r := by
  refine ⟨h.1, fun w K vs hwi hown hlen hargs => ?_⟩
  have hget : ∀ (i : Nat) (x : OBlk) (j : Nat) (y : OBlk), olk [(i, x)] j = some y → j = i ∧ y = x := by
    intro i x j y hy
    rw [olk_cons] at hy
    by_cases e : i = j
    · rw [if_pos e] at hy; injection hy with hy; exact ⟨e.symm, hy.symm⟩
    · rw [if_neg e] at hy; simp [olk] at hy
  have hself : ∀ (i : Nat) (x : OBlk), olk [(i, x)] i = some x := by intro i x; rw [olk_cons, if_pos rfl]
  obtain ⟨x, hx⟩ : ∃ x, K b = some x := by
    rcases hown.own b _ (hself b _) with ⟨k, _⟩ | ⟨g, k, _⟩
    · exact ⟨_, k⟩
    · exact ⟨_, k⟩
  have hblk : blkOf (upd K0 b0 x) b0 = blkOf K b := by unfold blkOf; rw [upd_same, hx]
  have hL : ∀ (y y' : OBlk), Live (upd K0 b0 x) [(b0, y)] = Live K [(b, y')] := by
    intro y y'
    funext g
    apply propext
    constructor
    · rintro ⟨i, hi, hk⟩
      obtain ⟨z, hz⟩ := Option.isSome_iff_exists.1 hi
      obtain ⟨rfl, _⟩ := hget _ _ _ _ hz
      exact ⟨b, by rw [hself]; rfl, by rw [← hblk]; exact hk⟩
    · rintro ⟨i, hi, hk⟩
      obtain ⟨z, hz⟩ := Option.isSome_iff_exists.1 hi
      obtain ⟨rfl, _⟩ := hget _ _ _ _ hz
      exact ⟨b0, by rw [hself]; rfl, by rw [hblk]; exact hk⟩
  have hcell : ∀ {X : Nat → Prop} {K1 K2 : KM} {w : World} {g : Nat} {row : List AV}, AV.idlessL row = true → BlkR w X K1 g ⟨e, sz, .any, [row]⟩ → BlkR w X K2 g ⟨e, sz, .any, [row]⟩ := by
    rintro X K1 K2 w g row hrow ⟨cur, hc, hu⟩
    refine ⟨cur, hc, fun j u hj => ?_⟩
    obtain ⟨y, hy, h1, hv⟩ := hu j u hj
    refine ⟨y, hy, h1, idless_K ?_ hv⟩
    simp only [List.flatten_cons, List.flatten_nil, List.append_nil] at hj
    exact idlessL_get hrow hj
  have hrow' : AV.idlessL row' = true := by
    clear h
    induction row' with
    | nil => rfl
    | cons y ys ih =>
      simp only [List.all_cons, Bool.and_eq_true] at h2
      simp only [AV.idlessL, ih h2.2, Bool.and_true]
      have := h2.1
      cases y <;> simp_all [AV.scalar, AV.idless]
  refine (h.2 w (upd K0 b0 x) vs (fun w' hx' => hwi w' (by rw [hL _ ⟨e, sz, .any, [row]⟩] at hx'; exact hx')) ?_ (by simpa using hlen) (fun j u c hj hc => ?_)).mono ?_
  · rw [hL _ ⟨e, sz, .any, [row]⟩]
    refine ⟨fun i y hy => ?_, fun i y hy => ?_, fun i i' g k1 k2 _ _ => ?_⟩
    · obtain ⟨rfl, rfl⟩ := hget _ _ _ _ hy
      exact hown.rows b _ (hself b _)
    · obtain ⟨rfl, rfl⟩ := hget _ _ _ _ hy
      rcases hown.own b _ (hself b _) with ⟨k1, k2⟩ | ⟨g, k1, k2⟩
      · exact .inl ⟨by rw [upd_same, ← hx]; exact k1, k2⟩
      · exact .inr ⟨g, by rw [upd_same, ← hx]; exact k1, hcell h1 k2⟩
    · obtain ⟨z, hz⟩ := Option.isSome_iff_exists.1 k1
      obtain ⟨z', hz'⟩ := Option.isSome_iff_exists.1 k2
      rw [(hget _ _ _ _ hz).1, (hget _ _ _ _ hz').1]
  · rw [hL _ ⟨e, sz, .any, [row]⟩]
    rcases Nat.lt_or_ge j us.length with hlt | hge
    · rw [List.getElem?_append_left hlt] at hj
      exact idless_K (idlessL_get hu hj) (hargs j u c (by rw [List.getElem?_append_left hlt]; exact hj) hc)
    · rw [List.getElem?_append_right hge] at hj
      have hj0 : j - us.length = 0 := by
        rcases Nat.eq_zero_or_pos (j - us.length) with h | h
        · exact h
        · rw [List.getElem?_eq_none (by simp; omega)] at hj; cases hj
      rw [hj0] at hj
      simp at hj; subst hj
      have hv := hargs j (.ovar b 0) c (by rw [List.getElem?_append_right hge, hj0]; rfl) hc
      obtain ⟨g, hk, rfl⟩ := VR.ovar_inv hv
      exact .ovar (by rw [hblk]; exact hk)
  · rintro en w' ⟨v, rfl, hrr, hown', hext⟩
    rw [hL _ ⟨e, sz, .any, [row]⟩] at hrr hown' hext
    refine ⟨v, rfl, scalR_any hr hrr, ⟨fun i y hy => ?_, fun i y hy => ?_, fun i i' g k1 k2 _ _ => ?_⟩, hext⟩
    · obtain ⟨rfl, rfl⟩ := hget _ _ _ _ hy
      exact hown'.rows b0 _ (hself b0 _)
    · obtain ⟨rfl, rfl⟩ := hget _ _ _ _ hy
      rcases hown'.own b0 _ (hself b0 _) with ⟨k1, k2⟩ | ⟨g, k1, k2⟩
      · exact .inl ⟨by rw [hx, ← upd_same K0 b0 x]; exact k1, k2⟩
      · exact .inr ⟨g, by rw [hx, ← upd_same K0 b0 x]; exact k1, hcell hrow' k2⟩
    · obtain ⟨z, hz⟩ := Option.isSome_iff_exists.1 k1
      obtain ⟨z', hz'⟩ := Option.isSome_iff_exists.1 k2
      rw [(hget _ _ _ _ hz).1, (hget _ _ _ _ hz').1]
end
end
end Go.Abs
