import Derived.Test.YtnmpnlhlbjemeaaNst6
import Derived.Test.YtnmpnlhlbjemeaaMp
namespace Go.Abs
open Go.RowKit
set_option linter.unusedVariables false
/-! ### functions that bind blocks anew that are handed over -/
def FnT (P : Program) (f : FuncId) (args : List AV) (O : List (Nat × OBlk)) (pins : List Nat) (Pre : World → KM → Prop) (Post : World → KM → List (Nat × OBlk) → AV → Prop) : Prop :=
  Head P f ∧ ∀ (XF : Nat → Prop) (w : World) (K : KM) (vs : Array Value), (∀ w', Ext (Live K O) w w' → WI w') → (∀ g, XF g → ¬ Live K O g ∧ g < w.heap.size) → OwnR w (fun g => Live K O g ∨ XF g) K O → args.length = vs.size →
    (∀ (j : Nat) u c, args[j]? = some u → vs[j]? = some c → VR w (fun g => Live K O g ∨ XF g) K u c) → Pre w K →
    Calls P f vs w fun e w' => ∃ v K' O' r, e = .returned v ∧ Post w' K' O' r ∧ VR w' (fun _ => True) K0 r v ∧ r.scalar = true ∧ (∀ b, memN b pins = true → K' b = K b) ∧ OwnR w' (fun g => Live K' O' g ∨ XF g) K' O' ∧ (∀ g, Live K' O' g → Live K O g ∨ w.heap.size ≤ g) ∧ Ext (Live K O) w w'
section
variable {P : Program} {N : Nat}
def EndT (t : Nat) (E : Env) (Post : World → KM → List (Nat × OBlk) → AV → Prop) : Exit → Act → World → Prop := fun e a w => (e = .normal ∨ e = .ret) ∧ ∃ K c, SRK E K c a w ∧ (lk c.fr t).scalar = true ∧ Post w K c.O (lk c.fr t)
theorem fnT_of {f : FuncId} {fn : Func} {code : Code} {args : List AV} {O : List (Nat × OBlk)} {pins : List Nat} {Pre : World → KM → Prop} {Post : World → KM → List (Nat × OBlk) → AV → Prop} (t : Nat)
    (hf : P.funcs[f]? = some fn) (hb : fn.body = some code) (hname : (fn.name == "runtime.NumGoroutine") = false) (hn : Nat.ble args.length fn.ntmps = true) (hN : fn.ntmps = N)
    (hr : fn.results.toList = [.tmp t]) (hpins : ∀ b, memN b pins = true → Nat.ble 2 (b % 16) = true ∧ (olk O b).isSome = true)
    (h : ∀ (E : Env) (K : KM) (a : Act) (w : World), E.N = N → (∀ b, memN b pins = false → E.pin b = none) → SRK E K ⟨idx 0 args, O⟩ a w → Pre w K → code.wp P (EndT t E Post) a w) : FnT P f args O pins Pre Post := by
  refine ⟨⟨fn, hf, hname, by rw [hb]; rfl⟩, fun XF w K vs hwi hxf hown hlen hargs hpre => ?_⟩
  refine calls_of_wp hf hb ?_
  have hn' := Nat.le_of_ble_eq_true hn
  subst hN
  let E : Env := ⟨Live K O, XF, w, fn.ntmps, hwi, fun b => if memN b pins = true then K b else none, fun b x hx => by
    by_cases hm : memN b pins = true
    · exact (hpins b hm).1
    · rw [if_neg hm] at hx; exact (by cases hx), fun g hg => (hxf g hg).1⟩
  have hXX : ∀ g, XX E K O g → Live K O g ∨ XF g := by
    rintro g (h | h)
    · exact .inl h
    · exact .inr h.1
  refine wp_mono (h E K _ _ rfl (fun b hb => by simp only [E]; rw [if_neg (by rw [hb]; simp)]) ?_ hpre) ?_
  · refine ⟨by simp [E]; omega, rfl, ⟨rfl, rfl, rfl, Nat.le_refl _, fun _ _ _ => rfl, fun _ cur _ h => ⟨cur, h, rfl⟩⟩, fun s => ?_, hown.rows, fun b y hb => ?_, hown.inj, fun b g h1 h2 => .inl ⟨b, h1, h2⟩, fun b x hx => ?_⟩
    · simp only [lk_idx, Nat.zero_le, if_true, Nat.sub_zero]
      cases hu : args[s]? with
      | none => rw [List.getD_eq_getElem?_getD, hu]; exact FV.top
      | some u =>
        rw [List.getD_eq_getElem?_getD, hu]
        have hs : s < vs.size := by rw [← hlen]; exact (List.getElem?_eq_some_iff.1 hu).1
        have hvs : vs[s]? = some vs[s] := by simp [hs]
        have := hargs s u _ hu hvs
        rw [show (vs ++ Array.replicate (fn.ntmps - vs.size) undef).getD s undef = vs[s] by
          rw [Array.getD_eq_getD_getElem?, Array.getElem?_append_left hs]
          simp [hs]]
        exact FV.of (this.sub fun g _ hg => hXX g hg)
    · rcases hown.own b y hb with h1 | ⟨g, h1, h2⟩
      · exact .inl h1
      · exact .inr ⟨g, h1, h2.keep rfl (Keep.refl _ _) (fun g _ hg => hXX g hg) (fun _ _ _ _ _ _ => rfl)⟩
    · simp only [E] at hx
      by_cases hm : memN b pins = true
      · rw [if_pos hm] at hx; exact hx
      · rw [if_neg hm] at hx; cases hx
  · rintro e a w' ⟨he, K', c, hs, hsc, hpost⟩
    have hv' : VR w' (XX E K' c.O) K' (lk c.fr t) (a.tmps.getD t undef) := (hs.fr t).vr (by rintro d want u' h; rw [h] at hsc; cases hsc)
    have hKK : ∀ b, memN b pins = true → K' b = K b := by
      intro b hb
      rcases hK : K b with _ | x
      · obtain ⟨y, hy⟩ := Option.isSome_iff_exists.1 (hpins b hb).2
        rcases hown.own b y hy with ⟨h1, _⟩ | ⟨g, h1, _⟩
        · rw [hK] at h1; cases h1
        · rw [hK] at h1; cases h1
      · exact hs.pin b x (by simp only [E]; rw [if_pos hb]; exact hK)
    have hXX' : ∀ g, Live K' c.O g ∨ XF g → XX E K' c.O g := by
      rintro g (h | h)
      · exact .inl h
      · exact .inr ⟨h, (hxf g h).2⟩
    have key : a.defers = [] ∧ ∃ v1, (results fn a.tmps).run P w' = .ok v1 w' ∧ ∃ v K' O' r, Ending.returned v1 = .returned v ∧ Post w' K' O' r ∧ VR w' (fun _ => True) K0 r v ∧ r.scalar = true ∧ (∀ b, memN b pins = true → K' b = K b) ∧ OwnR w' (fun g => Live K' O' g ∨ XF g) K' O' ∧ (∀ g, Live K' O' g → Live K O g ∨ w.heap.size ≤ g) ∧ Ext (Live K O) w w' := by
      refine ⟨hs.defers, a.tmps.getD t undef, results_run hr _ _ (vs := [a.tmps.getD t undef]) rfl (fun j x v2 hx hv2 => by
          cases j with
          | zero => simp at hx hv2; subst hx hv2; simp [resRun]
          | succ j => simp at hx), _, K', c.O, lk c.fr t, rfl, hpost, scalar_sound hsc hv' _ _, hsc, hKK, ⟨hs.rows, fun b blk hb => ?_, hs.inj⟩, fun g ⟨b, h1, h2⟩ => hs.mine b g h1 h2, hs.ext⟩
      rcases hs.own b blk hb with h1 | ⟨g, h1, h2⟩
      · exact .inl h1
      · exact .inr ⟨g, h1, h2.keep rfl (Keep.refl _ _) (fun g _ hg => hXX' g hg) (fun _ _ _ _ _ _ => rfl)⟩
    rcases he with rfl | rfl
    · exact key
    · exact key
/-- what a call of such a function leaves -/
theorem SRK.callT {E : Env} {K K' : KM} {fr : List (Nat × AV)} {O O' : List (Nat × OBlk)} {a : Act} {w w' : World} {pins : List Nat} (h : SRK E K ⟨fr, O⟩ a w)
    (hK : ∀ b, memN b pins = true → K' b = K b) (hown : OwnR w' (fun g => Live K' O' g ∨ (E.XF g ∧ g < E.w0.heap.size)) K' O') (hl : ∀ g, Live K' O' g → Live K O g ∨ w.heap.size ≤ g) (hx : Ext (Live K O) w w')
    (hfr : ∀ t b, (lk fr t).has b = true → memN b pins = true) (hpin : ∀ b, memN b pins = false → E.pin b = none) : SRK E K' ⟨fr, O'⟩ a w' := by
  have hmine : ∀ g, Live K O g → E.X0 g ∨ E.w0.heap.size ≤ g := fun g ⟨b, hb, hk⟩ => h.mine b g hb hk
  have hX : ∀ g, g < w.heap.size → XX E K' O' g → XX E K O g := by
    rintro g hg (hL | hL)
    · rcases hl g hL with h1 | h1
      · exact .inl h1
      · omega
    · exact .inr hL
  have hkeep : Keep (XX E K O) w w' := ⟨hx.size, fun g hg hn => hx.block g hg fun hL => hn (.inl hL), hx.shape⟩
  refine ⟨h.size, h.defers, ⟨hx.os.trans h.ext.os, hx.tape.trans h.ext.tape, hx.output.trans h.ext.output, Nat.le_trans h.ext.size hx.size, fun g hg hX => ?_, fun g cur e hc => ?_⟩, fun t => (h.fr t).keep hkeep hX fun b hb => hK b (hfr t b hb), hown.rows, hown.own, hown.inj, fun b g h1 k1 => ?_, fun b x hb => ?_⟩
  · rw [hx.block g (Nat.lt_of_lt_of_le hg h.ext.size) fun hL => ?_]
    · exact h.ext.block g hg hX
    · rcases hmine g hL with h1 | h1
      · exact hX h1
      · omega
  · obtain ⟨c1, h1, s1⟩ := h.ext.shape g cur e hc
    obtain ⟨c2, h2, s2⟩ := hx.shape g c1 e h1
    exact ⟨c2, h2, s2.trans s1⟩
  · rcases hl g ⟨b, h1, k1⟩ with h2 | h2
    · exact hmine g h2
    · exact .inr (Nat.le_trans h.ext.size h2)
  · have hm : memN b pins = true := by
      cases hq : memN b pins with
      | true => rfl
      | false => rw [hpin b hq] at hb; cases hb
    rw [hK b hm]
    exact h.pin b x hb
/-- the operation that calls it -/
theorem wpOp_callT {E : Env} {K : KM} {fr : List (Nat × AV)} {O : List (Nat × OBlk)} {a : Act} {w : World} {pins : List Nat} {Pre : World → KM → Prop} {Post : World → KM → List (Nat × OBlk) → AV → Prop} {ops : Array Oper} {o : Oper} {Q : Exit → Act → World → Prop} {Kk : Act → World → Prop} {i g : Nat} {f : Operand} {args : Array Operand} {ts : Array TypeId} {caps us : List AV}
    (ho : ops[i]? = some o) (hop : o.op = .call { callee := .value f, args := args, argTypes := ts }) (hw : Region.wanted o (yielded ops a.tmps) = true) (hs : SRK E K ⟨fr, O⟩ a w) (hfn : FnT P g us O pins Pre Post) (hpre : Pre w K)
    (hf : opv ⟨fr, O⟩ f = .func g caps) (hus : args.toList.map (opv ⟨fr, O⟩) ++ caps = us) (hno : ∀ u ∈ us, ∀ d want u', u ≠ .opt d want u')
    (hfr : ∀ t b, (lk fr t).has b = true → memN b pins = true) (hpin : ∀ b, memN b pins = false → E.pin b = none) (hd : dstOK E.N ⟨fr, O⟩ o.dst = true)
    (hk : ∀ K' O' r v w', Post w' K' O' r → r.scalar = true → SRK E K' ⟨putF o.dst r fr, O'⟩ (a.put o.dst v) w' → Kk (a.put o.dst v) w') : wpOp P ops Q i Kk a w := by
  obtain ⟨⟨fn, hfn1, hname, hbody⟩, hfun⟩ := hfn
  have hval := opv_vals (c := ⟨fr, O⟩) hs
  obtain ⟨cv, ef, cl, cvv⟩ := VR.func_inv (hval.at hf)
  obtain ⟨ml, mv⟩ := map_vals hval args
  unfold wpOp
  rw [ho]
  simp only
  rw [if_pos hw]
  left
  unfold Oper.wp
  have hrun : (execOp a.eval o).run P w = .ok (.enter g (args.map a.eval ++ cv)) w := by
    simp only [execOp, hop, resolve, ef, Deferred.ofValue, Sem.run_bind, Sem.run_pure, Result.andThen_ok, invoke, callFunc, run_program]
    simp [hfn1, hname, hbody]
  rw [hrun, Oper.upon_enter]
  have hsize : us.length = (args.map a.eval ++ cv).size := by
    rw [← hus]; simp [cl]
  have hargs : ∀ (j : Nat) u v, us[j]? = some u → (args.map a.eval ++ cv)[j]? = some v → VR w (fun g => Live K O g ∨ (E.XF g ∧ g < E.w0.heap.size)) K u v := by
    intro j u v hu hv
    have hnu := hno u (List.mem_of_getElem? hu)
    rw [← hus] at hu
    have hasl : (args.toList.map (opv ⟨fr, O⟩)).length = (args.map a.eval).size := by simp
    rcases Nat.lt_or_ge j (args.toList.map (opv ⟨fr, O⟩)).length with hlt | hge
    · rw [List.getElem?_append_left hlt] at hu
      rw [Array.getElem?_append_left (by omega)] at hv
      exact FV.vr (mv j u v hu (by simpa using hv)) hnu
    · rw [List.getElem?_append_right hge] at hu
      rw [Array.getElem?_append_right (by omega)] at hv
      rw [hasl] at hu
      exact cvv _ u v hu hv
  have hwi : ∀ w', Ext (Live K O) w w' → WI w' := by
    intro w' hx
    refine E.hwi _ ⟨hx.os.trans hs.ext.os, hx.tape.trans hs.ext.tape, hx.output.trans hs.ext.output, Nat.le_trans hs.ext.size hx.size, fun g hg hX => ?_, fun g cur e hc => ?_⟩
    · rw [hx.block g (Nat.lt_of_lt_of_le hg hs.ext.size) fun ⟨b, hb, hk⟩ => ?_]
      · exact hs.ext.block g hg hX
      · rcases hs.mine b g hb hk with h | h
        · exact hX h
        · omega
    · obtain ⟨c1, h1, s1⟩ := hs.ext.shape g cur e hc
      obtain ⟨c2, h2, s2⟩ := hx.shape g c1 e h1
      exact ⟨c2, h2, s2.trans s1⟩
  refine (hfun (fun g => E.XF g ∧ g < E.w0.heap.size) w K _ hwi (fun g hg => ⟨fun ⟨b, hb, hk⟩ => ?_, Nat.lt_of_lt_of_le hg.2 hs.ext.size⟩) ⟨hs.rows, hs.own, hs.inj⟩ hsize hargs hpre).mono ?_
  · rcases hs.mine b g hb hk with h | h
    · exact E.hxf g hg.1 h
    · have := hg.2; omega
  · rintro e w1 ⟨v, K', O', r, rfl, hpost, hrv, hsc, hKK, hown, hl, hx⟩
    have hs1 := hs.callT hKK hown hl hx hfr hpin
    refine hk K' O' r v w1 hpost hsc (hs1.put (dst := o.dst) (u := r) (v := v) ?_ fun d _ => ?_)
    · exact hd
    · exact FV.of (scalar_sound hsc hrv _ _)
end
end Go.Abs
namespace Go.Abs
mutual
/-- no id but these -/
def AV.inP (ps : List Nat) : AV → Bool
  | .osl b _ _ => memN b ps
  | .optr b _ _ _ => memN b ps
  | .osuf b _ _ _ => memN b ps
  | .ovar b _ => memN b ps
  | .agg xs => AV.inPL ps xs
  | .tup xs => AV.inPL ps xs
  | .func _ xs => AV.inPL ps xs
  | .opt _ _ v => AV.inP ps v
  | _ => true
def AV.inPL (ps : List Nat) : List AV → Bool
  | [] => true
  | u :: us => AV.inP ps u && AV.inPL ps us
end
mutual
theorem has_inP {ps : List Nat} {b : Nat} : ∀ u : AV, u.inP ps = true → u.has b = true → memN b ps = true
  | .osl b' _ _, h, hb => by simp only [AV.has, beq_iff_eq] at hb; subst hb; exact h
  | .optr b' _ _ _, h, hb => by simp only [AV.has, beq_iff_eq] at hb; subst hb; exact h
  | .osuf b' _ _ _, h, hb => by simp only [AV.has, beq_iff_eq] at hb; subst hb; exact h
  | .ovar b' _, h, hb => by simp only [AV.has, beq_iff_eq] at hb; subst hb; exact h
  | .agg xs, h, hb => hasL_inP xs h hb
  | .tup xs, h, hb => hasL_inP xs h hb
  | .func _ xs, h, hb => hasL_inP xs h hb
  | .opt _ _ v, h, hb => has_inP v h hb
  | .top, _, hb => by cases hb
  | .bool _, _, hb => by cases hb
  | .int _ _, _, hb => by cases hb
  | .str _, _, hb => by cases hb
  | .nilsl, _, hb => by cases hb
  | .nilfn, _, hb => by cases hb
  | .esl, _, hb => by cases hb
  | .und, _, hb => by cases hb
  | .lit _, _, hb => by cases hb
  | .rsl _ _ _, _, hb => by cases hb
  | .rptr _ _, _, hb => by cases hb
  | .fsl _ _ _ _ _, _, hb => by cases hb
theorem hasL_inP {ps : List Nat} {b : Nat} : ∀ xs : List AV, AV.inPL ps xs = true → AV.hasL b xs = true → memN b ps = true
  | [], _, hb => by cases hb
  | x :: xs, h, hb => by
    simp only [AV.inPL, Bool.and_eq_true] at h
    simp only [AV.hasL, Bool.or_eq_true] at hb
    rcases hb with hb | hb
    · exact has_inP x h.1 hb
    · exact hasL_inP xs h.2 hb
end
def inPF (ps : List Nat) : List (Nat × AV) → Bool
  | [] => true
  | (_, v) :: r => v.inP ps && inPF ps r
theorem inPF_lk {ps : List Nat} : ∀ {fr : List (Nat × AV)}, inPF ps fr = true → ∀ t b, (lk fr t).has b = true → memN b ps = true
  | [], _, t, b, h => by simp [lk, AV.has] at h
  | (s, v) :: r, hf, t, b, h => by
    simp only [inPF, Bool.and_eq_true] at hf
    rw [lk_cons] at h
    split at h
    · exact has_inP v hf.1 h
    · exact inPF_lk hf.2 t b h
def noOptL : List AV → Bool
  | [] => true
  | u :: us => notOpt u && noOptL us
theorem noOptL_get : ∀ {us : List AV}, noOptL us = true → ∀ u ∈ us, ∀ d want u', u ≠ .opt d want u'
  | x :: xs, h, u, hu, d, want, u', e => by
    simp only [noOptL, Bool.and_eq_true] at h
    rcases List.mem_cons.1 hu with rfl | hu
    · subst e; cases h.1
    · exact noOptL_get h.2 u hu d want u' e
end Go.Abs
namespace Go.Abs
theorem wanted_no' {ops : Array Oper} {o : Oper} {tm : Array Value} (hg : o.guard = none) : Region.wanted o (yielded ops tm) = true := by
  simp [Region.wanted, hg]
end Go.Abs
namespace Go.Abs
theorem wp_evOpsN {P : Program} {T : Tab} {E : Env} {N : Nat} (hT : TabOK P T) (h1 : TabOne T = true) (hN : E.N = N) {K : KM} {fr : List (Nat × AV)} {V Tl : List (Nat × OBlk)} {a : Act} {w : World} {ops : Array Oper} {dm : List (Nat × Bool)} {Kk : Cfg → Prop} {Q : Exit → Act → World → Prop} {is : List Nat}
    (hs : SRK E K ⟨fr, V ++ Tl⟩ a w) (htl : TailOK Tl) (hap : Apart V Tl) (A : Acc) (i n : Nat)
    (hn : ((ops.toList.drop i).take n).length = n) (h : evOps false P T N dm ops A i ((ops.toList.drop i).take n) ⟨fr, V⟩ Kk)
    (hQ : ∀ c' K' a' w', Kk c' → SRK E K' ⟨c'.fr, c'.O ++ Tl⟩ a' w' → Left K V w K' w' → wpOps P ops Q is a' w') : wpOps P ops Q (List.range' i n ++ is) a w := by
  have := wp_evOps (Tl := Tl) (is := is) (Q := Q) (l := (ops.toList.drop i).take n) hT h1 hN htl hap (fun j hj => by
    rw [List.getElem?_take_of_lt (by omega), List.getElem?_drop]; simp) h hs hQ
  rw [hn] at this
  exact this
end Go.Abs
