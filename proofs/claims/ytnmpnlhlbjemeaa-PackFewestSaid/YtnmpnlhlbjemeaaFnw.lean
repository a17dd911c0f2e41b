import Derived.Test.YtnmpnlhlbjemeaaNst3
namespace Go.Abs
open Go.RowKit
set_option linter.unusedVariables false
section
variable {P : Program} {N : Nat}
/-- how a body ends -/
def EndW (T : Tab) (rv : List ResultVar) (r : AV) (E : Env) : Exit → Act → World → Prop := fun e a w => (e = .normal ∨ e = .ret) ∧ ∃ K c, SRK E K c a w ∧ retR T c rv r
/-- the rule of a function, from its body's run -/
theorem fn_ofW {T : Tab} {f : FuncId} {fn : Func} {code : Code} {args : List AV} {r : AV} (rv : List ResultVar) (hT : TabOK P T)
    (hf : P.funcs[f]? = some fn) (hb : fn.body = some code) (hname : (fn.name == "runtime.NumGoroutine") = false) (hn : Nat.ble args.length fn.ntmps = true) (hN : fn.ntmps = N)
    (hr : fn.results.toList = rv) (h : ∀ (E : Env) (K : KM) (a : Act) (w : World), E.N = N → (∀ b, E.pin b = none) → SRK E K ⟨idx 0 args, []⟩ a w → code.wp P (EndW T rv r E) a w) : Fn P f args r := by
  refine ⟨⟨fn, hf, hname, by rw [hb]; rfl⟩, fun X w vs hwi hlen hargs => ?_⟩
  refine calls_of_wp hf hb ?_
  have hn' := Nat.le_of_ble_eq_true hn
  subst hN
  refine wp_mono (h (Env0 (fun _ => False) X w fn.ntmps (fun w' hx => hwi.mono hx.size fun g hg => hx.block g hg id)) K0 _ _ rfl (fun _ => rfl) ?_) ?_
  · refine ⟨by simp; omega, rfl, ⟨rfl, rfl, rfl, Nat.le_refl _, fun _ _ _ => rfl, fun _ cur _ h => ⟨cur, h, rfl⟩⟩, fun t => ?_, fun b blk hb => by simp [olk] at hb, fun b blk hb => by simp [olk] at hb, fun b b' g hb => by simp [olk] at hb, fun b g hb => by simp [olk] at hb, fun b x hx => by cases hx⟩
    simp only [lk_idx, Nat.zero_le, if_true, Nat.sub_zero]
    cases hu : args[t]? with
    | none => rw [List.getD_eq_getElem?_getD, hu]; exact FV.top
    | some u =>
      rw [List.getD_eq_getElem?_getD, hu]
      have ht : t < vs.size := by rw [← hlen]; exact (List.getElem?_eq_some_iff.1 hu).1
      have hv : vs[t]? = some vs[t] := by simp [ht]
      have := hargs t u _ hu hv
      rw [show (vs ++ Array.replicate (fn.ntmps - vs.size) undef).getD t undef = vs[t] by
        rw [Array.getD_eq_getD_getElem?, Array.getElem?_append_left ht, hv]; rfl]
      refine FV.of (this.sub fun g hg hX => ?_)
      rcases hX with ⟨b, hb, _⟩ | hX
      · simp [olk] at hb
      · exact hX.1.1
  · rintro e a w' ⟨he, K, c, hs, hq⟩
    have key : a.defers = [] ∧ ∃ v, (results fn a.tmps).run P w' = .ok v w' ∧ ∃ v', Ending.returned v = .returned v' ∧ RR w' w.heap.size (fun g => X g ∧ g < w.heap.size) r v' ∧ Below w.heap.size w w' := by
      obtain ⟨vs, hl, ht, hR⟩ := retR_sound hT hs hq
      refine ⟨hs.defers, _, results_run hr _ _ hl ht, _, rfl, hR, ?_⟩
      exact ⟨hs.ext.os, hs.ext.tape, hs.ext.output, hs.ext.size, fun k hk => hs.ext.block k hk (fun h => h)⟩
    rcases he with rfl | rfl
    · exact key
    · exact key
/-- the nil slice as a reading without rows -/
theorem fn_nil_rsl {f : FuncId} {us : List AV} {xs : List AV} {sz : Nat} (h : Fn P f us (.tup (.nilsl :: xs))) : Fn P f us (.tup (.rsl sz 0 [] :: xs)) := by
  refine ⟨h.1, fun X w vs hw hl ha => (h.2 X w vs hw hl ha).mono ?_⟩
  rintro e w' ⟨v, rfl, ⟨ws, rfl, h1, ⟨c, h2, h3⟩, h4⟩, hb⟩
  refine ⟨_, rfl, ⟨ws, rfl, h1, ⟨c, h2, ?_⟩, h4⟩, hb⟩
  have : c = .slice none 0 0 := VR.nilsl_inv h3
  subst this
  exact VR.rsl (cs := []) (by simp) (by simp) (Nat.le_refl _) (fun _ => rfl) (by simp) (by simp) (by simp) (by simp)
end
theorem SRK.only {E : Env} {K : KM} {c : Cfg} {a : Act} {w : World} (h : SRK E K c a w) (ks ids : List Nat) : SRK E K (c.only ks ids) a w :=
  h.weak (fun t => lk_keep c.fr ks t) fun b x hb => olk_keep c.O ids b x hb
/-- some slots and blocks alone, beside a family -/
theorem SRK.onlyT {E : Env} {K : KM} {fr : List (Nat × AV)} {V Tl : List (Nat × OBlk)} {a : Act} {w : World} (h : SRK E K ⟨fr, V ++ Tl⟩ a w) (hap : Apart V Tl) (ks ids : List Nat) : SRK E K ⟨keepF fr ks, keepO V ids ++ Tl⟩ a w :=
  h.weak (fun t => lk_keep fr ks t) fun b x hb => by
    rcases olk_app_inv hb with hb | ⟨_, hb⟩
    · exact olk_app_l (olk_keep V ids b x hb)
    · rw [olk_app_r (hap b x hb)]; exact hb
end Go.Abs
