import Derived.Test.YtnmpnlhlbjemeaaA3
namespace Go.Abs
open Go.RowKit
set_option linter.unusedVariables false
/-! ### an evaluation in parts -/
/-- what an evaluation comes to, of the machine -/
def SemA (P : Program) (N : Nat) (code : Code) (c : Cfg) (Q : Ex → Cfg → Prop) : Prop :=
  ∀ (E : Env), E.N = N → ∀ (Q' : Exit → Act → World → Prop) (a : Act) (w : World), (∀ e c a w, Q e c → SR E c a w → Q' e.toExit a w) → SR E c a w → code.wp P Q' a w
section
variable {P : Program} {T : Tab} {N : Nat} {ks : List Nat}
theorem SemA.ev (hT : TabOK P T) (h1 : TabOne T = true) (hm : P.follows .mixedOrders = true) {code : Code} {c : Cfg} {Q : Ex → Cfg → Prop} (hd : drawsOK code = true) (h : ev P T N ks code c Q) : SemA P N code c Q :=
  fun E hN Q' a w hQ hs => ev_sound hT h1 hN hm code c Q Q' a w hd h hQ hs
theorem SemA.seq {x y : Code} {c : Cfg} {Q : Ex → Cfg → Prop} (R : Cfg → Prop) (hx : SemA P N x c fun e c' => match e with | .normal => R c' | e => Q e c') (hy : ∀ c', R c' → SemA P N y c' Q) : SemA P N (.seq x y) c Q := by
  intro E hN Q' a w hQ hs
  refine wp_seq (hx E hN _ a w (fun e c a w hq hs => ?_) hs)
  cases e with
  | normal => exact hy c hq E hN Q' a w hQ hs
  | exit id => exact hQ _ c a w hq hs
  | ret => exact hQ _ c a w hq hs
theorem SemA.cond {x : Operand} {t e : Code} {c : Cfg} {Q : Ex → Cfg → Prop} {b : Bool} (hb : opv c x = .bool b) (ht : b = true → SemA P N t c Q) (he : b = false → SemA P N e c Q) : SemA P N (.cond x t e) c Q := by
  intro E hN Q' a w hQ hs
  exact wp_cond_split (opv_FV hs hb) (fun h => ht h E hN Q' a w hQ hs) (fun h => he h E hN Q' a w hQ hs)
/-- the rule of a function, from an evaluation in parts -/
theorem fn_ofS {T : Tab} {f : FuncId} {fn : Func} {code : Code} {args : List AV} {r : AV} (rv : List ResultVar) (hT : TabOK P T)
    (hf : P.funcs[f]? = some fn) (hb : fn.body = some code) (hname : (fn.name == "runtime.NumGoroutine") = false) (hn : Nat.ble args.length fn.ntmps = true) (hN : fn.ntmps = N)
    (hr : fn.results.toList = rv) (h : SemA P N code ⟨idx 0 args, []⟩ (retQ T rv r)) : Fn P f args r := by
  refine ⟨⟨fn, hf, hname, by rw [hb]; rfl⟩, fun X w vs hwi hlen hargs => ?_⟩
  refine calls_of_wp hf hb ?_
  have hn' := Nat.le_of_ble_eq_true hn
  subst hN
  refine h (Env0 (fun _ => False) X w fn.ntmps (fun w' hx => hwi.mono hx.size fun g hg => hx.block g hg id)) rfl _ _ _ (fun e c a w' hq hs => ?_) ⟨K0, ?_⟩
  · obtain ⟨K, hs⟩ := hs
    have key : retR T c rv r → a.defers = [] ∧ ∃ v, (results fn a.tmps).run P w' = .ok v w' ∧ ∃ v', Ending.returned v = .returned v' ∧ RR w' w.heap.size (fun g => X g ∧ g < w.heap.size) r v' ∧ Below w.heap.size w w' := by
      intro hq
      obtain ⟨vs, hl, ht, hR⟩ := retR_sound hT hs hq
      refine ⟨hs.defers, _, results_run hr _ _ hl ht, _, rfl, hR, ?_⟩
      exact ⟨hs.ext.os, hs.ext.tape, hs.ext.output, hs.ext.size, fun k hk => hs.ext.block k hk (fun h => h)⟩
    cases e with
    | normal => exact key hq
    | exit => exact hq.elim
    | ret => exact key hq
  · refine ⟨by simp; omega, rfl, ⟨rfl, rfl, rfl, Nat.le_refl _, fun _ _ _ => rfl, fun _ cur _ h => ⟨cur, h, rfl⟩⟩, fun t => ?_, fun b blk hb => by simp [olk] at hb, fun b blk hb => by simp [olk] at hb, fun b b' g hb => by simp [olk] at hb, fun b g hb => by simp [olk] at hb, fun b x hx => by cases hx⟩
    simp only [lk_idx, Nat.zero_le, if_true, Nat.sub_zero]
    cases hu : args[t]? with
    | none => rw [List.getD_eq_getElem?_getD, hu]; exact FV.top
    | some u =>
      rw [List.getD_eq_getElem?_getD, hu]
      have ht : t < vs.size := by rw [← hlen]; exact (List.getElem?_eq_some_iff.1 hu).1
      have hv : vs[t]? = some vs[t] := by simp [ht]
      have := hargs t u _ hu hv
      rw [show (vs ++ Array.replicate (fn.ntmps - vs.size) undef).getD t undef = vs[t] by
        rw [Array.getD_eq_getD_getElem?, Array.getElem?_append_left ht, hv]; rfl]
      refine FV.of (this.sub fun g hg hX => ?_)
      rcases hX with ⟨b, hb, _⟩ | hX
      · simp [olk] at hb
      · exact hX.1.1
end
end Go.Abs
