import Derived.Test.YtioekoecinogjaaDoorA3
import Derived.HandedShaped
namespace Go.Abs
open Go.RowKit Go.ChangeShapes Go.WideShapes Go.ChangeAt
set_option linter.unusedVariables false
section
variable {H : Type} {enc : TypeId × Value → H}
/-- THE ROW'S STEP, whatever the law, where the row lists package-level variables and others follow from the world's shape -/
theorem law_laidShaped {C : Checked} {os : Os} {f : FuncId} {fn : Func} {s : ChangeSpec} {conds : List PathCond} {d tb : Nat} {L : List (String × DataW Unit)}
    (own : ownKnob C.prog.godebug = none) (started : os.Started) (noInit : C.prog.inits.idxOf? f = none) (hfn : C.prog.funcs[f]? = some fn)
    (witness : ∃ (w : World) (tape : Tape) (i : Input), w.os = os ∧ (w.forCall tape i).Shaped C.prog ∧ i.vars = [] ∧ Input.okWide C.prog (w.forCall tape i) .any w.heap.size f i ∧
      ((s.pre enc C.prog fn conds false (w.forCall tape i).memory i.args ∧ laidMetH C.prog L (w.forCall tape i).memory) ∧ sizedMet enc C.prog fn (OpenSpec.ofChange s) false (w.forCall tape i).memory i.args) ∧ ({} : Assume).holds C.prog (lone (Frame.enter C.prog f i.args .normal) [] (w.forCall tape i)))
    (laid : laidOutB C.prog = true) (hplain : (fn.params.toList.all fun t => plainT C.prog d t) = true) (hread : (fn.params.toList.all fun t => C.prog.readableRec t && decide (t < C.prog.types.size)) = true)
    (hres : fn.resultTypes = #[tb]) (htb : C.prog.underlying tb = some .bool) (hvars : s.vars = [])
    (hspec : ∀ ds : List (DataW H), ds.length = fn.params.toList.length → s.fn H ds = { results := [.lit (.bool true)], args := ds })
    (hwi : ∀ w : World, w.ShapedOpen C.prog → laidMetH C.prog L w → WI w) (law : ∀ us, RdVs C.prog d fn.params.toList us → Fn C.prog f us (.bool true)) :
    ReturnsInHanded {} C os f .any (fun w args => (s.pre enc C.prog fn conds false w args ∧ laidMetH C.prog L w) ∧ sizedMet enc C.prog fn (OpenSpec.ofChange s) false w args) (s.post enc C.prog fn false true false false) := by
  refine returnsInHanded_of_calls own started noInit witness ?_
  intro w tape i _ hsh _ hok hpre hholds
  obtain ⟨_, _, _, fn', hfn', _, _, _, _, hval⟩ := hok
  have e : fn' = fn := Option.some.inj (hfn'.symm.trans hfn)
  subst e
  obtain ⟨⟨⟨ds, gs, before, hw, hc⟩, hx⟩, hz⟩ := hpre
  have hw' := DataW.Whole.of_heap (w' := w.forCall tape i) (by rfl) hw
  have hL : laidMetH C.prog L (w.forCall tape i) := hx.of_heap (by rfl)
  suffices hmain : Calls C.prog f i.args (w.forCall tape i) fun e W' => ∃ v, e = .returned v ∧ s.post enc C.prog fn' false true false false (w.forCall tape i) i.args v W' by
    refine hmain.mono fun e W' ⟨v, he, hp⟩ => ?_
    subst he
    exact ChangeSpec.post_blind hp
  generalize hWW : w.forCall tape i = W at *
  have hW' := hw'
  obtain ⟨p, q, hA, hV, rfl, hfz, hnd⟩ := hw'
  rw [hvars] at hV
  obtain ⟨rfl, rfl⟩ := trodVars_none hV
  obtain ⟨hdl, hvl⟩ := trodAll_len hA
  obtain ⟨us, hus, hl, hr⟩ := args_rd (w := W) (b0 := w.heap.size) hplain (fun j t v ht hv => hval j t v (by simpa using ht) (by simpa using hv)) hA
  refine ((law us hus).2 (fun _ => False) W i.args (hwi W hsh hL) (by rw [hl]; simp) (fun j u c hu hc => hr j u c hu (by simpa using hc))).mono fun e W' ⟨v, he, hR, bel⟩ => ?_
  subst he
  have hv : v = .bool true := VR.bool_inv hR
  subst hv
  refine ⟨_, rfl, ds, [], p ++ [], [], p, [], hW', ?_, ?_, ?_, bel.frame _, fun h => by cases h⟩
  · rw [hspec _ (by simpa using hdl), hres]
    exact trodAll_mk1 (shut_bool htb _)
  · rw [hspec _ (by simpa using hdl)]
    simp only [List.append_nil]
    exact below_trodAll laid bel hread hA
  · rw [hspec _ (by simpa using hdl), hvars]
    exact rfl
end
end Go.Abs
