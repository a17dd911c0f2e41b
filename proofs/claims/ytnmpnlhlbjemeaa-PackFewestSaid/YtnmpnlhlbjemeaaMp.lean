import Derived.Test.YtnmpnlhlbjemeaaFrm
import Derived.MapKept
namespace Go.Abs
open Go.RowKit Go.MapKept
set_option linter.unusedVariables false
/-! ### a map from numbers to Booleans beside the evaluator -/
theorem VR.turn {w w' : World} (hsz : w.heap.size ≤ w'.heap.size) (hcell : ∀ a c, w.cell? a = some c → w'.cell? a = some c)
    (hsh : ∀ (g : Nat) (cur : Array Value) (e : TypeId), w.heap[g]? = some (Obj.cells cur e (0, 0)) → w'.heap[g]? = some (Obj.cells cur e (0, 0))) {X : Nat → Prop} {K : KM} {u : AV} {v : Value} (h : VR w X K u v) : VR w' X K u v := by
  induction h with
  | top => exact .top
  | bool => exact .bool
  | int => exact .int
  | str => exact .str
  | nilsl => exact .nilsl
  | nilfn => exact .nilfn
  | esl => exact .esl
  | und => exact .und
  | lit => exact .lit
  | agg hl h1 hv ih => exact .agg hl h1 fun j u c hu hc => ih j u c hu hc
  | tup hl hv ih => exact .tup hl fun j u c hu hc => ih j u c hu hc
  | func hl hv ih => exact .func hl fun j u c hu hc => ih j u c hu hc
  | rsl hn hz hcap hA hcs h1 hc hv ih =>
    refine .rsl hn hz hcap hA hcs h1 (fun hne => ?_) (fun j u c hu hc => ih j u c hu hc)
    obtain ⟨g, o, e, hg, hx, hc⟩ := hc hne
    exact ⟨g, o, e, Nat.lt_of_lt_of_le hg hsz, hx, fun j c hj => hcell _ _ (hc j c hj)⟩
  | rptr hcs h1 hg hx hc hv ih => exact .rptr hcs h1 (Nat.lt_of_lt_of_le hg hsz) hx (fun j c hj => hcell _ _ (hc j c hj)) (fun j u c hu hc => ih j u c hu hc)
  | osl hKb hnm hc hn hm hcap => exact .osl hKb hnm (hsh _ _ _ hc) hn hm hcap
  | oslnil hKb => exact .oslnil hKb
  | osuf hn => exact .osuf hn
  | ovar hKb => exact .ovar hKb
  | optr hKb => exact .optr hKb
/-- the world in which a map's block has turned -/
def World.setMap (w : World) (g : Nat) (es : Array MapEntry) (cl : Nat) : World := { w with heap := w.heap.setIfInBounds g (.map es cl) }
theorem SRK.setMap {E : Env} {K : KM} {c : Cfg} {a : Act} {w : World} {g cl cl' : Nat} {es es' : Array MapEntry} (h : SRK E K c a w) (hg : w.heap[g]? = some (.map es cl)) (hm : E.X0 g ∨ E.w0.heap.size ≤ g) : SRK E K c a (World.setMap w g es' cl') := by
  have hother : ∀ r, r ≠ g → (World.setMap w g es' cl').heap[r]? = w.heap[r]? := (heap_set (o' := .map es' cl') hg).2
  have hsz : (World.setMap w g es' cl').heap.size = w.heap.size := by simp [World.setMap]
  have hsh : ∀ (r : Nat) (cur : Array Value) (e : TypeId), w.heap[r]? = some (Obj.cells cur e (0, 0)) → (World.setMap w g es' cl').heap[r]? = some (Obj.cells cur e (0, 0)) := by
    intro r cur e hr
    rw [hother r (by rintro rfl; rw [hg] at hr; cases hr)]; exact hr
  have hcell : ∀ a c, w.cell? a = some c → (World.setMap w g es' cl').cell? a = some c := by
    intro a c hc
    have : a.block ≠ g := by rintro rfl; simp [World.cell?, hg] at hc
    simp only [World.cell?] at hc ⊢
    rw [hother _ this]; exact hc
  have hv : ∀ {X : Nat → Prop} {K : KM} {u : AV} {v : Value}, VR w X K u v → VR (World.setMap w g es' cl') X K u v := fun h => h.turn (by omega) hcell hsh
  refine ⟨h.size, h.defers, ⟨h.ext.os, h.ext.tape, h.ext.output, by rw [hsz]; exact h.ext.size, fun r hr hx => ?_, fun r cur e hc => ?_⟩, fun t => ?_, h.rows, fun b x hb => ?_, h.inj, h.mine, h.pin⟩
  · have hne : r ≠ g := fun e => by subst e; exact hm.elim hx (fun h => by omega)
    rw [hother r hne]
    exact h.ext.block r hr hx
  · obtain ⟨c1, h1, s1⟩ := h.ext.shape r cur e hc
    exact ⟨c1, hsh r c1 e h1, s1⟩
  · have := h.fr t
    cases hu : lk c.fr t with
    | opt d want u' => rw [hu] at this; exact this.imp (fun ⟨h1, h2⟩ => ⟨h1, hv h2⟩) id
    | _ => rw [hu] at this; exact hv this
  · rcases h.own b x hb with h1 | ⟨r, h1, cur, h2, h3⟩
    · exact .inl h1
    · refine .inr ⟨r, h1, cur, hsh _ _ _ h2, fun j u hj => ?_⟩
      obtain ⟨y, hy, h4, h5⟩ := h3 j u hj
      exact ⟨y, hy, h4, hv h5⟩
theorem SRK.notLive {E : Env} {K : KM} {c : Cfg} {a : Act} {w : World} {g cl : Nat} {es : Array MapEntry} (h : SRK E K c a w) (hg : w.heap[g]? = some (.map es cl)) : ¬ Live K c.O g := by
  rintro ⟨b, hb, hk⟩
  obtain ⟨x, hx⟩ := Option.isSome_iff_exists.1 hb
  rcases h.own b x hx with ⟨h1, _⟩ | ⟨g', h1, cur, hc, _⟩
  · rw [show blkOf K b = none from by simp [blkOf, h1]] at hk; cases hk
  · rw [blkOf_of h1] at hk; injection hk with hk; subst hk
    rw [hg] at hc; cases hc
/-- what a map from numbers to Booleans holds -/
abbrev ik (k : Int) : Value := .int .i64 k
abbrev fnow (k : Int) (l : List MapEntry) (i : Nat) : Option (Option (Nat × Value)) := Instr.findNow (.int .i64) (ik k) l i
structure MapB (es : Array MapEntry) (f : Int → Bool) : Prop where
  keys : ∀ x ∈ es.toList, IsKey (.int .i64) x.key
  look : ∀ k, (fnow k es.toList 0 = some none ∧ f k = false) ∨ ∃ j, fnow k es.toList 0 = some (some (j, .bool (f k)))
theorem MapB.empty : MapB #[] (fun _ => false) := ⟨by simp, fun k => .inl ⟨rfl, rfl⟩⟩
theorem isKey_int {v : Value} (h : IsKey (.int .i64) v) : ∃ k, v = ik k := by
  cases v <;> simp [IsKey] at h
  subst h; exact ⟨_, rfl⟩
theorem fnow_cons (k a : Int) (v : Value) (b : Nat) (l : List MapEntry) (i : Nat) : fnow k (⟨ik a, v, b⟩ :: l) i = if k = a then some (some (i, v)) else fnow k l (i + 1) := by
  by_cases h : k = a
  · subst h; simp [fnow, Instr.findNow, Instr.sameNow]
  · rw [if_neg h]
    have : (k == a) = false := by simp [h]
    simp only [fnow, Instr.findNow, Instr.sameNow, if_true, this]
theorem fnow_push (k a : Int) (v : Value) (b : Nat) : ∀ (l : List MapEntry) (i : Nat), (∀ x ∈ l, IsKey (.int .i64) x.key) → fnow a l i = some none → ∃ j, fnow k (l ++ [⟨ik a, v, b⟩]) i = if k = a then some (some (j, v)) else fnow k l i
  | [], i, _, _ => ⟨i, by rw [List.nil_append, fnow_cons]; rfl⟩
  | ⟨key, val, bo⟩ :: l, i, hk, h => by
    obtain ⟨x, hx⟩ := isKey_int (hk _ (.head _))
    dsimp only at hx
    subst hx
    rw [fnow_cons] at h
    split at h
    · cases h
    · rename_i hax
      obtain ⟨j, hj⟩ := fnow_push k a v b l (i + 1) (fun y hy => hk y (.tail _ hy)) h
      refine ⟨j, ?_⟩
      rw [List.cons_append, fnow_cons, hj, fnow_cons]
      by_cases e : k = a
      · subst e; rw [if_pos rfl, if_neg hax, if_pos rfl]
      · rw [if_neg e, if_neg e]
theorem fnow_modify (k a : Int) (v : Value) : ∀ (l : List MapEntry) (i j : Nat) (v0 : Value), (∀ x ∈ l, IsKey (.int .i64) x.key) → fnow a l i = some (some (i + j, v0)) → fnow k (l.modify j fun e => { e with key := ik a, val := v }) i = if k = a then some (some (i + j, v)) else fnow k l i
  | [], i, j, v0, _, h => by simp [fnow, Instr.findNow] at h
  | ⟨key, val, bo⟩ :: l, i, j, v0, hk, h => by
    obtain ⟨x, hx⟩ := isKey_int (hk _ (.head _))
    dsimp only at hx
    subst hx
    rw [fnow_cons] at h
    split at h
    · rename_i e
      subst e
      have : j = 0 := by simp at h; omega
      subst this
      rw [List.modify_zero_cons, fnow_cons, fnow_cons]
      by_cases e : k = a
      · rw [if_pos e, if_pos e]; rfl
      · rw [if_neg e, if_neg e, if_neg e]
    · rename_i hax
      cases j with
      | zero =>
        exfalso
        have key : ∀ (l : List MapEntry) (i m : Nat) (v : Value), (∀ x ∈ l, IsKey (.int .i64) x.key) → fnow a l i = some (some (m, v)) → i ≤ m := by
          intro l
          induction l with
          | nil => intro i m v _ h; simp [fnow, Instr.findNow] at h
          | cons y l ih =>
            intro i m v hk h
            obtain ⟨key, val, bo⟩ := y
            obtain ⟨x, hx⟩ := isKey_int (hk _ (.head _))
            dsimp only at hx
            subst hx
            rw [fnow_cons] at h
            split at h
            · simp at h; omega
            · have := ih (i + 1) m v (fun y hy => hk y (.tail _ hy)) h; omega
        have := key l (i + 1) _ _ (fun y hy => hk y (.tail _ hy)) h
        omega
      | succ j =>
        rw [List.modify_succ_cons, fnow_cons, fnow_cons, fnow_modify k a v l (i + 1) j v0 (fun y hy => hk y (.tail _ hy)) (by rw [h]; congr 3; omega)]
        by_cases e : k = a
        · subst e; rw [if_neg hax, if_pos rfl, if_pos rfl]; congr 3; omega
        · rw [if_neg e, if_neg e]
section
variable {P : Program} {w : World} {mt kt et g cl : Nat} {es : Array MapEntry} {f : Int → Bool}
theorem run_lookup (hm : P.underlying mt = some (.map kt et)) (hd : P.underlying kt = some (.int .i64)) (hz : (zeroValue et).run P w = .ok (.bool false) w) (hg : w.heap[g]? = some (.map es cl)) (h : MapB es f) (k : Int) :
    (Instr.lookup mt (.map (some g)) (ik k) false).run P w = .ok (.bool (f k)) w := by
  have hk : IsKey (.int .i64) (ik k) := rfl
  rcases h.look k with ⟨h1, h2⟩ | ⟨j, h1⟩
  · simp [Instr.lookup, run_underlying hm, Go.MapKept.run_getObj_map hg, Go.MapKept.run_checkKey hd hk, Go.MapKept.run_findKey hd h1, Result.andThen, hz, h2]
  · simp [Instr.lookup, run_underlying hm, Go.MapKept.run_getObj_map hg, Go.MapKept.run_checkKey hd hk, Go.MapKept.run_findKey hd h1, Result.andThen]
theorem run_mapUpdate (hm : P.underlying mt = some (.map kt et)) (hd : P.underlying kt = some (.int .i64)) (hg : w.heap[g]? = some (.map es cl)) (h : MapB es f) (k : Int) (b : Bool) :
    ∃ es' cl', (Instr.mapUpdate mt (.map (some g)) (ik k) (.bool b)).run P w = .ok () (World.setMap w g es' cl') ∧ MapB es' (fun i => if i = k then b else f i) := by
  have hk : IsKey (.int .i64) (ik k) := rfl
  rcases h.look k with ⟨h1, h2⟩ | ⟨j, h1⟩
  · refine ⟨es.push { key := ik k, val := .bool b, born := cl }, cl + 1, ?_, ?_, fun i => ?_⟩
    · simp [Instr.mapUpdate, run_underlying hm, Go.MapKept.run_getObj_map hg, Go.MapKept.run_checkKey hd hk, Go.MapKept.run_findKey hd h1, Go.MapKept.run_setObj_map _ hg, Result.andThen, World.setMap]
    · intro x hx
      simp only [Array.toList_push, List.mem_append, List.mem_singleton] at hx
      rcases hx with hx | rfl
      · exact h.keys x hx
      · exact hk
    · obtain ⟨j, hj⟩ := fnow_push i k (.bool b) cl es.toList 0 h.keys h1
      rw [Array.toList_push, hj]
      by_cases e : i = k
      · simp only [if_pos e]; exact .inr ⟨_, rfl⟩
      · simp only [if_neg e]; exact h.look i
  · have hsp := findNow_spec hk es.toList 0 h.keys
    obtain ⟨e, he, hek⟩ : ∃ e, es[j]? = some e ∧ e.key = ik k := by
      rcases hsp with ⟨h3, _⟩ | ⟨j', e, h3, h4, h5⟩ <;> change fnow k es.toList 0 = _ at h3
      · rw [h1] at h3; cases h3
      · rw [h1] at h3
        simp at h3
        rw [h3.1]
        exact ⟨e, by simpa using h4, h5⟩
    refine ⟨es.modify j fun e => { e with key := ik k, val := .bool b }, cl, ?_, ?_, fun i => ?_⟩
    · simp [Instr.mapUpdate, run_underlying hm, Go.MapKept.run_getObj_map hg, Go.MapKept.run_checkKey hd hk, Go.MapKept.run_findKey hd h1, he, hek, Go.MapKept.run_keyThatStays hk, Go.MapKept.run_setObj_map _ hg, Result.andThen, World.setMap]
    · exact isKey_modify h.keys _ _ fun e' he' => by rw [he] at he'; cases he'; exact hek.symm
    · have := fnow_modify i k (.bool b) es.toList 0 j (.bool (f k)) h.keys (by rw [h1]; congr 3; omega)
      rw [Array.toList_modify, this]
      by_cases e : i = k
      · simp only [if_pos e]; exact .inr ⟨_, rfl⟩
      · simp only [if_neg e]; exact h.look i
end
section
variable {P : Program} {T : Tab} {E : Env} {N : Nat} {K : KM} {c : Cfg} {a : Act} {w : World} {ops : Array Oper} {o : Oper} {Q : Exit → Act → World → Prop} {K' : Act → World → Prop}
/-- an operation that yields a value -/
theorem wpOp_value {i : Nat} {v : Value} {w' : World} (ho : ops[i]? = some o) (hw : Region.wanted o (yielded ops a.tmps) = true) (hrun : (execOp a.eval o).run P w = .ok (.value v) w') (hk : K' (a.put o.dst v) w') : wpOp P ops Q i K' a w := by
  unfold wpOp
  rw [ho]
  simp only
  rw [if_pos hw]
  left
  unfold Oper.wp
  rw [hrun]
  exact hk
/-- an operation that yields none -/
theorem wpOp_skip {i : Nat} {w' : World} (ho : ops[i]? = some o) (hw : Region.wanted o (yielded ops a.tmps) = true) (hrun : (execOp a.eval o).run P w = .ok .skip w') (hk : K' (a.put o.dst undef) w') : wpOp P ops Q i K' a w := by
  unfold wpOp
  rw [ho]
  simp only
  rw [if_pos hw]
  left
  unfold Oper.wp
  rw [hrun]
  exact hk
theorem wpOp_lookup {i t : Nat} {x k : Operand} {v : Value} (ho : ops[i]? = some o) (hop : o.op = .lookup t x k false) (hw : Region.wanted o (yielded ops a.tmps) = true) (hrun : (Instr.lookup t (a.eval x) (a.eval k) false).run P w = .ok v w) (hk : K' (a.put o.dst v) w) : wpOp P ops Q i K' a w :=
  wpOp_value ho hw (by simp only [execOp, hop, Sem.run_bind, hrun, Result.andThen_ok, Sem.run_pure]) hk
theorem wpOp_mapUpdate {i t : Nat} {x k y : Operand} {w' : World} (ho : ops[i]? = some o) (hop : o.op = .mapUpdate t x k y) (hw : Region.wanted o (yielded ops a.tmps) = true) (hrun : (Instr.mapUpdate t (a.eval x) (a.eval k) (a.eval y)).run P w = .ok () w') (hk : K' (a.put o.dst undef) w') : wpOp P ops Q i K' a w :=
  wpOp_skip ho hw (by simp only [execOp, hop, Sem.run_bind, hrun, Result.andThen_ok, Sem.run_pure]) hk
theorem wpOp_makeMap {i t : Nat} (ho : ops[i]? = some o) (hop : o.op = .makeMap t none) (hw : Region.wanted o (yielded ops a.tmps) = true) (hk : K' (a.put o.dst (.map (some w.heap.size))) (w.alloc (.map #[] 0))) : wpOp P ops Q i K' a w :=
  wpOp_value ho hw (by simp [execOp, hop, Instr.makeMap, Result.andThen]) hk
end
/-! ### evaluations in parts: blocks and loops -/
section
variable {P : Program} {T : Tab} {N : Nat} {ks : List Nat}
theorem SemA.mono {code : Code} {c : Cfg} {Q Q1 : Ex → Cfg → Prop} (h : SemA P N code c Q) (hq : ∀ e c, Q e c → Q1 e c) : SemA P N code c Q1 :=
  fun E hN Q' a w hQ hs => h E hN Q' a w (fun e c a w hc hs => hQ e c a w (hq e c hc) hs) hs
theorem SemA.wk {code : Code} {c c' : Cfg} {Q : Ex → Cfg → Prop} (hw : Wk c c') (h : SemA P N code c' Q) : SemA P N code c Q :=
  fun E hN Q' a w hQ hs => h E hN Q' a w hQ (hw E a w hs)
theorem SemA.block {id : Nat} {b : Code} {c : Cfg} {Q : Ex → Cfg → Prop} (h : SemA P N b c fun e c' => match e with | .exit id' => if id' = id then Q .normal c' else Q (.exit id') c' | e => Q e c') : SemA P N (.block id b) c Q := by
  intro E hN Q' a w hQ hs
  refine wp_block (h E hN _ a w (fun e c a w hq hs => ?_) hs)
  cases e with
  | normal => exact hQ _ c a w hq hs
  | exit id' =>
    simp only [Ex.toExit, Exit.inBlock]
    dsimp only at hq
    split at hq
    · rename_i he; rw [if_pos he]; exact hQ .normal c a w hq hs
    · rename_i he; rw [if_neg he]; exact hQ (.exit id') c a w hq hs
  | ret => exact hQ _ c a w hq hs
theorem SemA.loop {b : Code} {c : Cfg} {Q : Ex → Cfg → Prop} (I : Nat → Cfg → Prop) (h0 : ∃ n c', Wk c c' ∧ I n c') (hr : ∀ n c, I n c → SemA P N b c fun e c' => match e with | .normal => ∃ m c'', Wk c' c'' ∧ m < n ∧ I m c'' | e => Q e c') : SemA P N (.loop b) c Q := by
  intro E hN Q' a w hQ hs
  obtain ⟨n, c', hw, hI⟩ := h0
  refine wp_loop_ghost (fun n a w => ∃ c, I n c ∧ SR E c a w) n ⟨c', hI, hw E a w hs⟩ ?_
  rintro n a w ⟨c, hI, hs⟩
  refine hr n c hI E hN _ a w (fun e c a w hq hs => ?_) hs
  cases e with
  | normal =>
    obtain ⟨m, c'', hw, hlt, hI'⟩ := hq
    exact ⟨m, hlt, c'', hI', hw E a w hs⟩
  | exit id => exact hQ _ c a w hq hs
  | ret => exact hQ _ c a w hq hs
end
end Go.Abs
