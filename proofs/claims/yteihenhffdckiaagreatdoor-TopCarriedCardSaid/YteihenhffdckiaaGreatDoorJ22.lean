import Derived.RangeFuncRecord
import Derived.RangeFuncSeq
import Derived.Sort.LoopGhostIn
import Derived.OrdersIn
import Derived.RangeFuncCalls
import Derived.Test.YteihenhffdckiaaGreatDoorFrza
section
namespace Go.Abs
open Go.RowKit
set_option linter.unusedVariables false
/-! ### what is shown of code in a plain frame holds in a round's, and beside marks among the deferred calls -/
/-- no fence, in a round or not -/
abbrev FrW (r : Option Nat) : Fence := { Fence.wide with round := r }
def noDef (o : Oper) : Bool := match o.op with | .defer _ => false | _ => true
/-- further deferred calls -/
def wd (ds : List Deferred) (a : Act) : Act := { a with defers := a.defers ++ ds }
theorem wd_eval (ds : List Deferred) (a : Act) : (wd ds a).eval = a.eval := rfl
theorem wd_put (ds : List Deferred) (a : Act) (d : Option Tmp) (v : Value) : wd ds (a.put d v) = (wd ds a).put d v := by cases d <;> rfl
/-- the slots outside ws are as they were -/
def Sm (ws : List Nat) (a a' : Act) : Prop := ∀ t, memN t ws = false → a'.tmps.getD t undef = a.tmps.getD t undef
theorem Sm.refl (ws : List Nat) (a : Act) : Sm ws a a := fun _ _ => rfl
theorem Sm.put {ws : List Nat} {a a' : Act} (h : Sm ws a a') {d : Option Nat} (hd : ∀ t, d = some t → memN t ws = true) (v : Value) : Sm ws a (a'.put d v) := by
  cases d with
  | none => exact h
  | some d =>
    intro t ht
    have hne : d ≠ t := by intro e; subst e; rw [hd d rfl] at ht; cases ht
    rw [← h t ht]
    show (a'.tmps.setIfInBounds d v).getD t undef = a'.tmps.getD t undef
    rw [Array.getD_eq_getD_getElem?, Array.getD_eq_getD_getElem?, Array.getElem?_setIfInBounds_ne hne]
section
variable {P : Program} {ops : Array Oper} {Q Q' : Exit → Act → World → Prop} {r : Option Nat} {n : Nat} {ds : List Deferred} {ws : List Nat}
theorem calls_fr {f : FuncId} {args : Array Value} {w : World} {R : Ending → World → Prop} (h : Calls P f args w R) : CallsIn (FrW r) n P f args w R := by
  have := callsIn_wide (n := n).2 h
  exact this
theorem rows_fr {row : String} {args : Array Value} {w : World} {R : Value → World → Prop} (h : Rows P row args w R) : RowsIn (FrW r) n P row args w R := by
  intro c cs _
  obtain ⟨v, w', r1, s⟩ := h c cs
  exact ⟨v, w', r1, stepsIn_wide.2 s⟩
theorem upon_in {o : Oper} {a : Act} {K K' : Act → World → Prop} {res : Result Next} (h : o.upon P a K Q res) (hK : ∀ d v w, K ({ a with defers := d ++ a.defers }.put o.dst v) w → K' (wd ds ({ a with defers := d ++ a.defers }.put o.dst v)) w)
    (hQ : ∀ ch w, Q (.panic ch) a w → Q' (.panic ch) (wd ds a) w) (hlo : LetsOut Q → LetsOut Q') : o.uponIn (FrW r) n P (wd ds a) K' Q' res := by
  have hK0 : ∀ v w, K (a.put o.dst v) w → K' ((wd ds a).put o.dst v) w := fun v w h => by rw [← wd_put]; exact hK [] v w h
  cases res with
  | ok x w' =>
    cases x with
    | value v => exact hK0 _ _ h
    | skip => exact hK0 _ _ h
    | defer d =>
      have := hK [d] undef w' h
      rw [wd_put] at this
      exact this
    | enter f args =>
      refine ⟨fun h => (by cases h), calls_fr (h.mono fun e w' he => ?_)⟩
      cases e with
      | returned v => exact hK0 _ _ he
      | panicked ch => exact hQ _ _ he
      | outgrown => exact hlo he
    | row row args => exact ⟨fun h => (by cases h), rows_fr (h.mono fun v w' he => hK0 _ _ he)⟩
    | _ => exact h.elim
  | halt x w' =>
    cases x <;> first | exact hQ _ _ h | exact h.elim
theorem wp_in {o : Oper} {a : Act} {w : World} {K K' : Act → World → Prop} (hnd : noDef o = true) (h : o.wp P a w K Q) (hK : ∀ d v w, K ({ a with defers := d ++ a.defers }.put o.dst v) w → K' (wd ds ({ a with defers := d ++ a.defers }.put o.dst v)) w)
    (hQ : ∀ ch w, Q (.panic ch) a w → Q' (.panic ch) (wd ds a) w) (hlo : LetsOut Q → LetsOut Q') : o.wpIn (FrW r) n P (wd ds a) w K' Q' := by
  refine ⟨fun _ _ => trivial, ?_⟩
  rw [Oper.semAt_eq _ _ _ (fun c e => by unfold noDef at hnd; rw [e] at hnd; cases hnd), wd_eval]
  exact upon_in h hK hQ hlo
/-- the slots that operations fill -/
def dstsIn (ws : List Nat) : List Oper → Bool
  | [] => true
  | o :: r => (match o.dst with | some d => memN d ws | none => true) && noDef o && dstsIn ws r
theorem dstsIn_get : ∀ {l : List Oper}, dstsIn ws l = true → ∀ o ∈ l, (∀ t, o.dst = some t → memN t ws = true) ∧ noDef o = true
  | [], _, o, h => by cases h
  | x :: r, hd, o, h => by
    simp only [dstsIn, Bool.and_eq_true] at hd
    rcases List.mem_cons.1 h with rfl | h
    · refine ⟨fun t ht => ?_, hd.1.2⟩
      have := hd.1.1
      rw [ht] at this
      exact this
    · exact dstsIn_get hd.2 o h
theorem wpOp_in {i : Nat} {a0 a : Act} {w : World} {K K' : Act → World → Prop} (hd : dstsIn ws ops.toList = true) (hs : Sm ws a0 a) (hlo : ¬ LetsOut Q) (h : wpOp P ops Q i K a w) (hK : ∀ a w, Sm ws a0 a → K a w → K' (wd ds a) w)
    (hQ : ∀ e a w, Sm ws a0 a → Q e a w → Q' e (wd ds a) w) : wpOpIn (FrW r) n P ops Q' i K' (wd ds a) w := by
  unfold wpOp at h
  unfold wpOpIn
  cases ho : ops[i]? with
  | none => rw [ho] at h; exact hK _ _ hs h
  | some o =>
    rw [ho] at h
    simp only at h ⊢
    have hm : o ∈ ops.toList := List.mem_of_getElem? (by rw [Array.getElem?_toList]; exact ho)
    obtain ⟨h1, h2⟩ := dstsIn_get hd o hm
    show if Region.wanted o (yielded ops a.tmps) = true then _ else _
    split
    · rename_i hw
      rw [if_pos hw] at h
      rcases h with h | h
      · exact wp_in h2 h (fun d v w hk => hK _ _ ((show Sm ws a0 { a with defers := d ++ a.defers } from hs).put h1 v) hk) (fun ch w hq => hQ _ _ _ hs hq) (fun hl => absurd hl hlo)
      · exact absurd h.2 hlo
    · rename_i hw
      rw [if_neg hw] at h
      refine ⟨fun _ _ => trivial, ?_⟩
      have := hK _ _ (hs.put h1 undef) h
      rw [wd_put] at this
      exact this
theorem wpOps_in {a0 : Act} (hd : dstsIn ws ops.toList = true) (hlo : ¬ LetsOut Q) (hQ : ∀ e a w, Sm ws a0 a → Q e a w → Q' e (wd ds a) w) : ∀ (l : List Nat) (a : Act) (w : World), Sm ws a0 a → wpOps P ops Q l a w → wpOpsIn (FrW r) n P ops Q' l (wd ds a) w
  | [], a, w, hs, h => hQ _ _ _ hs h
  | i :: l, a, w, hs, h => by
    rw [wpOps_cons] at h
    rw [wpOpsIn_cons]
    exact wpOp_in hd hs hlo h (fun a w hs hk => wpOps_in hd hlo hQ l a w hs hk) hQ
theorem wpAny_in {a0 : Act} {md : Region.Mode} (hd : dstsIn ws ops.toList = true) (hlo : ¬ LetsOut Q) (hQ : ∀ e a w, Sm ws a0 a → Q e a w → Q' e (wd ds a) w) : ∀ (fuel : Nat) (li : Array Bool) (a : Act) (w : World), Sm ws a0 a → wpAny P md ops Q fuel li a w → wpAnyIn (FrW r) n P md ops Q' fuel li (wd ds a) w
  | 0, li, a, w, hs, h => ⟨h.1, hQ _ _ _ hs h.2⟩
  | fuel + 1, li, a, w, hs, h => ⟨fun e => hQ _ _ _ hs (h.1 e), fun i hi => wpOp_in hd hs hlo (h.2 i hi) (fun a w hs hk => wpAny_in hd hlo hQ fuel _ a w hs hk) hQ⟩
end
/-- code of which this can be told -/
def rgOK (gs : List (Nat × List Nat)) (ws : List Nat) : Code → Bool
  | .region id ops dr => dstsIn ws ops.toList && (match dr, posG gs id with | false, _ => true | true, [] => true | true, _ => false)
  | .seq x y => rgOK gs ws x && rgOK gs ws y
  | .cond _ x y => rgOK gs ws x && rgOK gs ws y
  | .block _ b => rgOK gs ws b
  | .loop b => rgOK gs ws b
  | _ => true
section
variable {P : Program} {T : Tab} {E : Env} {N : Nat} {ks wk ps : List Nat} {gs : List (Nat × List Nat)} {r : Option Nat} {m : Nat} {ds : List Deferred} {ws : List Nat}
theorem evReg_soundIn (hT : TabOK P T) (h1 : TabOne T = true) (hN : E.N = N) (hm : P.follows .mixedOrders = true) (hp : ∀ b, memN b ps = false → E.pin b = none) {id : Nat} {l : List Nat} {ops : Array Oper} {dr : Bool} {c : Cfg} {a a0 : Act} {w : World} {Kk : Cfg → Prop} {Q' : Exit → Act → World → Prop} (hd : drawsOK (.region id ops dr) = true)
    (hdd : dstsIn ws ops.toList = true) (hl : dr = true → l = []) (h : evReg P T N ks l ps ops dr c Kk) (hQ : ∀ c a w, Kk c → SR E c a w → Sm ws a0 a → Q' .normal (wd ds a) w) (hs : SR E c a w) (hsm : Sm ws a0 a) : (Code.region id ops dr).wpIn (FrW r) m P Q' (wd ds a) w := by
  have hlo : ¬ LetsOut (fun e a w => e = Exit.normal ∧ ∃ c, Kk c ∧ SR E c a w) := by rintro ⟨a, w, h, _⟩; cases h
  have hq : ∀ e a w, Sm ws a0 a → (e = Exit.normal ∧ ∃ c, Kk c ∧ SR E c a w) → Q' e (wd ds a) w := by
    rintro e a w hsm ⟨rfl, c, hk, hs⟩
    exact hQ c a w hk hs hsm
  cases dr with
  | false =>
    have h' : ∃ dm, evOpsG P T N dm ks ps ops l c Kk := by
      unfold evReg at h
      simp only at h
      split at h
      · exact ⟨[], h⟩
      · exact h
    obtain ⟨dm, h'⟩ := h'
    have := evOpsG_sound (Q := fun e a w => e = Exit.normal ∧ ∃ c, Kk c ∧ SR E c a w) hT h1 hN hp (fun c a w hk hs => ⟨rfl, c, hk, hs⟩) h' hs
    exact wpIn_region (wpOps_in hdd hlo hq _ _ _ hsm this)
  | true =>
    obtain rfl := hl rfl
    have h' : ∃ dm, evOps true P T N dm ops ⟨c, [], []⟩ 0 ops.toList c fun c' => endK ks c' Kk := by
      unfold evReg at h
      simp only at h
      split at h
      · exact ⟨[], h⟩
      · exact h
    obtain ⟨dm, h'⟩ := h'
    have := draw_any (Q := fun e a w => e = Exit.normal ∧ ∃ c, Kk c ∧ SR E c a w) hT h1 hN hd (fun c a w hk hs => ⟨rfl, _, endK_iff.1 hk, hs.endK⟩) h' hs
    exact wpIn_region_any hm (wpAny_in hdd hlo hq _ _ _ _ hsm this)
theorem evG_soundIn (hT : TabOK P T) (h1 : TabOne T = true) (hN : E.N = N) (hm : P.follows .mixedOrders = true) (hp : ∀ b, memN b ps = false → E.pin b = none) {a0 : Act} :
    ∀ (code : Code) (c : Cfg) (Q : Ex → Cfg → Prop) (Q' : Exit → Act → World → Prop) (a : Act) (w : World), drawsOK code = true → rgOK gs ws code = true → evG P T N ks gs wk ps code c Q →
      (∀ e c a w, Q e c → SR E c a w → Sm ws a0 a → Q' e.toExit (wd ds a) w) → SR E c a w → Sm ws a0 a → code.wpIn (FrW r) m P Q' (wd ds a) w
  | .skip, c, Q, Q', a, w, hd, hr, h, hQ, hs, hsm => wpIn_skip (hQ .normal c a w h hs hsm)
  | .region id ops dr, c, Q, Q', a, w, hd, hr, h, hQ, hs, hsm => by
    simp only [rgOK, Bool.and_eq_true] at hr
    have hl : dr = true → posG gs id = [] := by
      rintro rfl
      have := hr.2
      split at this
      · rename_i h; cases h
      · assumption
      · cases this
    simp only [evG] at h
    split at h
    · obtain ⟨c', hw, h⟩ := h
      exact evReg_soundIn hT h1 hN hm hp hd hr.1 hl h (fun c a w hk hs hsm => hQ .normal c a w hk hs hsm) (hw E a w hp hs) hsm
    · exact evReg_soundIn hT h1 hN hm hp hd hr.1 hl h (fun c a w hk hs hsm => hQ .normal c a w hk hs hsm) hs hsm
  | .seq x y, c, Q, Q', a, w, hd, hr, h, hQ, hs, hsm => by
    simp only [drawsOK, Bool.and_eq_true] at hd
    simp only [rgOK, Bool.and_eq_true] at hr
    refine wpIn_seq (evG_soundIn hT h1 hN hm hp x c _ _ a w hd.1 hr.1 h (fun e c a w hq hs hsm => ?_) hs hsm)
    cases e with
    | normal => exact evG_soundIn hT h1 hN hm hp y c Q Q' a w hd.2 hr.2 hq hQ hs hsm
    | exit id => exact hQ _ c a w hq hs hsm
    | ret => exact hQ _ c a w hq hs hsm
  | .cond x t e, c, Q, Q', a, w, hd, hr, h, hQ, hs, hsm => by
    simp only [drawsOK, Bool.and_eq_true] at hd
    simp only [rgOK, Bool.and_eq_true] at hr
    simp only [evG] at h
    split at h
    · rename_i b hb
      exact wpIn_cond_split (a := wd ds a) (by rw [wd_eval]; exact opv_FV hs hb) (fun ht => evG_soundIn hT h1 hN hm hp t c Q Q' a w hd.1 hr.1 (h.1 ht) hQ hs hsm) (fun ht => evG_soundIn hT h1 hN hm hp e c Q Q' a w hd.2 hr.2 (h.2 ht) hQ hs hsm)
    · exact h.elim
  | .block id b, c, Q, Q', a, w, hd, hr, h, hQ, hs, hsm => by
    refine wpIn_block (evG_soundIn hT h1 hN hm hp b c _ _ a w hd hr h (fun e c a w hq hs hsm => ?_) hs hsm)
    cases e with
    | normal => exact hQ _ c a w hq hs hsm
    | exit id' =>
      simp only [Ex.toExit, Exit.inBlock]
      simp only at hq
      split at hq
      · rename_i he
        rw [if_pos (beq_true he)]
        exact hQ .normal c a w hq hs hsm
      · rename_i he
        rw [if_neg (beq_false he)]
        exact hQ (.exit id') c a w hq hs hsm
    | ret => exact hQ _ c a w hq hs hsm
  | .exit id, c, Q, Q', a, w, hd, hr, h, hQ, hs, hsm => wpIn_exit (hQ (.exit id) c a w h hs hsm)
  | .ret, c, Q, Q', a, w, hd, hr, h, hQ, hs, hsm => wpIn_ret (hQ .ret c a w h hs hsm)
  | .loop b, c, Q, Q', a, w, hd, hr, h, hQ, hs, hsm => by
    obtain ⟨I, ⟨n, c', hw, hI⟩, hrd⟩ := h
    refine wpIn_loop_ghost (fun n a' w => ∃ a, a' = wd ds a ∧ Sm ws a0 a ∧ ∃ c, I n c ∧ SR E c a w) n ⟨a, rfl, hsm, c', hI, hw E a w hp hs⟩ ?_
    rintro n a' w ⟨a, rfl, hsm, c, hI, hs⟩
    refine evG_soundIn hT h1 hN hm hp b c _ _ a w hd hr (hrd n c hI) (fun e c a w hq hs hsm => ?_) hs hsm
    cases e with
    | normal =>
      obtain ⟨m, c'', hw, hlt, hI'⟩ := hq
      exact ⟨m, hlt, a, rfl, hsm, c'', hI', hw E a w hp hs⟩
    | exit id => exact hQ _ c a w hq hs hsm
    | ret => exact hQ _ c a w hq hs hsm
  | .rangeFunc _ _ _ _, c, Q, Q', a, w, hd, hr, h, hQ, hs, hsm => h.elim
  | .scope _, c, Q, Q', a, w, hd, hr, h, hQ, hs, hsm => h.elim
  | .label _, c, Q, Q', a, w, hd, hr, h, hQ, hs, hsm => h.elim
  | .goto _, c, Q, Q', a, w, hd, hr, h, hQ, hs, hsm => h.elim
  | .refuse _, c, Q, Q', a, w, hd, hr, h, hQ, hs, hsm => h.elim
end
end Go.Abs
end
section
namespace Go.Abs
open Go.RowKit
set_option linter.unusedVariables false
/-! ### objects that are no data: a loop's record, the block for its deferred calls -/
def noData : Obj → Bool
  | .loop _ => true
  | .deferred _ => true
  | _ => false
structure Oth (B : Nat) (w w' : World) : Prop where
  os : w'.os = w.os
  tape : w'.tape = w.tape
  output : w'.output = w.output
  size : w.heap.size ≤ w'.heap.size
  data : ∀ (g : Nat) o, w.heap[g]? = some o → noData o = false → w'.heap[g]? = some o
  low : ∀ g, g < B → w'.heap[g]? = w.heap[g]?
theorem Oth.refl (B : Nat) (w : World) : Oth B w w := ⟨rfl, rfl, rfl, Nat.le_refl _, fun _ _ h _ => h, fun _ _ => rfl⟩
theorem Oth.trans {B : Nat} {w w' w'' : World} (h : Oth B w w') (k : Oth B w' w'') : Oth B w w'' :=
  ⟨k.os.trans h.os, k.tape.trans h.tape, k.output.trans h.output, Nat.le_trans h.size k.size, fun g o h1 h2 => k.data g o (h.data g o h1 h2) h2, fun g hg => (k.low g hg).trans (h.low g hg)⟩
theorem Oth.putObj {B : Nat} {w : World} {l : Nat} {o : Obj} (o' : Obj) (hl : w.heap[l]? = some o) (ho : noData o = true) (hB : B ≤ l) : Oth B w (w.putObj l o') :=
  ⟨rfl, rfl, rfl, by simp, fun g x h1 h2 => by
    have hne : g ≠ l := by rintro rfl; rw [hl] at h1; cases h1; rw [ho] at h2; cases h2
    exact (World.putObj_heap_other hne).trans h1, fun g hg => World.putObj_heap_other (by omega)⟩
theorem Oth.alloc {B : Nat} (w : World) (o : Obj) (hB : B ≤ w.heap.size) : Oth B w (w.alloc o) :=
  ⟨rfl, rfl, rfl, by simp, fun g x h1 h2 => (Below.heap_alloc w o g (Array.getElem?_eq_some_iff.1 h1).1).trans h1, fun g hg => Below.heap_alloc w o g (by omega)⟩
theorem cell_oth {B : Nat} {w w' : World} (h : Oth B w w') {p : Addr} {v : Value} (hc : w.cell? p = some v) : w'.cell? p = some v := by
  unfold World.cell? at hc ⊢
  split at hc
  · rename_i c e z hh
    rw [h.data _ _ hh rfl]; exact hc
  · cases hc
theorem VR.oth {B : Nat} {w w' : World} {X : Nat → Prop} {K : KM} {u : AV} {v : Value} (hv : VR w X K u v) (h : Oth B w w') : VR w' X K u v := by
  induction hv with
  | top => exact .top
  | bool => exact .bool
  | int => exact .int
  | str => exact .str
  | nilsl => exact .nilsl
  | nilfn => exact .nilfn
  | esl => exact .esl
  | und => exact .und
  | lit => exact .lit
  | agg hl h1 hv ih => exact .agg hl h1 fun j u c hu hc => ih j u c hu hc
  | tup hl hv ih => exact .tup hl fun j u c hu hc => ih j u c hu hc
  | func hl hv ih => exact .func hl fun j u c hu hc => ih j u c hu hc
  | rsl hn hsz hcap hA hcs h1 hcell hv ih =>
    refine .rsl hn hsz hcap hA hcs h1 (fun hne => ?_) (fun j u c hu hc => ih j u c hu hc)
    obtain ⟨g, o, e, hg, hx, hc⟩ := hcell hne
    exact ⟨g, o, e, Nat.lt_of_lt_of_le hg h.size, hx, fun j c hj => cell_oth h (hc j c hj)⟩
  | rptr hcs h1 hg hx hc hv ih => exact .rptr hcs h1 (Nat.lt_of_lt_of_le hg h.size) hx (fun j c hj => cell_oth h (hc j c hj)) (fun j u c hu hc => ih j u c hu hc)
  | osl hKb hnm hc hn hm hcap => exact .osl hKb hnm (h.data _ _ hc rfl) hn hm hcap
  | oslnil hKb => exact .oslnil hKb
  | osuf hn hc => exact .osuf hn (fun h0 => (by
      obtain ⟨h1, h2, g, o, cur, e, h3, h4, h5⟩ := hc h0
      exact ⟨h1, h2, g, o, cur, e, h3, h.data _ _ h4 rfl, h5⟩))
  | ovar hKb => exact .ovar hKb
  | optr hKb => exact .optr hKb
  | omap hKb => exact .omap hKb
  | rmap hm hg hx hsz hl h1 hv ih =>
    obtain ⟨es, m1, m2⟩ := hm
    exact .rmap ⟨es, h.data _ _ m1 rfl, m2⟩ (Nat.lt_of_lt_of_le hg h.size) hx hsz hl h1 (fun j u c hu hc => ih j u c hu hc)
  | itr h1 h2 h3 h4 h5 h6 => exact .itr (h.data _ _ h1 rfl) (h.data _ _ h2 rfl) (Nat.lt_of_lt_of_le h3 h.size) (Nat.lt_of_lt_of_le h4 h.size) h5 h6
theorem FV.oth {B : Nat} {w w' : World} {X : Nat → Prop} {K : KM} {tm : Array Value} {u : AV} {v : Value} (hv : FV w X K tm u v) (h : Oth B w w') : FV w' X K tm u v := by
  cases u with
  | opt d want u' =>
    rcases hv with ⟨h1, h2⟩ | h1
    · exact .inl ⟨h1, h2.oth h⟩
    · exact .inr h1
  | _ => exact VR.oth hv h
theorem MapR.oth {B : Nat} {w w' : World} {X : Nat → Prop} {g sz : Nat} {ag st : Bool} {rows : List (List AV)} {es : Array MapEntry} (hm : MapR w X g ag st sz rows es) (h : Oth B w w') : MapR w' X g ag st sz rows es :=
  ⟨h.data _ _ hm.obj rfl, hm.born, hm.agg, hm.key, hm.size, fun i row e h1 h2 => by
    obtain ⟨a, b, c, d, f⟩ := hm.ent i row e h1 h2
    exact ⟨a, b, c, d, fun j u c hu hc => (f j u c hu hc).oth h⟩⟩
theorem HoldsObj.oth {B : Nat} {w w' : World} {X : Nat → Prop} {g : Nat} {blk : OBlk} {cur : Array Value} (hh : HoldsObj w X g blk cur) (h : Oth B w w') : HoldsObj w' X g blk cur := by
  unfold HoldsObj at hh ⊢
  split at hh
  · obtain ⟨a, b, es, hm⟩ := hh
    exact ⟨a, b, es, hm.oth h⟩
  · exact h.data _ _ hh rfl
theorem BlkR.oth {B : Nat} {w w' : World} {X : Nat → Prop} {K : KM} {g : Nat} {blk : OBlk} (hb : BlkR w X K g blk) (h : Oth B w w') : BlkR w' X K g blk := by
  obtain ⟨cur, h1, h2⟩ := hb
  exact ⟨cur, h1.oth h, fun j u hu => let ⟨c, a, b, d⟩ := h2 j u hu; ⟨c, a, b, d.oth h⟩⟩
section
variable {E : Env} {K : KM} {c : Cfg} {a : Act} {w : World}
theorem Ext.oth {X0 : Nat → Prop} {w0 w w' : World} (hx : Ext X0 w0 w) (h : Oth w0.heap.size w w') : Ext X0 w0 w' :=
  ⟨h.os.trans hx.os, h.tape.trans hx.tape, h.output.trans hx.output, Nat.le_trans hx.size h.size, fun g hg hX => (h.low g hg).trans (hx.block g hg hX), fun g cur e hc => by
    obtain ⟨cur', h1, h2⟩ := hx.shape g cur e hc
    exact ⟨cur', h.data _ _ h1 rfl, h2⟩⟩
theorem SRK.oth {w' : World} (hs : SRK E K c a w) (h : Oth E.w0.heap.size w w') : SRK E K c a w' :=
  ⟨hs.size, hs.defers, hs.ext.oth h, fun t => (hs.fr t).oth h, hs.rows, fun b blk hb => by
    rcases hs.own b blk hb with h1 | ⟨g, h1, h2⟩
    · exact .inl h1
    · exact .inr ⟨g, h1, h2.oth h⟩, hs.inj, hs.mine, hs.pin⟩
/-! ### a later start -/
theorem Ext.comp {X0 : Nat → Prop} {w0 w w' : World} {O : List (Nat × OBlk)} (hx : Ext X0 w0 w) (hm : ∀ b g, (olk O b).isSome = true → blkOf K b = some g → X0 g ∨ w0.heap.size ≤ g) (h : Ext (Live K O) w w') : Ext X0 w0 w' :=
  ⟨h.os.trans hx.os, h.tape.trans hx.tape, h.output.trans hx.output, Nat.le_trans hx.size h.size, fun g hg hX => by
    rw [h.block g (Nat.lt_of_lt_of_le hg hx.size) fun ⟨b, hb, hk⟩ => ?_]
    · exact hx.block g hg hX
    · rcases hm b g hb hk with h | h
      · exact hX h
      · omega, fun g cur e hc => by
    obtain ⟨c1, h1, s1⟩ := hx.shape g cur e hc
    obtain ⟨c2, h2, s2⟩ := h.shape g c1 e h1
    exact ⟨c2, h2, s2.trans s1⟩⟩
def Env.at (E : Env) (K : KM) (O : List (Nat × OBlk)) (w : World) (hx : Ext E.X0 E.w0 w) (hm : ∀ b g, (olk O b).isSome = true → blkOf K b = some g → E.X0 g ∨ E.w0.heap.size ≤ g) : Env where
  X0 := Live K O
  XF := fun g => E.XF g ∧ g < E.w0.heap.size
  w0 := w
  N := E.N
  hwi := fun w' h => E.hwi w' (hx.comp hm h)
  pin := E.pin
  hpin := E.hpin
  hxf := fun g hg ⟨b, hb, hk⟩ => by
    rcases hm b g hb hk with h | h
    · exact E.hxf g hg.1 h
    · have := hg.2; omega
theorem XX_at {O : List (Nat × OBlk)} {hx : Ext E.X0 E.w0 w} {hm} {K' : KM} {O' : List (Nat × OBlk)} : ∀ g, XX (E.at K O w hx hm) K' O' g ↔ XX E K' O' g := fun g =>
  ⟨fun h => by
    rcases h with h | h
    · exact .inl h
    · exact .inr h.1, fun h => by
    rcases h with h | h
    · exact .inl h
    · exact .inr ⟨h, Nat.lt_of_lt_of_le h.2 hx.size⟩⟩
theorem SRK.at_of {O : List (Nat × OBlk)} {hx : Ext E.X0 E.w0 w} {hm} {K' : KM} {c' : Cfg} {a' : Act} {w' : World} (h : SRK (E.at K O w hx hm) K' c' a' w') : SRK E K' c' a' w' :=
  ⟨h.size, h.defers, hx.comp hm h.ext, fun t => (h.fr t).sub fun g _ hg => (XX_at g).2 hg, h.rows, fun b blk hb => by
    rcases h.own b blk hb with h1 | ⟨g, h1, h2⟩
    · exact .inl h1
    · exact .inr ⟨g, h1, h2.keep rfl (Keep.refl _ _) (fun g _ hg => (XX_at g).2 hg) (fun _ _ _ _ _ _ => rfl)⟩, h.inj, fun b g hb hk => by
    rcases h.mine b g hb hk with ⟨b', hb', hk'⟩ | h'
    · exact hm b' g hb' hk'
    · exact .inr (Nat.le_trans hx.size h'), h.pin⟩
theorem SRK.to_at {O : List (Nat × OBlk)} {hx : Ext E.X0 E.w0 w} {hm} {K' : KM} {c' : Cfg} {a' : Act} {w' : World} (h : SRK E K' c' a' w') (hx' : Ext (Live K O) w w') (hm' : ∀ b g, (olk c'.O b).isSome = true → blkOf K' b = some g → Live K O g ∨ w.heap.size ≤ g) : SRK (E.at K O w hx hm) K' c' a' w' :=
  ⟨h.size, h.defers, hx', fun t => (h.fr t).sub fun g _ hg => (XX_at g).1 hg, h.rows, fun b blk hb => by
    rcases h.own b blk hb with h1 | ⟨g, h1, h2⟩
    · exact .inl h1
    · exact .inr ⟨g, h1, h2.keep rfl (Keep.refl _ _) (fun g _ hg => (XX_at g).1 hg) (fun _ _ _ _ _ _ => rfl)⟩, h.inj, hm', h.pin⟩
theorem Ext.refl (X : Nat → Prop) (w : World) : Ext X w w := ⟨rfl, rfl, rfl, Nat.le_refl _, fun _ _ _ => rfl, fun _ cur _ h => ⟨cur, h, rfl⟩⟩
theorem SRK.start (h : SRK E K c a w) : SRK (E.at K c.O w h.ext h.mine) K c a w :=
  h.to_at (Ext.refl _ _) fun b g hb hk => .inl ⟨b, hb, hk⟩
theorem HoldsObj.data {X : Nat → Prop} {g : Nat} {blk : OBlk} {cur : Array Value} (h : HoldsObj w X g blk cur) : ∃ o, w.heap[g]? = some o ∧ noData o = false := by
  unfold HoldsObj at h
  split at h
  · obtain ⟨_, _, es, hm⟩ := h; exact ⟨_, hm.obj, rfl⟩
  · exact ⟨_, h, rfl⟩
theorem SRK.not_live (h : SRK E K c a w) {g : Nat} {o : Obj} (hg : w.heap[g]? = some o) (ho : noData o = true) : ¬ Live K c.O g := by
  rintro ⟨b, hb, hk⟩
  obtain ⟨x, hx⟩ := Option.isSome_iff_exists.1 hb
  rcases h.own b x hx with ⟨h1, _⟩ | ⟨g', h1, cur, hc, _⟩
  · rw [show blkOf K b = none from by simp [blkOf, h1]] at hk; cases hk
  · rw [blkOf_of h1] at hk; injection hk with hk; subst hk
    obtain ⟨o', h2, h3⟩ := hc.data
    rw [hg] at h2; cases h2; rw [ho] at h3; cases h3
/-! ### marks -/
/-- marks of loops that are over -/
structure Marks (B : Nat) (ds : List Deferred) (w : World) : Prop where
  all : ∀ d ∈ ds, ∃ D, d = { target := .collected D, args := #[] } ∧ B ≤ D ∧ w.heap[D]? = some (.deferred (some []))
  nd : ds.Pairwise fun d d' => ∀ D D', d.target = .collected D → d'.target = .collected D' → D ≠ D'
theorem Marks.nil (B : Nat) (w : World) : Marks B [] w := ⟨fun d h => (by cases h), .nil⟩
theorem Marks.ext {B : Nat} {ds : List Deferred} {w' : World} {c : Cfg} (h : Marks B ds w) (hs : SRK E K c a w) (hx : Ext (Live K c.O) w w') : Marks B ds w' :=
  ⟨fun d hd => by
    obtain ⟨D, h1, h2, h3⟩ := h.all d hd
    exact ⟨D, h1, h2, (hx.block D (Array.getElem?_eq_some_iff.1 h3).1 (hs.not_live h3 rfl)).trans h3⟩, h.nd⟩
end
section
variable {P : Program} {T : Tab} {E : Env} {N : Nat} {ks wk ps : List Nat} {gs : List (Nat × List Nat)} {m : Nat} {ds : List Deferred} {ws : List Nat}
/-- code between loops over functions -/
theorem seg_sound (hT : TabOK P T) (h1 : TabOne T = true) (hN : E.N = N) (hm : P.follows .mixedOrders = true) (hp : ∀ b, memN b ps = false → E.pin b = none) {B : Nat} {code : Code} {K : KM} {c : Cfg} {Q : Ex → Cfg → Prop} {Q' : Exit → Act → World → Prop} {a : Act} {w : World}
    (hd : drawsOK code = true) (hr : rgOK gs ws code = true) (h : evG P T N ks gs wk ps code c Q) (hs : SRK E K c a w) (hM : Marks B ds w)
    (hQ : ∀ e c a' w', Q e c → SR E c a' w' → Marks B ds w' → Sm ws a a' → Q' e.toExit (wd ds a') w') : code.wpIn (FrW none) m P Q' (wd ds a) w := by
  refine evG_soundIn (E := E.at K c.O w hs.ext hs.mine) (a0 := a) hT h1 hN hm hp code c Q Q' a w hd hr h (fun e c' a' w' hq ⟨K', hs'⟩ hsm => ?_) ⟨K, hs.start⟩ (Sm.refl _ _)
  exact hQ e c' a' w' hq ⟨K', hs'.at_of⟩ (hM.ext hs hs'.ext) hsm
end
end Go.Abs
end
section
namespace Go.Abs
open Go.RowKit
set_option linter.unusedVariables false
section
variable {P : Program} {N : Nat}
theorem leaves_marks {fn : Func} {tmps : Array Value} {R : Ending → World → Prop} {B n : Nat} : ∀ (ds : List Deferred) (w : World), Marks B ds w → (∀ w', Oth B w w' → LeavesIn Fence.wide n P fn tmps R [] .returning w') → LeavesInM Fence.wide n P fn tmps R ds .returning w
  | [], w, _, h => h w (Oth.refl _ _)
  | d :: ds, w, hM, h => by
    obtain ⟨D, rfl, hB, hD⟩ := hM.all d (by simp)
    have ho : Oth B w (w.putObj D (.deferred none)) := Oth.putObj _ hD rfl hB
    refine ⟨fun e => (by cases e), .inl ⟨D, _, rfl, run_takeDeferred hD, leaves_marks ds _ ⟨fun d hd => ?_, (List.pairwise_cons.1 hM.nd).2⟩ fun w' hw => h w' (ho.trans hw)⟩⟩
    obtain ⟨D', rfl, hB', hD'⟩ := hM.all d (by simp [hd])
    have hne : D ≠ D' := (List.pairwise_cons.1 hM.nd).1 _ hd D D' rfl rfl
    exact ⟨D', rfl, hB', (World.putObj_heap_other (Ne.symm hne)).trans hD'⟩
/-- how a body ends that holds loops over functions -/
def EndM (T : Tab) (rv : List ResultVar) (r : AV) (E : Env) : Exit → Act → World → Prop := fun e a w => (e = .normal ∨ e = .ret) ∧ ∃ ds a0, a = wd ds a0 ∧ Marks E.w0.heap.size ds w ∧ ∃ K c, SRK E K c a0 w ∧ retR T c rv r
theorem fn_ofM {T : Tab} {f : FuncId} {fn : Func} {code : Code} {args : List AV} {r : AV} (rv : List ResultVar) (hT : TabOK P T)
    (hf : P.funcs[f]? = some fn) (hb : fn.body = some code) (hname : (fn.name == "runtime.NumGoroutine") = false) (hn : Nat.ble args.length fn.ntmps = true) (hN : fn.ntmps = N)
    (hr : fn.results.toList = rv) (h : ∀ (E : Env) (K : KM) (a : Act) (w : World), E.N = N → (∀ b, E.pin b = none) → SRK E K ⟨idx 0 args, []⟩ a w → code.wpIn (FrW none) 0 P (EndM T rv r E) a w) : Fn P f args r := by
  refine ⟨⟨fn, hf, hname, by rw [hb]; rfl⟩, fun X w vs hwi hlen hargs => ?_⟩
  refine (callsIn_wide (n := 0)).1 (callsIn_of_wp_marks hf hb trivial ?_ rfl)
  have hn' := Nat.le_of_ble_eq_true hn
  subst hN
  refine wpIn_mono (h (Env0 (fun _ => False) X w fn.ntmps (fun w' hx => hwi.mono hx.size fun g hg => hx.block g hg id)) K0 _ _ rfl (fun _ => rfl) ?_) ?_
  · refine ⟨by simp; omega, rfl, ⟨rfl, rfl, rfl, Nat.le_refl _, fun _ _ _ => rfl, fun _ cur _ h => ⟨cur, h, rfl⟩⟩, fun t => ?_, fun b blk hb => by simp [olk] at hb, fun b blk hb => by simp [olk] at hb, fun b b' g hb => by simp [olk] at hb, fun b g hb => by simp [olk] at hb, fun b x hx => by cases hx⟩
    simp only [lk_idx, Nat.zero_le, if_true, Nat.sub_zero]
    cases hu : args[t]? with
    | none => rw [List.getD_eq_getElem?_getD, hu]; exact FV.top
    | some u =>
      rw [List.getD_eq_getElem?_getD, hu]
      have ht : t < vs.size := by rw [← hlen]; exact (List.getElem?_eq_some_iff.1 hu).1
      have hv : vs[t]? = some vs[t] := by simp [ht]
      have := hargs t u _ hu hv
      rw [show (vs ++ Array.replicate (fn.ntmps - vs.size) undef).getD t undef = vs[t] by
        rw [Array.getD_eq_getD_getElem?, Array.getElem?_append_left ht, hv]; rfl]
      refine FV.of (this.sub fun g hg hX => ?_)
      rcases hX with ⟨b, hb, _⟩ | hX
      · simp [olk] at hb
      · exact hX.1.1
  · rintro e a w' ⟨he, ds, a0, rfl, hM, K, c, hs, hq⟩
    have key : LeavesInM Fence.wide 0 P fn (wd ds a0).tmps (fun e w' => ∃ v, e = .returned v ∧ RR w' w.heap.size (fun g => X g ∧ g < w.heap.size) r v ∧ Below w.heap.size w w') (wd ds a0).defers .returning w' := by
      have hdf : (wd ds a0).defers = ds := by show a0.defers ++ ds = ds; rw [hs.defers]; rfl
      rw [hdf]
      refine leaves_marks ds w' hM fun w2 ho => ?_
      have hs2 : SRK _ K c a0 w2 := hs.oth ho
      obtain ⟨vs, hl, ht, hR⟩ := retR_sound hT hs2 hq
      exact ⟨_, results_run hr _ _ hl ht, _, rfl, hR, hs2.ext.os, hs2.ext.tape, hs2.ext.output, hs2.ext.size, fun k hk => hs2.ext.block k hk (fun h => h)⟩
    rcases he with rfl | rfl
    · exact key
    · exact key
end
/-! ### the contract of an iterator -/
/-- plain values, or structs of them -/
def plainA : AV → Bool
  | .agg xs => AV.xfreeL xs
  | u => u.scalar
theorem scalar_any {w w' : World} {X X' : Nat → Prop} {K K' : KM} {u : AV} {v : Value} (hu : u.scalar = true) (h : VR w X K u v) : VR w' X' K' u v := by
  cases h <;> first | (cases hu; done) | exact .bool | exact .int | exact .str | exact .nilsl | exact .nilfn
theorem xfreeL_at : ∀ {xs : List AV}, AV.xfreeL xs = true → ∀ (j : Nat) u, xs[j]? = some u → u.scalar = true
  | [], _, j, u, h => by simp at h
  | x :: xs, hx, 0, u, h => by
    simp only [AV.xfreeL, Bool.and_eq_true] at hx
    simp at h; subst h; exact hx.1
  | x :: xs, hx, j + 1, u, h => by
    simp only [AV.xfreeL, Bool.and_eq_true] at hx
    exact xfreeL_at hx.2 j u (by simpa using h)
theorem plainA_any {w w' : World} {X X' : Nat → Prop} {K K' : KM} {u : AV} {v : Value} (hu : plainA u = true) (h : VR w X K u v) : VR w' X' K' u v := by
  cases u with
  | agg xs =>
    cases h with
    | agg hl h1 hv => exact .agg hl h1 fun j u c hu' hc => scalar_any (xfreeL_at hu j u hu') (hv j u c hu' hc)
  | _ => exact scalar_any hu h
/-- called with a loop's yield, the function (with these captured values) hands it these values, one after the other, as long as it says true; the loop's own bound sees to it that there is an end -/
def SeqA (P : Program) (f : FuncId) (us : List AV) (xs : Nat → Option AV) : Prop :=
  Head P f ∧ ∀ (X : Nat → Prop) (w : World) (vs : Array Value), WI w → us.length = vs.size → (∀ (j : Nat) u c, us[j]? = some u → vs[j]? = some c → VR w X K0 u c) →
    ∀ (l m N : Nat) (J : Nat → World → Prop) (Jx : World → Prop), (∀ i W, J i W → i < N) →
      (∀ i W W', J i W → Below W.heap.size W W' → J i W') → (∀ W W', Jx W → Below W.heap.size W W' → Jx W') → (∀ i W, J i W → Keep X w W ∧ WI W) →
      (∀ i x W v, J i W → xs i = some x → VR W X K0 x v → YieldAt Fence.wide m P l #[v] W fun e W' => (e = .returned (.bool true) ∧ J (i + 1) W') ∨ (e = .returned (.bool false) ∧ Jx W')) →
      J 0 w → CallsIn Fence.wide (m + 1) P f (#[.func (.yield l) #[] #[]] ++ vs) w fun e W' => (∃ v, e = .returned v) ∧ ((∃ i, xs i = none ∧ J i W') ∨ Jx W')
/-- slots outside ws alone, no guarded ones -/
def frOut (ws : List Nat) : List (Nat × AV) → Bool
  | [] => true
  | (t, v) :: r => !memN t ws && notOpt v && frOut ws r
theorem frOut_get {ws : List Nat} : ∀ {fr : List (Nat × AV)}, frOut ws fr = true → ∀ t, lk fr t = .top ∨ (memN t ws = false ∧ notOpt (lk fr t) = true)
  | [], _, t => .inl rfl
  | (s, v) :: r, h, t => by
    simp only [frOut, Bool.and_eq_true, Bool.not_eq_true'] at h
    rw [lk_cons]
    by_cases e : s = t
    · subst e; rw [if_pos rfl]; exact .inr h.1
    · rw [if_neg e]; exact frOut_get h.2 t
section
variable {E : Env} {K : KM} {a a' : Act} {w : World} {fr : List (Nat × AV)} {O : List (Nat × OBlk)} {ws : List Nat}
theorem SRK.back (h : SRK E K ⟨fr, O⟩ a' w) (hf : frOut ws fr = true) (hsm : Sm ws a a') (hsz : a.tmps.size = a'.tmps.size) (hd : a.defers = []) : SRK E K ⟨fr, O⟩ a w :=
  ⟨hsz.trans h.size, hd, h.ext, fun t => by
    have := h.fr t
    rcases frOut_get hf t with e | ⟨e1, e2⟩
    · rw [show lk (Cfg.mk fr O).fr t = .top from e]; exact FV.top
    · rw [hsm t e1] at this
      show FV w _ K a.tmps (lk fr t) _
      replace this : FV w (XX E K O) K a'.tmps (lk fr t) (a.tmps.getD t undef) := this
      cases hl : lk fr t with
      | opt => rw [hl] at e2; cases e2
      | _ => rw [hl] at this; exact this, h.rows, h.own, h.inj, h.mine, h.pin⟩
end
/-- what a loop's jump is -/
def jumpC : Ex → Code
  | .normal => .skip
  | .exit id => .exit id
  | .ret => .ret
end Go.Abs
end
section
namespace Go.Abs
open Go.RowKit
set_option linter.unusedVariables false
section
variable {P : Program} {T : Tab} {E : Env} {N : Nat} {ks wk ps : List Nat} {gs : List (Nat × List Nat)} {m : Nat} {ds : List Deferred} {ws : List Nat}
theorem marks_mono {B : Nat} {ds : List Deferred} {w w' : World} (h : Marks B ds w) (hw : ∀ (D : Nat), w.heap[D]? = some (.deferred (some [])) → w'.heap[D]? = some (.deferred (some []))) : Marks B ds w' :=
  ⟨fun d hd => let ⟨D, h1, h2, h3⟩ := h.all d hd; ⟨D, h1, h2, hw D h3⟩, h.nd⟩
theorem step_below {w w' : World} (h : Below w.heap.size w w') : Step (fun _ => False) w w' :=
  ⟨⟨h.size, fun g hg _ => h.block g hg, fun g cur e hc => ⟨cur, (h.block g (Array.getElem?_eq_some_iff.1 hc).1).trans hc, rfl⟩⟩, h.os, h.tape, h.output⟩
/-- a loop over a function, outside of such loops -/
theorem wpIn_rangeA (hT : TabOK P T) (h1 : TabOne T = true) (hN : E.N = N) (hmx : P.follows .mixedOrders = true) (hp : ∀ b, memN b ps = false → E.pin b = none) {K : KM} {c : Cfg} {a : Act} {w : World} {g : Operand} {p : Nat} {assign body : Code} {Q : Exit → Act → World → Prop}
    (hs : SRK E K c a w) (hM : Marks E.w0.heap.size ds w) {f : FuncId} {us : List AV} (hg : opv c g = .func f us) (hid : AV.idlessL us = true) {xs : Nat → Option AV} (hseq : SeqA P f us xs) (hpl : ∀ i x, xs i = some x → plainA x = true)
    (hpw : memN p ws = true) (hpN : p < E.N) (hda : drawsOK assign = true) (hdb : drawsOK body = true) (hra : rgOK gs ws assign = true) (hrb : rgOK gs ws body = true)
    (fr0 : List (Nat × AV)) (hf0 : frOut ws fr0 = true) (hfr : ∀ t, lk fr0 t = lk c.fr t ∨ lk fr0 t = .top)
    (I : Nat → List (Nat × OBlk) → Prop) (Jx : Ex → List (Nat × OBlk) → Prop) (h0 : I 0 c.O) (Nb : Nat) (hI : ∀ i O, I i O → i < Nb)
    (hrd : ∀ i x O, xs i = some x → I i O → evG P T N ks gs wk ps assign ⟨(p, x) :: fr0, O⟩ fun e c1 => e = .normal ∧ evG P T N ks gs wk ps body c1 fun e c2 => ∃ O2, WkP ps c2 ⟨fr0, O2⟩ ∧ match e with | .normal => I (i + 1) O2 | e => Jx e O2)
    (hQ : ∀ (e : Ex) O' K' w' D, (match e with | .normal => ∃ i, xs i = none ∧ I i O' | e => Jx e O') → SRK E K' ⟨fr0, O'⟩ a w' → Marks E.w0.heap.size ({ target := .collected D, args := #[] } :: ds) w' → Q e.toExit (wd ({ target := .collected D, args := #[] } :: ds) a) w') :
    (Code.rangeFunc g #[p] assign body).wpIn (FrW none) m P Q (wd ds a) w := by
  refine wpIn_rangeFunc ?_
  intro fn hfn
  obtain ⟨rec, hrec⟩ : ∃ rec : LoopState → Option Code → Loop, rec = fun st pe => { state := st, pending := pe, fn, tmps := a.tmps, params := #[p], assign, body, defers := w.heap.size } := ⟨_, rfl⟩
  obtain ⟨W1, hW1⟩ : ∃ W1, (w.alloc (.deferred (some []))).alloc (.loop (rec .ready none)) = W1 := ⟨_, rfl⟩
  have hL1 : W1.heap[w.heap.size + 1]? = some (.loop (rec .ready none)) := by
    rw [← hW1]; have := World.alloc_heap_new (w.alloc (.deferred (some []))) (.loop (rec .ready none)); rwa [World.size_alloc] at this
  have hK1 : W1.heap[w.heap.size]? = some (.deferred (some [])) := by
    rw [← hW1]; exact (Below.heap_alloc _ _ _ (by simp)).trans (World.alloc_heap_new w _)
  have hsz1 : W1.heap.size = w.heap.size + 2 := by rw [← hW1]; simp
  have hB : E.w0.heap.size ≤ w.heap.size := hs.ext.size
  have ho1 : Oth E.w0.heap.size w W1 := by
    rw [← hW1]; exact (Oth.alloc w _ hB).trans (Oth.alloc _ _ (by simp; omega))
  have hk1 : Keep (fun _ => False) w W1 := by
    refine ⟨ho1.size, fun g hg _ => ?_, fun g cur e hc => ⟨cur, ho1.data _ _ hc rfl, rfl⟩⟩
    rw [← hW1]
    exact (Below.heap_alloc _ _ g (by simp; omega)).trans (Below.heap_alloc w _ g hg)
  have hM1 : Marks E.w0.heap.size ds W1 := marks_mono hM fun D hD => (hk1.block D (Array.getElem?_eq_some_iff.1 hD).1 id).trans hD
  have hs1 : SRK E K c a W1 := hs.oth ho1
  have hs1' : SRK E K ⟨fr0, c.O⟩ a W1 := hs1.weak hfr fun _ _ h => h
  obtain ⟨vs, ev, vl, vv⟩ := VR.func_inv ((opv_vals hs1).at hg)
  have hev : (wd ds a).eval g = .func (.func f) #[] vs := ev
  obtain ⟨⟨fn0, hfn0, hname, hbody⟩, hsq⟩ := hseq
  have hdf : a.defers = [] := hs.defers
  refine ⟨w.heap.size + 1, [{ target := .collected w.heap.size, args := #[] }], W1, { target := .fn (.func f) vs, args := #[.func (.yield (w.heap.size + 1)) #[] #[]] }, W1, f,
    #[.func (.yield (w.heap.size + 1)) #[] #[]] ++ vs, W1, ?_, ?_, fun _ _ => trivial, ?_, fun h => (by cases h), ?_⟩
  · rw [← hW1, hrec]; exact run_enterLoop_outer _ _ _ _ _
  · simp only [resolve, hev]
    simp [go_sem]
  · simp only [invoke, callFunc, Sem.run_bind, run_program, Result.andThen_ok]
    simp [hfn0, hname, hbody]
  -- the places of the record and of the block for deferred calls
  generalize hl : w.heap.size + 1 = l at *
  have hnl : ¬ Live K c.O l := hs1.not_live hL1 rfl
  have hnD : ¬ Live K c.O w.heap.size := hs1.not_live hK1 rfl
  have hls : l < W1.heap.size := by omega
  let E1 := E.at K c.O W1 hs1.ext hs1.mine
  have hs11 : SRK E1 K ⟨fr0, c.O⟩ a W1 := hs1'.start
  have key : CallsIn Fence.wide 1 P f (#[.func (.yield l) #[] #[]] ++ vs) W1 fun e W' => (∃ v, e = .returned v) ∧ ((∃ i, xs i = none ∧ ∃ K' O', I i O' ∧ SRK E1 K' ⟨fr0, O'⟩ a W') ∨
      ∃ e K' O', e ≠ Ex.normal ∧ Jx e O' ∧ SRK E K' ⟨fr0, O'⟩ a W' ∧ W'.heap[l]? = some (.loop (rec .done (some (jumpC e)))) ∧ ∀ (D : Nat), W1.heap[D]? = some (.deferred (some [])) → W'.heap[D]? = some (.deferred (some []))) := by
    refine hsq (XX E K c.O) W1 vs (E.hwi W1 hs1.ext) vl (fun j u c hu hc => idless_K (idlessL_get hid hu) (vv j u c hu hc)) l 0 Nb (fun i W => ∃ K' O', I i O' ∧ SRK E1 K' ⟨fr0, O'⟩ a W) _ (fun i W ⟨K', O', h, _⟩ => hI i O' h) ?_ ?_ ?_ ?_ ⟨K, c.O, h0, hs11⟩
    · rintro i W W' ⟨K', O', hi, hs'⟩ hb
      exact ⟨K', O', hi, hs'.move (step_below hb)⟩
    · rintro W W' ⟨e, K', O', hne, hj, hs', hl', hD'⟩ hb
      exact ⟨e, K', O', hne, hj, hs'.move (step_below hb), (hb.block l (Array.getElem?_eq_some_iff.1 hl').1).trans hl', fun D hD => (hb.block D (Array.getElem?_eq_some_iff.1 (hD' D hD)).1).trans (hD' D hD)⟩
    · rintro i W ⟨K', O', hi, hs'⟩
      exact ⟨⟨hs'.ext.size, fun g hg hx => hs'.ext.block g hg fun h => hx (.inl h), hs'.ext.shape⟩, E1.hwi W hs'.ext⟩
    · -- a round
      rintro i x W v ⟨K', O', hi, hs'⟩ hx hxv
      have hlW : W.heap[l]? = some (.loop (rec .ready none)) := (hs'.ext.block l hls hnl).trans hL1
      have hy := run_yield (P := P) (args := #[v]) hlW (by rw [hrec]; rfl)
      rw [hrec] at hy
      refine ⟨fn, _, assign, body, hy, roundIn_of_wpIn (F := Fence.wide) trivial ?_⟩
      have hpx := hpl i x hx
      let ar : Act := { tmps := a.tmps.setIfInBounds p v, defers := [] }
      have hsr : SRK E1 K' ⟨(p, x) :: fr0, O'⟩ ar W := by
        have hno : noOpt p fr0 = true := by
          clear hrd hQ hsq hs1' hs11 hs' hfr
          induction fr0 with
          | nil => rfl
          | cons y r ih =>
            obtain ⟨t, u⟩ := y
            simp only [frOut, Bool.and_eq_true, Bool.not_eq_true'] at hf0
            have h2 := ih hf0.2
            cases u <;> first | exact h2 | (exact absurd hf0.1.2 (by simp [notOpt]))
        have := SRK.put (c := ⟨fr0, O'⟩) (dst := some p) (u := x) (v := v) hs' (by simp only [dstOK, Bool.and_eq_true]; exact ⟨by rw [show E1.N = E.N from rfl]; simpa [Nat.blt_eq] using hpN, hno⟩) fun d _ => FV.of (plainA_any hpx hxv)
        have he : a.put (some p) v = ar := by show ({ a with tmps := _ } : Act) = _; rw [hdf]
        rw [he] at this
        exact this
      have hsmr : Sm ws a ar := (Sm.refl ws a).put (d := some p) (fun t e => by cases e; exact hpw) v
      have hfold : (#[p].zip #[v]).foldl (fun t (p, v) => t.setIfInBounds p v) a.tmps = a.tmps.setIfInBounds p v := by simp
      have har : ({ tmps := (#[p].zip #[v]).foldl (fun t (p, v) => t.setIfInBounds p v) a.tmps, defers := [] } : Act) = wd [] ar := by rw [hfold]; rfl
      rw [har]
      refine evG_soundIn (E := E1) (ds := []) (a0 := a) (r := some l) (m := 0) hT h1 hN hmx hp assign _ _ _ ar W hda hra (hrd i x O' hx hi) (fun e c1 a1 W1a hq hs1a hsm1 => ?_) ⟨K', hsr⟩ hsmr
      obtain ⟨rfl, hbd⟩ := hq
      obtain ⟨K1, hs1a⟩ := hs1a
      have hlA : W1a.heap[l]? = some (.loop (rec .ready none)) := (hs1a.ext.block l hls hnl).trans hL1
      refine ⟨_, run_beginRound hlA (by rw [hrec]), ?_⟩
      generalize hbz : ({ rec .ready none with state := .busy } : Loop) = bz
      have ho2 : Oth E.w0.heap.size W1a (W1a.putObj l (.loop bz)) := Oth.putObj _ hlA rfl (by omega)
      have hlt : l < W1a.heap.size := (Array.getElem?_eq_some_iff.1 hlA).1
      have hl2 : (W1a.putObj l (.loop bz)).heap[l]? = some (.loop bz) := World.putObj_heap_same hlt
      have hoth2 : ∀ g, g ≠ l → (W1a.putObj l (.loop bz)).heap[g]? = W1a.heap[g]? := fun g hg => World.putObj_heap_other hg
      have hsz2 : (W1a.putObj l (.loop bz)).heap.size = W1a.heap.size := by simp
      generalize hW2 : W1a.putObj l (.loop bz) = W2 at *
      have hsE : SRK E K1 c1 a1 W2 := hs1a.at_of.oth ho2
      refine evG_soundIn (E := E.at K1 c1.O W2 hsE.ext hsE.mine) (ds := []) (a0 := a) (r := some l) (m := 0) hT h1 hN hmx hp body c1 _ _ a1 W2 hdb hrb hbd (fun e c2 a2 W3 hq hs3 hsm2 => ?_) ⟨K1, hsE.start⟩ hsm1
      obtain ⟨O2, hwk, hq⟩ := hq
      obtain ⟨K3, hs3⟩ := hwk (E.at K1 c1.O W2 hsE.ext hsE.mine) _ _ hp hs3
      have hl3 : W3.heap[l]? = some (.loop bz) := (hs3.ext.block l (Array.getElem?_eq_some_iff.1 hl2).1 (hsE.not_live hl2 rfl)).trans hl2
      have hs3' : SRK E K3 ⟨fr0, O2⟩ a W3 := hs3.at_of.back hf0 hsm2 (by rw [hs.size, hs3.size]; rfl) hdf
      have hmine1 : ∀ g, Live K1 c1.O g → Live K c.O g ∨ W1.heap.size ≤ g := fun g ⟨b, hb, hk⟩ => hs1a.mine b g hb hk
      have hblk : ∀ g, g < W1.heap.size → ¬ Live K c.O g → g ≠ l → W3.heap[g]? = W1.heap[g]? := fun g hg hx hne => by
        have e1 := hs1a.ext.block g hg hx
        have e2 := hoth2 g hne
        have e3 := hs3.ext.block g (by show g < W2.heap.size; rw [hsz2]; exact Nat.lt_of_lt_of_le hg hs1a.ext.size) (fun h => (hmine1 g h).elim hx (fun h => by omega))
        exact e3.trans (e2.trans e1)
      have hdd : ∀ (D : Nat), W1.heap[D]? = some (.deferred (some [])) → W3.heap[D]? = some (.deferred (some [])) := fun D hD =>
        (hblk D (Array.getElem?_eq_some_iff.1 hD).1 (hs1.not_live hD rfl) (by rintro rfl; rw [hL1] at hD; cases hD)).trans hD
      have fin : ∀ (jump : Option Code), (Instr.endRound l jump).run P W3 = .ok (.bool jump.isNone) (W3.putObj l (.loop (rec (if jump.isNone then .ready else .done) jump))) := fun jump => by
        have := run_endRound (P := P) jump hl3
        rw [← hbz, hrec] at this
        rw [hrec]; exact this
      have ho4 : ∀ (o' : Obj), Oth E.w0.heap.size W3 (W3.putObj l o') := fun o' => Oth.putObj _ hl3 rfl (by omega)
      have hlt3 : l < W3.heap.size := (Array.getElem?_eq_some_iff.1 hl3).1
      cases e with
      | normal =>
        refine ⟨_, _, fin none, .inl ⟨rfl, K3, O2, hq, ?_⟩⟩
        have hs4 : SRK E K3 ⟨fr0, O2⟩ a (W3.putObj l (.loop (rec .ready none))) := hs3'.oth (ho4 _)
        refine hs4.to_at ⟨?_, ?_, ?_, ?_, fun g hg hx => ?_, fun g cur e hc => ?_⟩ fun b g hb hk => ?_
        · exact hs3.ext.os.trans (ho2.os.trans hs1a.ext.os)
        · exact hs3.ext.tape.trans (ho2.tape.trans hs1a.ext.tape)
        · exact hs3.ext.output.trans (ho2.output.trans hs1a.ext.output)
        · exact Nat.le_trans hs1a.ext.size (Nat.le_trans ho2.size (Nat.le_trans hs3.ext.size (ho4 _).size))
        · by_cases e : g = l
          · subst e
            exact (World.putObj_heap_same hlt3).trans hL1.symm
          · exact (World.putObj_heap_other e).trans (hblk g hg hx e)
        · obtain ⟨c1', e1, e2⟩ := hs1a.ext.shape g cur e hc
          obtain ⟨c2', e3, e4⟩ := hs3.ext.shape g c1' e (ho2.data _ _ e1 rfl)
          exact ⟨c2', (ho4 _).data _ _ e3 rfl, e4.trans e2⟩
        · rcases hs3.mine b g hb hk with h | h
          · exact hmine1 g h
          · have h : W2.heap.size ≤ g := h
            have := hs1a.ext.size
            exact .inr (by have : W1.heap.size ≤ W1a.heap.size := this; omega)
      | exit id =>
        exact ⟨_, _, fin (some (.exit id)), .inr ⟨rfl, .exit id, K3, O2, (by simp), hq, hs3'.oth (ho4 _), World.putObj_heap_same hlt3, fun D hD => (World.putObj_heap_other (by rintro rfl; rw [hL1] at hD; cases hD)).trans (hdd D hD)⟩⟩
      | ret =>
        exact ⟨_, _, fin (some .ret), .inr ⟨rfl, .ret, K3, O2, (by simp), hq, hs3'.oth (ho4 _), World.putObj_heap_same hlt3, fun D hD => (World.putObj_heap_other (by rintro rfl; rw [hL1] at hD; cases hD)).trans (hdd D hD)⟩⟩
  -- behind the loop
  have hact : ({ wd ds a with defers := [{ target := .collected w.heap.size, args := #[] }] ++ (wd ds a).defers } : Act) = wd ({ target := .collected w.heap.size, args := #[] } :: ds) a := by
    simp [wd, hdf]
  have hmk : ∀ (W' : World), (∀ (D : Nat), W1.heap[D]? = some (.deferred (some [])) → W'.heap[D]? = some (.deferred (some []))) → ∀ (o' : Obj), Marks E.w0.heap.size ({ target := .collected w.heap.size, args := #[] } :: ds) (W'.putObj l o') := fun W' hD o' => by
    have hput : ∀ (D : Nat), W1.heap[D]? = some (.deferred (some [])) → (W'.putObj l o').heap[D]? = some (.deferred (some [])) := fun D h =>
      (World.putObj_heap_other (by rintro rfl; rw [hL1] at h; cases h)).trans (hD D h)
    refine ⟨fun d hd => ?_, List.pairwise_cons.2 ⟨fun d hd D D' e1 e2 => ?_, hM.nd⟩⟩
    · rcases List.mem_cons.1 hd with rfl | hd
      · exact ⟨_, rfl, hB, hput _ hK1⟩
      · obtain ⟨D, q1, q2, q3⟩ := hM1.all d hd
        exact ⟨D, q1, q2, hput D q3⟩
    · obtain ⟨D2, rfl, _, q3⟩ := hM.all d hd
      cases e1; cases e2
      exact fun e => by have := (Array.getElem?_eq_some_iff.1 q3).1; omega
  have key' : CallsIn (FrW none) (m - 1) P f (#[.func (.yield l) #[] #[]] ++ vs) W1 _ := (callsIn_wide (n := m - 1)).2 ((callsIn_wide (n := 1)).1 key)
  refine key'.mono ?_
  rintro e W' ⟨⟨v, rfl⟩, ⟨i, hxi, K', O', hi, hs'⟩ | ⟨e, K', O', hne, hj, hs', hl', hD'⟩⟩
  · have hlW : W'.heap[l]? = some (.loop (rec .ready none)) := (hs'.ext.block l hls hnl).trans hL1
    have hend := run_endLoop (P := P) hlW (by rw [hrec]; simp)
    rw [hrec] at hend
    refine ⟨none, _, hend, ?_⟩
    show Q .normal _ _
    rw [hact]
    exact hQ .normal O' K' _ _ ⟨i, hxi, hi⟩ (hs'.at_of.oth (Oth.putObj _ hlW rfl (by omega))) (hmk W' (fun D hD => (hs'.ext.block D (Array.getElem?_eq_some_iff.1 hD).1 (hs1.not_live hD rfl)).trans hD) _)
  · have hend := run_endLoop (P := P) hl' (by rw [hrec]; simp)
    rw [hrec] at hend
    refine ⟨some (jumpC e), _, hend, ?_⟩
    show (jumpC e).wpIn _ _ _ _ _ _
    rw [hact]
    have := hQ e O' K' _ w.heap.size (by cases e <;> first | exact absurd rfl hne | exact hj) (hs'.oth (Oth.putObj (.loop { rec .done (some (jumpC e)) with state := .exhausted }) hl' rfl (by omega))) (hmk W' hD' _)
    rw [hrec] at this
    cases e with
    | normal => exact absurd rfl hne
    | exit id => exact wpIn_exit this
    | ret => exact wpIn_ret this
end
end Go.Abs
end
section
namespace Go.Abs
open Go.RowKit
set_option linter.unusedVariables false
/-! ### an iterator's own walk -/
section
variable {P : Program} {T : Tab} {E : Env} {N : Nat} {m : Nat} {ws : List Nat} {ops : Array Oper} {F : Fence}
theorem wpOpsIn_append {Q : Exit → Act → World → Prop} {is : List Nat} : ∀ (l : List Nat) (a : Act) (w : World),
    wpOpsIn F m P ops (fun e a w => match e with | .normal => wpOpsIn F m P ops Q is a w | e => Q e a w) l a w → wpOpsIn F m P ops Q (l ++ is) a w
  | [], a, w, h => h
  | i :: l, a, w, h => by
    rw [List.cons_append, wpOpsIn_cons]
    rw [wpOpsIn_cons] at h
    unfold wpOpIn at h ⊢
    cases ho : ops[i]? with
    | none => rw [ho] at h; exact wpOpsIn_append l a w h
    | some o =>
      rw [ho] at h
      simp only at h ⊢
      split
      · rename_i hw
        rw [if_pos hw] at h
        refine ⟨h.1, ?_⟩
        have h2 := h.2
        generalize (o.semAt F.round a.eval).run P w = res at h2 ⊢
        cases res with
        | ok x w' =>
          cases x <;> simp only [Oper.uponIn] at h2 ⊢ <;>
          first
            | exact wpOpsIn_append l _ _ h2
            | exact ⟨h2.1, CallsIn.mono h2.2 (fun e w'' he => by cases e <;> first | exact wpOpsIn_append l _ _ he | exact he | (obtain ⟨a, w, hh⟩ := he; exact ⟨a, w, hh⟩))⟩
            | exact ⟨h2.1, RowsIn.mono h2.2 (fun _ _ he => wpOpsIn_append l _ _ he)⟩
            | exact ⟨h2.1, RoundIn.mono h2.2 (fun e w'' he => by cases e <;> first | exact wpOpsIn_append l _ _ he | exact he | (obtain ⟨a, w, hh⟩ := he; exact ⟨a, w, hh⟩))⟩
            | exact h2
        | halt x w' => cases x <;> simp only [Oper.uponIn] at h2 ⊢ <;> exact h2
      · rename_i hw
        rw [if_neg hw] at h
        exact ⟨h.1, wpOpsIn_append l _ _ h.2⟩
/-- some operations, evaluated -/
theorem seg_ops (hT : TabOK P T) (h1 : TabOne T = true) (hN : E.N = N) {dm : List (Nat × Bool)} {A : Acc} {i n : Nat} {l : List Oper} {c : Cfg} {a : Act} {w : World} {Kk : Cfg → Prop} {Q : Exit → Act → World → Prop} {is : List Nat}
    (hl : ∀ j, j < l.length → l[j]? = ops[i + j]?) (hn : l.length = n) (hd : dstsIn ws ops.toList = true) (h : evOps false P T N dm ops A i l c Kk) (hs : SR E c a w)
    (hQ : ∀ c a' w, Kk c → SR E c a' w → Sm ws a a' → wpOpsIn (FrW none) m P ops Q is a' w) : wpOpsIn (FrW none) m P ops Q (List.range' i n ++ is) a w := by
  have := wpOps_seg (P := P) (is := []) (n := n) (Q := fun e a w => e = Exit.normal ∧ ∃ c, Kk c ∧ SR E c a w) hT h1 hN hl hn h (fun c a w hk hs => ⟨rfl, c, hk, hs⟩) hs
  rw [List.append_nil] at this
  refine wpOpsIn_append _ _ _ ?_
  have h2 := wpOps_in (r := none) (n := m) (ds := []) (a0 := a) (Q' := fun e a w => match e with | .normal => wpOpsIn (FrW none) m P ops Q is a w | e => Q e a w) hd (by rintro ⟨a, w, h, _⟩; cases h) (fun e a' w hsm hq => by
    obtain ⟨rfl, c, hk, hs⟩ := hq
    have := hQ c a' w hk hs hsm
    rwa [show wd [] a' = a' from by simp [wd]]) _ _ _ (Sm.refl ws a) this
  rwa [show wd [] a = a from by simp [wd]] at h2
/-- a call of yield -/
theorem op_yield {i l m' : Nat} {o : Oper} {f x : Operand} {ts : Array TypeId} {a : Act} {w : World} {v : Value} {R : Ending → World → Prop} {K : Act → World → Prop} {Q : Exit → Act → World → Prop}
    (ho : ops[i]? = some o) (hop : o.op = .call { callee := .value f, args := #[x], argTypes := ts }) (hg : o.guard = none) (hf : a.eval f = .func (.yield l) #[] #[]) (hv : a.eval x = v)
    (hy : YieldAt Fence.wide m' P l #[v] w R) (hk : ∀ e w', R e w' → ∃ u, e = .returned u ∧ K (a.put o.dst u) w') : wpOpIn (FrW none) m P ops Q i K a w := by
  obtain ⟨fn, tmps, assign, body, hr, hR⟩ := hy
  unfold wpOpIn
  rw [ho]
  simp only
  rw [if_pos (wanted_no' hg)]
  refine ⟨fun _ _ => trivial, ?_⟩
  have hrun : (o.semAt (FrW none).round a.eval).run P w = .ok (.round l fn tmps assign body) w := by
    show (execOp a.eval o).run P w = _
    simp only [execOp, hop, resolve, hf, Deferred.ofValue, Sem.run_bind, Sem.run_pure, Result.andThen_ok, invoke]
    simp [hv, hr]
  rw [hrun]
  refine ⟨fun h => (by cases h), ?_⟩
  have hR2 : RoundIn Fence.wide (m - 1) P l fn tmps assign body w R := ⟨trivial, fun c cs _ => hR.2 c cs (room_wide _)⟩
  have hR3 : RoundIn (FrW none) (m - 1) P l fn tmps assign body w R := hR2
  refine hR3.mono fun e w' he => ?_
  obtain ⟨u, rfl, hK⟩ := hk e w' he
  exact hK
end
end Go.Abs
end
