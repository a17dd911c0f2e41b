import Derived.Test.YteihenhffdckiaaGreatDoorJ22
import Derived.Test.YteihenhffdckiaaGreatDoorBtop
import Derived.Test.YteihenhffdckiaaGreatDoorJ17
import Derived.Test.YteihenhffdckiaaGreatDoorJ20
section
namespace Go.Abs
open Go.RowKit
set_option linter.unusedVariables false
/-! ### an evaluator for functions that hold loops over functions -/
def codeDsts : Code → List Nat
  | .region _ ops _ => ops.toList.filterMap (·.dst)
  | .seq x y => codeDsts x ++ codeDsts y
  | .cond _ x y => codeDsts x ++ codeDsts y
  | .block _ b => codeDsts b
  | .loop b => codeDsts b
  | _ => []
def rgWs (p : Nat) (assign body : Code) : List Nat := p :: (codeDsts assign ++ codeDsts body)
def rgChk (gs : List (Nat × List Nat)) (N p : Nat) (assign body : Code) : Bool :=
  Nat.blt p N && drawsOK assign && drawsOK body && rgOK gs (rgWs p assign body) assign && rgOK gs (rgWs p assign body) body
def outer (ks ws : List Nat) : List Nat := ks.filter fun t => !memN t ws
theorem frOut_keep (fr : List (Nat × AV)) (ks ws : List Nat) : frOut ws (keepF fr (outer ks ws)) = true := by
  unfold outer
  induction ks with
  | nil => rfl
  | cons t ts ih =>
    by_cases h : memN t ws = true
    · rw [List.filter_cons_of_neg (by simp [h])]; exact ih
    · have h' : memN t ws = false := by simpa using h
      rw [List.filter_cons_of_pos (by simp [h'])]
      simp only [keepF]
      split <;> first | exact ih | skip
      rename_i v h1 h2 h3
      simp only [frOut, h', Bool.and_eq_true, Bool.not_false, true_and]
      refine ⟨?_, ih⟩
      cases hv : lk fr t <;> first | rfl | exact absurd hv (h3 _ _ _)
def evH (P : Program) (T : Tab) (N : Nat) (ks : List Nat) (gs : List (Nat × List Nat)) (wk ps : List Nat) : Code → Cfg → (Ex → Cfg → Prop) → Prop
  | .seq x y, c, Q => evH P T N ks gs wk ps x c fun e c' => match e with
    | .normal => evH P T N ks gs wk ps y c' Q
    | e => Q e c'
  | .cond x thn els, c, Q => match opv c x with
    | .bool b => (b = true → evH P T N ks gs wk ps thn c Q) ∧ (b = false → evH P T N ks gs wk ps els c Q)
    | _ => False
  | .block id b, c, Q => evH P T N ks gs wk ps b c fun e c' => match e with
    | .exit id' => match Nat.beq id' id with | true => Q .normal c' | false => Q (.exit id') c'
    | e => Q e c'
  | .loop b, c, Q => ∃ (I : Nat → Cfg → Prop), (∃ n c', WkP ps c c' ∧ I n c') ∧ ∀ n c, I n c → evH P T N ks gs wk ps b c fun e c' => match e with
    | .normal => ∃ m c'', WkP ps c' c'' ∧ m < n ∧ I m c''
    | e => Q e c'
  | .rangeFunc g pa assign body, c, Q => match pa.toList with
    | [p] => match opv c g with
      | .func f us => (AV.idlessL us && rgChk gs N p assign body) = true ∧ ∃ xs, SeqA P f us xs ∧ (∀ i x, xs i = some x → plainA x = true) ∧ ∃ (I : Nat → List (Nat × OBlk) → Prop) (Jx : Ex → List (Nat × OBlk) → Prop) (Nb : Nat), I 0 c.O ∧ (∀ i O, I i O → i < Nb) ∧
          (∀ i x O, xs i = some x → I i O → evG P T N ks gs wk ps assign ⟨(p, x) :: keepF c.fr (outer ks (rgWs p assign body)), O⟩ fun e c1 => e = .normal ∧ evG P T N ks gs wk ps body c1 fun e c2 => ∃ O2, WkP ps c2 ⟨keepF c.fr (outer ks (rgWs p assign body)), O2⟩ ∧ match e with | .normal => I (i + 1) O2 | e => Jx e O2) ∧
          (∀ i O', xs i = none → I i O' → Q .normal ⟨keepF c.fr (outer ks (rgWs p assign body)), O'⟩) ∧ (∀ e O', e ≠ .normal → Jx e O' → Q e ⟨keepF c.fr (outer ks (rgWs p assign body)), O'⟩)
      | _ => False
    | _ => False
  | .region id ops dr, c, Q => (drawsOK (.region id ops dr) && rgOK gs (codeDsts (.region id ops dr)) (.region id ops dr)) = true ∧ evG P T N ks gs wk ps (.region id ops dr) c Q
  | .skip, c, Q => Q .normal c
  | .exit id, c, Q => Q (.exit id) c
  | .ret, c, Q => Q .ret c
  | _, _, _ => False
section
variable {P : Program} {T : Tab} {E : Env} {N : Nat} {ks wk ps : List Nat} {gs : List (Nat × List Nat)} {m : Nat}
theorem evH_sound (hT : TabOK P T) (h1 : TabOne T = true) (hN : E.N = N) (hm : P.follows .mixedOrders = true) (hp : ∀ b, memN b ps = false → E.pin b = none) :
    ∀ (code : Code) (c : Cfg) (Q : Ex → Cfg → Prop) (Q' : Exit → Act → World → Prop) (a : Act) (w : World) (ds : List Deferred), evH P T N ks gs wk ps code c Q →
      (∀ e c a w ds, Q e c → SR E c a w → Marks E.w0.heap.size ds w → Q' e.toExit (wd ds a) w) → SR E c a w → Marks E.w0.heap.size ds w → code.wpIn (FrW none) m P Q' (wd ds a) w
  | .skip, c, Q, Q', a, w, ds, h, hQ, hs, hM => wpIn_skip (hQ .normal c a w ds h hs hM)
  | .region id ops dr, c, Q, Q', a, w, ds, h, hQ, ⟨K, hs⟩, hM => by
    obtain ⟨hc, h⟩ := h
    simp only [Bool.and_eq_true] at hc
    exact seg_sound hT h1 hN hm hp hc.1 hc.2 h hs hM fun e c' a' w' hq hs' hM' _ => hQ e c' a' w' ds hq hs' hM'
  | .seq x y, c, Q, Q', a, w, ds, h, hQ, hs, hM => by
    refine wpIn_seq (evH_sound hT h1 hN hm hp x c _ _ a w ds h (fun e c a w ds hq hs hM => ?_) hs hM)
    cases e with
    | normal => exact evH_sound hT h1 hN hm hp y c Q Q' a w ds hq hQ hs hM
    | exit id => exact hQ _ c a w ds hq hs hM
    | ret => exact hQ _ c a w ds hq hs hM
  | .cond x t e, c, Q, Q', a, w, ds, h, hQ, hs, hM => by
    simp only [evH] at h
    split at h
    · rename_i b hb
      exact wpIn_cond_split (a := wd ds a) (by rw [wd_eval]; exact opv_FV hs hb) (fun ht => evH_sound hT h1 hN hm hp t c Q Q' a w ds (h.1 ht) hQ hs hM) (fun ht => evH_sound hT h1 hN hm hp e c Q Q' a w ds (h.2 ht) hQ hs hM)
    · exact h.elim
  | .block id b, c, Q, Q', a, w, ds, h, hQ, hs, hM => by
    refine wpIn_block (evH_sound hT h1 hN hm hp b c _ _ a w ds h (fun e c a w ds hq hs hM => ?_) hs hM)
    cases e with
    | normal => exact hQ _ c a w ds hq hs hM
    | exit id' =>
      simp only [Ex.toExit, Exit.inBlock]
      simp only at hq
      split at hq
      · rename_i he
        rw [if_pos (beq_true he)]
        exact hQ .normal c a w ds hq hs hM
      · rename_i he
        rw [if_neg (beq_false he)]
        exact hQ (.exit id') c a w ds hq hs hM
    | ret => exact hQ _ c a w ds hq hs hM
  | .exit id, c, Q, Q', a, w, ds, h, hQ, hs, hM => wpIn_exit (hQ (.exit id) c a w ds h hs hM)
  | .ret, c, Q, Q', a, w, ds, h, hQ, hs, hM => wpIn_ret (hQ .ret c a w ds h hs hM)
  | .loop b, c, Q, Q', a, w, ds, h, hQ, hs, hM => by
    obtain ⟨I, ⟨n, c', hw, hI⟩, hrd⟩ := h
    refine wpIn_loop_ghost (fun n a' w => ∃ a ds, a' = wd ds a ∧ Marks E.w0.heap.size ds w ∧ ∃ c, I n c ∧ SR E c a w) n ⟨a, ds, rfl, hM, c', hI, hw E a w hp hs⟩ ?_
    rintro n a' w ⟨a, ds, rfl, hM, c, hI, hs⟩
    refine evH_sound hT h1 hN hm hp b c _ _ a w ds (hrd n c hI) (fun e c a w ds hq hs hM => ?_) hs hM
    cases e with
    | normal =>
      obtain ⟨m, c'', hw, hlt, hI'⟩ := hq
      exact ⟨m, hlt, a, ds, rfl, hM, c'', hI', hw E a w hp hs⟩
    | exit id => exact hQ _ c a w ds hq hs hM
    | ret => exact hQ _ c a w ds hq hs hM
  | .rangeFunc g pa assign body, c, Q, Q', a, w, ds, h, hQ, ⟨K, hs⟩, hM => by
    simp only [evH] at h
    split at h
    · rename_i p hpa
      split at h
      · rename_i f us hg
        obtain ⟨hc, xs, hseq, hpl, I, Jx, Nb, h0, hI, hrd, hn, hx⟩ := h
        unfold rgChk at hc
        simp only [Bool.and_eq_true] at hc
        obtain ⟨hid, ⟨⟨⟨⟨hpN, hda⟩, hdb⟩, hra⟩, hrb⟩⟩ := hc
        have hpa' : pa = #[p] := by
          obtain ⟨l⟩ := pa
          simp at hpa
          rw [hpa]
        subst hpa'
        refine wpIn_rangeA (ws := rgWs p assign body) hT h1 hN hm hp hs hM hg hid hseq hpl (by simp [rgWs, memN]) (by rw [hN]; simpa [Nat.blt_eq] using hpN) hda hdb hra hrb _ (frOut_keep c.fr ks _) (fun t => lk_keep _ _ t) I Jx h0 Nb hI hrd fun e O' K' w' D hj hs' hM' => ?_
        cases e with
        | normal =>
          obtain ⟨i, hi, hj⟩ := hj
          exact hQ .normal _ _ _ _ (hn i O' hi hj) ⟨K', hs'⟩ hM'
        | exit id => exact hQ _ _ _ _ _ (hx _ O' (by simp) hj) ⟨K', hs'⟩ hM'
        | ret => exact hQ _ _ _ _ _ (hx _ O' (by simp) hj) ⟨K', hs'⟩ hM'
      · exact h.elim
    · exact h.elim
  | .scope _, c, Q, Q', a, w, ds, h, hQ, hs, hM => h.elim
  | .label _, c, Q, Q', a, w, ds, h, hQ, hs, hM => h.elim
  | .goto _, c, Q, Q', a, w, ds, h, hQ, hs, hM => h.elim
  | .refuse _, c, Q, Q', a, w, ds, h, hQ, hs, hM => h.elim
theorem fn_evH (rv : List ResultVar) (hT : TabOK P T) (h1 : TabOne T = true) (hm : P.follows .mixedOrders = true) {f : FuncId} {fn : Func} {code : Code} {args : List AV} {r : AV}
    (hf : P.funcs[f]? = some fn) (hb : fn.body = some code) (hname : (fn.name == "runtime.NumGoroutine") = false) (hn : Nat.ble args.length fn.ntmps = true) (hN : fn.ntmps = N) (hr : fn.results.toList = rv)
    (h : evH P T N ks gs wk [] code ⟨idx 0 args, []⟩ (retQW T rv r)) : Fn P f args r :=
  fn_ofM rv hT hf hb hname hn hN hr fun E K a w hEN hp hs => by
    have := evH_sound (m := 0) hT h1 hEN hm (fun b _ => hp b) code _ (retQW T rv r) (EndM T rv r E) a w [] h (fun e c' a' w' ds hq hs' hM => by
      cases e with
      | exit id => exact hq.elim
      | normal => obtain ⟨c2, h1, h2⟩ := hq; obtain ⟨K2, h3⟩ := h1 E a' w' (fun b _ => hp b) hs'; exact ⟨.inl rfl, ds, a', rfl, hM, K2, c2, h3, h2⟩
      | ret => obtain ⟨c2, h1, h2⟩ := hq; obtain ⟨K2, h3⟩ := h1 E a' w' (fun b _ => hp b) hs'; exact ⟨.inr rfl, ds, a', rfl, hM, K2, c2, h3, h2⟩) ⟨K, hs⟩ (Marks.nil _ _)
    rwa [show wd [] a = a from by simp [wd]] at this
end
end Go.Abs
end
section
namespace Go.Abs
open Go.RowKit
set_option linter.unusedVariables false
section
variable {P : Program} {T : Tab} {N : Nat} {m : Nat}
/-- an iterator's contract, from its body's run -/
theorem seqA_of {f : FuncId} {fn : Func} {code : Code} {us : List AV} {xs : Nat → Option AV} (hf : P.funcs[f]? = some fn) (hb : fn.body = some code) (hname : (fn.name == "runtime.NumGoroutine") = false) (hr : fn.results.toList = []) (hN : fn.ntmps = N) (hle : us.length + 1 ≤ N)
    (h : ∀ (X : Nat → Prop) (w : World) (a : Act) (l Nb : Nat) (J : Nat → World → Prop) (Jx : World → Prop), a.tmps.size = N → a.defers = [] → a.tmps.getD 0 undef = .func (.yield l) #[] #[] → (∀ (j : Nat) u, us[j]? = some u → VR w X K0 u (a.tmps.getD (j + 1) undef)) →
      (∀ i W, J i W → i < Nb) → (∀ i W W', J i W → Below W.heap.size W W' → J i W') → (∀ W W', Jx W → Below W.heap.size W W' → Jx W') → (∀ i W, J i W → Keep X w W ∧ WI W) →
      (∀ i x W v, J i W → xs i = some x → VR W X K0 x v → YieldAt Fence.wide 0 P l #[v] W fun e W' => (e = .returned (.bool true) ∧ J (i + 1) W') ∨ (e = .returned (.bool false) ∧ Jx W')) →
      J 0 w → code.wpIn (FrW none) 0 P (fun e a' w' => (e = .normal ∨ e = .ret) ∧ a'.defers = [] ∧ ((∃ i, xs i = none ∧ J i w') ∨ Jx w')) a w) : SeqA P f us xs := by
  refine ⟨⟨fn, hf, hname, by rw [hb]; rfl⟩, fun X w vs hwi hl hv l m Nb J Jx hJN hJ hJx hK hy h0 => ?_⟩
  have key : CallsIn (FrW none) 0 P f (#[.func (.yield l) #[] #[]] ++ vs) w fun e W' => (∃ v, e = .returned v) ∧ ((∃ i, xs i = none ∧ J i W') ∨ Jx W') := by
    refine callsIn_of_wp hf hb trivial ?_ rfl
    have hs0 : (#[Value.func (.yield l) #[] #[]] ++ vs).size = us.length + 1 := by simp; omega
    subst hN
    refine wpIn_mono (h X w _ l Nb J Jx ?_ rfl ?_ (fun j u hu => ?_) hJN hJ hJx hK (fun i x W v hj hx hxv => ?_) h0) ?_
    · simp; omega
    · rw [Array.getD_eq_getD_getElem?, Array.append_assoc, Array.getElem?_append_left (by simp)]; rfl
    · have hj : j < vs.size := by rw [← hl]; exact (List.getElem?_eq_some_iff.1 hu).1
      have := hv j u vs[j] hu (by simp [hj])
      have e : (#[Value.func (.yield l) #[] #[]] ++ vs ++ Array.replicate (fn.ntmps - (#[Value.func (.yield l) #[] #[]] ++ vs).size) undef).getD (j + 1) undef = vs[j] := by
        rw [Array.getD_eq_getD_getElem?, Array.getElem?_append_left (by simp; omega), Array.getElem?_append_right (by simp)]
        simp [hj]
      rw [e]; exact this
    · have hy0 := hy i x W v hj hx hxv
      obtain ⟨fn', tmps, assign, body, q1, q2⟩ := hy0
      exact ⟨fn', tmps, assign, body, q1, trivial, fun c cs _ => q2.2 c cs (room_wide _)⟩
    · rintro e a' w' ⟨he, hd, hp⟩
      have hq : a'.defers = [] ∧ ∃ v, (results fn a'.tmps).run P w' = .ok v w' ∧ ((∃ v', Ending.returned v = .returned v') ∧ ((∃ i, xs i = none ∧ J i w') ∨ Jx w')) :=
        ⟨hd, _, results_run hr _ _ (vs := []) rfl (fun j x v h => by simp at h), ⟨_, rfl⟩, hp⟩
      rcases he with rfl | rfl
      · exact hq
      · exact hq
  exact (callsIn_wide (n := m + 1)).2 ((callsIn_wide (n := 0)).1 key)
/-- what a slot of a plain frame holds -/
def Hold (w : World) (X : Nat → Prop) (a : Act) (fr : List (Nat × AV)) : Prop := ∀ t, VR w X K0 (lk fr t) (a.tmps.getD t undef)
theorem srk_hold {X : Nat → Prop} {w : World} {a : Act} (hsz : a.tmps.size = N) (hd : a.defers = []) (hwi : WI w) {fr : List (Nat × AV)} (hfr : Hold w X a fr) :
    ∃ E : Env, E.N = N ∧ (∀ b, E.pin b = none) ∧ (∀ g, XX E K0 [] g → X g) ∧ E.w0 = w ∧ E.X0 = (fun _ => False) ∧ SRK E K0 ⟨fr, []⟩ a w :=
  ⟨Env0 (fun _ => False) X w N (fun w' hx => hwi.mono hx.size fun g hg => hx.block g hg id), rfl, fun _ => rfl, fun g hg => by
    rcases hg with ⟨b, hb, _⟩ | hg
    · simp [olk] at hb
    · exact hg.1.1, rfl, rfl, hsz, hd, Ext.refl _ _, fun t => FV.of ((hfr t).sub fun g _ hg => by
    rcases hg with ⟨b, hb, _⟩ | hg
    · simp [olk] at hb
    · exact hg.1.1), fun b blk hb => by simp [olk] at hb, fun b blk hb => by simp [olk] at hb, fun b b' g hb => by simp [olk] at hb, fun b g hb => by simp [olk] at hb, fun b x hx => by cases hx⟩
theorem below_ext {w0 w : World} {X0 : Nat → Prop} (h : Ext X0 w0 w) (hX : X0 = fun _ => False) : Below w0.heap.size w0 w := by
  subst hX
  exact ⟨h.os, h.tape, h.output, h.size, fun g hg => h.block g hg id⟩
theorem FV.plain {w w' : World} {X X' : Nat → Prop} {K K' : KM} {tm : Array Value} {u : AV} {v : Value} (hu : plainA u = true) (h : FV w X K tm u v) : VR w' X' K' u v :=
  plainA_any hu (h.vr (by rintro d want u' rfl; cases hu))
/-- code in an iterator, between the calls of yield -/
theorem code_hold (hT : TabOK P T) (h1 : TabOne T = true) (hm : P.follows .mixedOrders = true) {ks wk : List Nat} {gs : List (Nat × List Nat)} {ws : List Nat} {X : Nat → Prop} {code : Code} {fr : List (Nat × AV)} {Q : Ex → Cfg → Prop} {Q' : Exit → Act → World → Prop} {a : Act} {w : World}
    (hd : drawsOK code = true) (hr : rgOK gs ws code = true) (h : evG P T N ks gs wk [] code ⟨fr, []⟩ Q) (hsz : a.tmps.size = N) (hdf : a.defers = []) (hwi : WI w) (hfr : Hold w X a fr)
    (hQ : ∀ e c a' w', Q e c → a'.tmps.size = N → a'.defers = [] → Below w.heap.size w w' → Sm ws a a' → (∀ t u, lk c.fr t = u → plainA u = true → VR w' X K0 u (a'.tmps.getD t undef)) → Q' e.toExit a' w') : code.wpIn (FrW none) m P Q' a w := by
  obtain ⟨E, hN, hp, hX, hw0, hX0, hs⟩ := srk_hold hsz hdf hwi hfr
  have := evG_soundIn (E := E) (N := N) (m := m) (r := none) (ds := []) (a0 := a) hT h1 hN hm (fun b _ => hp b) code _ Q Q' a w hd hr h (fun e c a' w' hq ⟨K', hs'⟩ hsm => by
    rw [show wd [] a' = a' from by simp [wd]]
    refine hQ e c a' w' hq (by rw [hs'.size, hN]) hs'.defers ?_ hsm fun t u hu hpl => ?_
    · have := hs'.ext
      rw [hw0] at this
      exact below_ext this hX0
    · have := hs'.fr t
      rw [hu] at this
      exact FV.plain hpl this) ⟨K0, hs⟩ (Sm.refl _ _)
  rwa [show wd [] a = a from by simp [wd]] at this
/-- operations in an iterator -/
theorem ops_hold (hT : TabOK P T) (h1 : TabOne T = true) {ws : List Nat} {X : Nat → Prop} {ops : Array Oper} {dm : List (Nat × Bool)} {A : Acc} {i n : Nat} {l : List Oper} {fr : List (Nat × AV)} {Kk : Cfg → Prop} {Q : Exit → Act → World → Prop} {is : List Nat} {a : Act} {w : World}
    (hl : ∀ j, j < l.length → l[j]? = ops[i + j]?) (hn : l.length = n) (hd : dstsIn ws ops.toList = true) (h : evOps false P T N dm ops A i l ⟨fr, []⟩ Kk) (hsz : a.tmps.size = N) (hdf : a.defers = []) (hwi : WI w) (hfr : Hold w X a fr)
    (hQ : ∀ c a' w', Kk c → a'.tmps.size = N → a'.defers = [] → Below w.heap.size w w' → Sm ws a a' → (∀ t u, lk c.fr t = u → plainA u = true → VR w' X K0 u (a'.tmps.getD t undef)) → (∀ t v, lk c.fr t = .lit v → a'.tmps.getD t undef = v) → wpOpsIn (FrW none) m P ops Q is a' w') : wpOpsIn (FrW none) m P ops Q (List.range' i n ++ is) a w := by
  obtain ⟨E, hN, hp, hX, hw0, hX0, hs⟩ := srk_hold hsz hdf hwi hfr
  refine seg_ops (E := E) (N := N) (ws := ws) hT h1 hN hl hn hd h ⟨K0, hs⟩ fun c a' w' hq ⟨K', hs'⟩ hsm => ?_
  refine hQ c a' w' hq (by rw [hs'.size, hN]) hs'.defers ?_ hsm (fun t u hu hpl => ?_) fun t v hv => ?_
  · have := hs'.ext
    rw [hw0] at this
    exact below_ext this hX0
  · have := hs'.fr t
    rw [hu] at this
    exact FV.plain hpl this
  · have := hs'.fr t
    rw [hv] at this
    cases this
    rfl
end
theorem Hold.nil {w : World} {X : Nat → Prop} {a : Act} : Hold w X a [] := fun _ => .top
theorem Hold.cons {w : World} {X : Nat → Prop} {a : Act} {fr : List (Nat × AV)} {t : Nat} {u : AV} (h : VR w X K0 u (a.tmps.getD t undef)) (k : Hold w X a fr) : Hold w X a ((t, u) :: fr) := by
  intro s
  rw [lk_cons]
  by_cases e : t = s
  · subst e; rw [if_pos rfl]; exact h
  · rw [if_neg e]; exact k s
theorem VR.int_eq {w : World} {X : Nat → Prop} {K : KM} {k : IntKind} {n : Int} {v : Value} (h : VR w X K (.int k n) v) : v = .int k n := by cases h; rfl
theorem VR.bool_eq {w : World} {X : Nat → Prop} {K : KM} {b : Bool} {v : Value} (h : VR w X K (.bool b) v) : v = .bool b := by cases h; rfl
/-! ### a function value, looked at -/
section
variable {E : Env} {K : KM} {c : Cfg} {a : Act} {w : World}
theorem views1_at {own : Nat → Option OBlk} : ∀ {us us' : List AV}, views1 own us = some us' → us'.length = us.length ∧ ∀ (j : Nat) u', us'[j]? = some u' → ∃ u, us[j]? = some u ∧ view1 own u = some u'
  | [], us', h => by simp [views1] at h; subst h; simp
  | x :: xs, us', h => by
    simp only [views1] at h
    split at h
    · rename_i y ys hy hys
      injection h with h
      subst h
      obtain ⟨h1, h2⟩ := views1_at hys
      refine ⟨by simp [h1], fun j u' hj => ?_⟩
      cases j with
      | zero => simp at hj; subst hj; exact ⟨x, by simp, hy⟩
      | succ j => obtain ⟨u, q1, q2⟩ := h2 j u' (by simpa using hj); exact ⟨u, by simpa using q1, q2⟩
    · cases h
theorem view_soundY {Y : Nat → Prop} (hY : ∀ g, Y g → E.XF g ∧ g < E.w0.heap.size) (hs : SRK E K c a w) {u u' : AV} {v : Value} (h : view (olk c.O) u = some u') (hv : VR w (XX E K c.O) K u v) : VR w Y K0 u' v := by
  unfold view at h
  split at h
  · rename_i f caps
    split at h
    · rename_i cs hcs
      injection h with h
      subst h
      obtain ⟨vs, rfl, hl, hvv⟩ := VR.func_inv hv
      obtain ⟨h1, h2⟩ := views1_at hcs
      refine .func (by rw [h1, hl]) fun j u x hu hx => ?_
      obtain ⟨u0, q1, q2⟩ := h2 j u hu
      exact view1_soundY hY hs q2 (hvv j u0 x q1 hx)
    · cases h
  · exact view1_soundY hY hs h hv
theorem SRK.viewAllF {fr fr' : List (Nat × AV)} {O : List (Nat × OBlk)} (hs : SRK E K ⟨fr, O⟩ a w) (hf : ∀ t, lk fr' t = .top ∨ view (olk O) (lk fr t) = some (lk fr' t)) : SRK E K ⟨fr', []⟩ a w := by
  have hno : ∀ t, lk fr' t ≠ .top → ∀ d want u, lk fr t ≠ .opt d want u := by
    intro t ht d want u he
    rcases hf t with h | h
    · exact ht h
    · rw [he] at h; simp [view, view1, viewCell] at h
  refine ⟨hs.size, hs.defers, hs.ext, fun t => ?_, fun b x hb => by simp [olk] at hb, fun b x hb => by simp [olk] at hb, fun b b' g hb => by simp [olk] at hb, fun b g hb => by simp [olk] at hb, hs.pin⟩
  show FV w _ K _ (lk fr' t) _
  rcases hf t with h | h
  · rw [h]; exact FV.top
  · by_cases ht : lk fr' t = .top
    · rw [ht]; exact FV.top
    · have hv := (hs.fr t).vr (hno t ht)
      have hY : ∀ g, XX E K [] g → E.XF g ∧ g < E.w0.heap.size := by
        rintro g (⟨b, hb, _⟩ | hg)
        · simp [olk] at hb
        · exact hg
      exact FV.of ((view_soundY (Y := XX E K []) hY hs h hv).any K)
def viewFrF (O : List (Nat × OBlk)) (fr : List (Nat × AV)) : List Nat → Option (List (Nat × AV))
  | [] => some []
  | t :: ts => match view (olk O) (lk fr t), viewFrF O fr ts with
    | some v, some r => some ((t, v) :: r)
    | _, _ => none
theorem viewFrF_lk {O : List (Nat × OBlk)} {fr : List (Nat × AV)} : ∀ {ts : List Nat} {fr' : List (Nat × AV)}, viewFrF O fr ts = some fr' → ∀ t, lk fr' t = .top ∨ view (olk O) (lk fr t) = some (lk fr' t)
  | [], fr', h, t => by simp [viewFrF] at h; subst h; exact .inl rfl
  | s :: ts, fr', h, t => by
    simp only [viewFrF] at h
    split at h
    · rename_i v r hv hr
      injection h with h; subst h
      simp only [lk_cons]
      split
      · rename_i e; subst e; exact .inr hv
      · exact viewFrF_lk hr t
    · cases h
theorem WkP.seeF {ps : List Nat} {c : Cfg} (ts : List Nat) {fr' : List (Nat × AV)} (h : viewFrF c.O c.fr ts = some fr') : WkP ps c ⟨fr', []⟩ := by
  rintro E a w _ ⟨K, h2⟩
  obtain ⟨fr, O⟩ := c
  exact ⟨K, h2.viewAllF (viewFrF_lk h)⟩
end
end Go.Abs
end
section
namespace Go.Abs.Ltop
open Go Go.Abs Go.Proofs
set_option linter.unusedVariables false
set_option maxRecDepth 20000
/-! ### rules of the functions that hold loops over functions -/
theorem mkH27 (gs : List (Nat × List Nat)) (wk : List Nat) {args : List AV} {r : AV} (hn : Nat.ble args.length 95 = true) (h : evH Tryz.prog tt 95 [0, 1, 2, 3, 4, 6, 8, 9, 12, 13, 14, 15, 16, 20, 45, 60, 61, 62, 63, 75, 77, 78, 79, 80, 86, 87, 93] gs wk [] (body Tryz.f27) ⟨idx 0 args, []⟩ (retQW tt [.cell 2 43] r)) : Fn Tryz.prog 27 args r :=
  fn_evH [.cell 2 43] tabOK tabOne mixed Tryz.func27 rfl (by kernel_rfl) hn rfl rfl h
theorem mkH74 (gs : List (Nat × List Nat)) (wk : List Nat) {args : List AV} {r : AV} (hn : Nat.ble args.length 17 = true) (h : evH Tryz.prog tt 17 [0, 1, 4, 5, 6, 9, 10] gs wk [] (body Tryz.f74) ⟨idx 0 args, []⟩ (retQW tt [.tmp 4] r)) : Fn Tryz.prog 74 args r :=
  fn_evH [.tmp 4] tabOK tabOne mixed Tryz.func74 rfl (by kernel_rfl) hn rfl rfl h
theorem mkH75 (gs : List (Nat × List Nat)) (wk : List Nat) {args : List AV} {r : AV} (hn : Nat.ble args.length 46 = true) (h : evH Tryz.prog tt 46 [0, 2, 5, 7, 8, 9, 10, 12, 14, 17, 18, 19, 20, 21, 22, 30, 31, 32, 33] gs wk [] (body Tryz.f75) ⟨idx 0 args, []⟩ (retQW tt [.tmp 8] r)) : Fn Tryz.prog 75 args r :=
  fn_evH [.tmp 8] tabOK tabOne mixed Tryz.func75 rfl (by kernel_rfl) hn rfl rfl h
end Go.Abs.Ltop
end
section
namespace Go.Abs.Ltop
open Go Go.Abs Go.Proofs
set_option linter.unusedVariables false
set_option maxRecDepth 20000
/-! ### the path of a unit -/
def rwI (l : List Rw) (u : Int) : Int := idxF (fun r => r.unit == u) 0 l
theorem rwI_cases (l : List Rw) (u : Int) : rwI l u = -1 ∨ ∃ (i : Nat) (r : Rw), rwI l u = i ∧ l[i]? = some r ∧ r.unit = u := by
  rcases idxF_spec (fun r : Rw => r.unit == u) l 0 with ⟨h, _⟩ | ⟨i, r, h1, h2, h3, _⟩
  · exact .inl h
  · exact .inr ⟨i, r, by unfold rwI; rw [h3]; simp, h1, by simpa using h2⟩
theorem c97 (r : Rw) (n : Int) : Fn Tryz.prog 97 [.agg (encW r), .rptr [I n] 0] (B (r.unit == n)) := mk97 rfl ⟨rfl, rfl, rfl⟩
theorem c53 (l : List Rw) (hl : l.length ≤ 9223372036854775807) (n : Int) : Fn Tryz.prog 53 [WS l, I n] (I (rwI l n)) :=
  mk53 rfl ⟨_, c96a l hl _ 97 [I n] (fun a _ => c97 a n), rfl, rfl, rfl⟩
/-- the index at which a path stands behind k steps; -1: it is over -/
def upI (l : List Rw) (u : Int) : Nat → Int
  | 0 => rwI l u
  | k + 1 => match l[(upI l u k).toNat]? with
    | some r => if upI l u k < 0 ∨ r.parent = 0 then -1 else rwI l r.parent
    | none => -1
theorem upI_cases (l : List Rw) (u : Int) (k : Nat) : upI l u k = -1 ∨ ∃ (i : Nat) (r : Rw), upI l u k = i ∧ l[i]? = some r := by
  cases k with
  | zero => rcases rwI_cases l u with h | ⟨i, r, h1, h2, _⟩; exact .inl h; exact .inr ⟨i, r, h1, h2⟩
  | succ k =>
    simp only [upI]
    split
    · rename_i r hr
      split
      · exact .inl rfl
      · rcases rwI_cases l r.parent with h | ⟨i, r, h1, h2, _⟩; exact .inl h; exact .inr ⟨i, r, h1, h2⟩
    · exact .inl rfl
theorem upI_next {l : List Rw} {u : Int} {k i : Nat} {r : Rw} (h : upI l u k = i) (hr : l[i]? = some r) : upI l u (k + 1) = if r.parent = 0 then -1 else rwI l r.parent := by
  simp only [upI, h, Int.toNat_natCast, hr]
  by_cases hp : r.parent = 0
  · rw [if_pos (.inr hp), if_pos hp]
  · rw [if_neg (by simp [hp]), if_neg hp]
/-- the rows of a path -/
def upR (l : List Rw) (u : Int) (k : Nat) : Option Rw := if upI l u k < 0 then none else l[(upI l u k).toNat]?
def upX (l : List Rw) (u : Int) (k : Nat) : Option AV := (upR l u k).map fun r => .agg (encW r)
theorem upX_plain {l : List Rw} {u : Int} (i : Nat) (x : AV) (h : upX l u i = some x) : plainA x = true := by
  unfold upX at h
  cases hr : upR l u i with
  | none => rw [hr] at h; cases h
  | some r => rw [hr] at h; cases h; rfl
theorem c54 (l : List Rw) (u : Int) : Fn Tryz.prog 54 [WS l, I u] (.func 98 [.rptr [WS l] 0, .rptr [I u] 0]) := by
  exact mkG54 [] [] rfl ⟨_, WkP.seeF [4] rfl, rfl, rfl, rfl⟩
/-- the operations of a region -/
def regOps (id : Nat) : Code → Array Oper
  | .region i ops _ => if i = id then ops else #[]
  | .seq x y => regOps id x ++ regOps id y
  | .cond _ x y => regOps id x ++ regOps id y
  | .block _ b => regOps id b
  | .loop b => regOps id b
  | _ => #[]
set_option maxHeartbeats 1000000 in
theorem s98 (l : List Rw) (hl : l.length ≤ 100000) (u : Int) : SeqA Tryz.prog 98 [.rptr [WS l] 0, .rptr [I u] 0] (upX l u) := by
  refine seqA_of (N := 32) Tryz.func98 rfl (by kernel_rfl) rfl rfl (by show 3 ≤ 32; decide) fun X w a yl Nb J Jx hsz hdf hy0 hus hJN hJ hJx hK hY h0 => ?_
  have hb1 : VR w X K0 (.rptr [WS l] 0) (a.tmps.getD 1 undef) := hus 0 _ rfl
  have hb2 : VR w X K0 (.rptr [I u] 0) (a.tmps.getD 2 undef) := hus 1 _ rfl
  have f1 : ∀ {k : Nat} {W : World} {a' : Act}, J k W → a'.tmps.getD 1 undef = a.tmps.getD 1 undef → VR W X K0 (.rptr [WS l] 0) (a'.tmps.getD 1 undef) := by
    intro k W a' hj e; rw [e]; exact hb1.keep (hK k W hj).1 (fun _ _ h => h) (fun _ _ => rfl)
  refine wpIn_seq (code_hold (N := 32) (ks := [0, 1, 2, 4, 9, 31]) (gs := []) (wk := []) (ws := [4, 5, 6, 7]) (X := X) tabOK tabOne mixed (fr := [(1, .rptr [WS l] 0), (2, .rptr [I u] 0)]) (Q := fun e c => e = .normal ∧ lk c.fr 4 = I (upI l u 0)) rfl rfl ?_ hsz hdf (hK 0 w h0).2 (.cons hb1 (.cons hb2 .nil)) ?_)
  · exact ⟨_, c53 l (by omega) u, rfl, rfl⟩
  rintro e c a1 w1 ⟨rfl, h4⟩ hsz1 hdf1 hbl hsm hv
  have hj0 : J 0 w1 := hJ 0 w w1 h0 hbl
  have v4 := hv 4 _ h4 rfl
  have e4 := VR.int_eq v4
  have y1 : a1.tmps.getD 0 undef = .func (.yield yl) #[] #[] := (hsm 0 rfl).trans hy0
  have k1 := hsm 1 rfl
  show Code.wpIn _ _ _ _ _ a1 w1
  refine wpIn_block (wpIn_loop_ghost (fun n a' W => ∃ k, n = Nb - k ∧ J k W ∧ a'.tmps.size = 32 ∧ a'.defers = [] ∧ a'.tmps.getD 0 undef = .func (.yield yl) #[] #[] ∧ a'.tmps.getD 1 undef = a.tmps.getD 1 undef ∧ a'.tmps.getD 4 undef = .int .i64 (upI l u k)) (Nb - 0) ⟨0, rfl, hj0, hsz1, hdf1, y1, k1, e4⟩ ?_)
  rintro n a2 w2 ⟨k, rfl, hj, hsz2, hdf2, hy2, k2, e4⟩
  have hkN := hJN k w2 hj
  refine wpIn_seq (wpIn_seq (code_hold (N := 32) (ks := [0, 1, 2, 4, 9, 31]) (gs := []) (wk := []) (ws := [8, 9]) (X := X) tabOK tabOne mixed (fr := [(4, I (upI l u k))]) (Q := fun e c => e = .normal ∧ lk c.fr 9 = B (decide (upI l u k ≥ 0))) rfl rfl ?_ hsz2 hdf2 (hK k w2 hj).2 (.cons (by rw [e4]; exact .int) .nil) ?_))
  · exact ⟨rfl, rfl⟩
  rintro e c a3 w3 ⟨rfl, h9⟩ hsz3 hdf3 hbl3 hsm3 hv3
  have hj3 : J k w3 := hJ k w2 w3 hj hbl3
  have e9 := VR.bool_eq (hv3 9 _ h9 rfl)
  have e43 : a3.tmps.getD 4 undef = .int .i64 (upI l u k) := (hsm3 4 rfl).trans e4
  have y3 := (hsm3 0 rfl).trans hy2
  have k3 := (hsm3 1 rfl).trans k2
  show Code.wpIn _ _ _ _ _ a3 w3
  refine wpIn_cond_split (t := decide (upI l u k ≥ 0)) e9 (fun hge => wpIn_skip ?_) (fun hlt => wpIn_exit ?_)
  case _ =>
    have hge : upI l u k ≥ 0 := by simpa using hge
    obtain ⟨i, r, hi, hr⟩ : ∃ (i : Nat) (r : Rw), upI l u k = i ∧ l[i]? = some r := by
      rcases upI_cases l u k with h | h
      · omega
      · exact h
    have hil := (List.getElem?_eq_some_iff.1 hr).1
    have hx : upX l u k = some (.agg (encW r)) := by
      unfold upX upR; rw [if_neg (by omega), hi, Int.toNat_natCast, hr]; rfl
    have hrow : (l.map encW)[(upI l u k).toNat]? = some (encW r) := by rw [hi, Int.toNat_natCast, List.getElem?_map, hr]; rfl
    have hnext := upI_next hi hr
    have hst : ∀ (n : Nat) (ops : Array Oper) j, j < (ops.toList.take n).length → (ops.toList.take n)[j]? = ops[0 + j]? := fun n ops j hj => by rw [List.getElem?_take_of_lt (by simp at hj; omega)]; simp
    show Code.wpIn _ _ _ _ _ a3 w3
    refine wpIn_seq (wpIn_block (wpIn_seq (wpIn_region ?_)))
    change wpOpsIn (FrW none) 0 _ _ _ (List.range' 0 5 ++ (5 :: (List.range' 6 9 ++ []))) a3 w3
    refine ops_hold (N := 32) (ws := [17, 18, 19, 20, 21, 22, 23, 24, 25, 26, 27, 28, 29, 30, 31]) (X := X) (dm := []) (A := ⟨⟨[], []⟩, [], []⟩) (l := (regOps 3 (body Tryz.f98)).toList.take 5) (fr := [(0, .lit (.func (.yield yl) #[] #[])), (1, .rptr [WS l] 0), (4, I (upI l u k))])
      (Kk := fun c => lk c.fr 17 = .lit (.func (.yield yl) #[] #[]) ∧ lk c.fr 21 = .agg (encW r)) tabOK tabOne ?_ rfl rfl ?_ hsz3 hdf3 (hK k w3 hj3).2 (.cons (by rw [y3]; exact .lit) (.cons (f1 hj3 k3) (.cons (by rw [e43]; exact .int) .nil))) ?_
    · exact hst 5 _
    · exact ⟨⟨by omega, by omega⟩, encW r, hrow, rfl, rfl⟩
    rintro c a4 w4 ⟨h17, h21⟩ hsz4 hdf4 hbl4 hsm4 hv4 hl4
    have hj4 : J k w4 := hJ k w3 w4 hj3 hbl4
    have e17 := hl4 17 _ h17
    rw [wpOpsIn_cons]
    refine op_yield (f := .tmp 17) (x := .tmp 21) (v := a4.tmps.getD 21 undef) rfl rfl rfl e17 rfl (hY k _ w4 _ hj4 hx (hv4 21 _ h21 rfl)) ?_
    have hsl : ∀ (n : Nat) (ops : Array Oper) j, j < (ops.toList.drop n).length → (ops.toList.drop n)[j]? = ops[n + j]? := fun n ops j _ => by rw [List.getElem?_drop]; simp
    rintro e w5 (⟨rfl, hj5⟩ | ⟨rfl, hx5⟩)
    · refine ⟨_, rfl, ?_⟩
      show wpOpsIn _ _ _ _ _ _ (a4.put (some 22) (.bool true)) w5
      have hsz5 : (a4.put (some 22) (.bool true)).tmps.size = 32 := by show (a4.tmps.setIfInBounds 22 _).size = 32; simp [hsz4]
      have hpt : ∀ t, t ≠ 22 → (a4.put (some 22) (.bool true)).tmps.getD t undef = a4.tmps.getD t undef := fun t ht => by
        show (a4.tmps.setIfInBounds 22 _).getD t undef = _
        rw [Array.getD_eq_getD_getElem?, Array.getD_eq_getD_getElem?, Array.getElem?_setIfInBounds_ne (Ne.symm ht)]
      have h22 : (a4.put (some 22) (.bool true)).tmps.getD 22 undef = .bool true := by
        show (a4.tmps.setIfInBounds 22 _).getD 22 undef = _
        rw [Array.getD_eq_getD_getElem?, Array.getElem?_setIfInBounds_self_of_lt (by omega)]; rfl
      have k4 := (hsm4 1 rfl).trans k3
      have e44 : a4.tmps.getD 4 undef = .int .i64 (upI l u k) := (hsm4 4 rfl).trans e43
      have y4 := (hsm4 0 rfl).trans y3
      refine ops_hold (N := 32) (ws := [17, 18, 19, 20, 21, 22, 23, 24, 25, 26, 27, 28, 29, 30, 31]) (X := X) (dm := [(7, false)]) (A := ⟨⟨[], []⟩, [], []⟩) (l := (regOps 3 (body Tryz.f98)).toList.drop 6) (fr := [(22, B true), (1, .rptr [WS l] 0), (4, I (upI l u k))])
        (Kk := fun c => lk c.fr 31 = B (r.parent == 0)) tabOK tabOne (hsl 6 _) rfl rfl ?_ hsz5 hdf4 (hK _ w5 hj5).2 (.cons (by rw [h22]; exact .bool) (.cons (f1 hj5 ((hpt 1 (by decide)).trans k4)) (.cons (by rw [hpt 4 (by decide), e44]; exact .int) .nil))) ?_
      · exact ⟨rfl, ⟨by omega, by omega⟩, encW r, hrow, rfl⟩
      rintro c a6 w6 h31 hsz6 hdf6 hbl6 hsm6 hv6 _
      have hj6 : J (k + 1) w6 := hJ _ w5 w6 hj5 hbl6
      have e31 := VR.bool_eq (hv6 31 _ h31 rfl)
      have k6 := (hsm6 1 rfl).trans ((hpt 1 (by decide)).trans k4)
      have y6 := (hsm6 0 rfl).trans ((hpt 0 (by decide)).trans y4)
      have e46 : a6.tmps.getD 4 undef = .int .i64 (upI l u k) := (hsm6 4 rfl).trans ((hpt 4 (by decide)).trans e44)
      show Code.wpIn _ _ _ _ _ a6 w6
      refine wpIn_cond_split (t := (r.parent == 0)) e31 (fun h0 => wpIn_ret ?_) (fun h0 => wpIn_skip ?_)
      · have h0 : r.parent = 0 := by simpa using h0
        refine ⟨.inr rfl, hdf6, .inl ⟨k + 1, ?_, hj6⟩⟩
        unfold upX upR; rw [hnext, if_pos h0, if_pos (by decide)]; rfl
      · have h0 : r.parent ≠ 0 := by simpa using h0
        rw [if_neg h0] at hnext
        have hkN6 := hJN _ w6 hj6
        show Code.wpIn _ _ _ _ _ a6 w6
        refine code_hold (N := 32) (ks := [0, 1, 2, 4, 9, 31]) (gs := []) (wk := []) (ws := [10, 11, 12, 13, 14, 15, 16, 4]) (X := X) tabOK tabOne mixed (fr := [(1, .rptr [WS l] 0), (4, I (upI l u k))]) (Q := fun e c => e = .normal ∧ lk c.fr 4 = I (upI l u (k + 1))) rfl rfl ?_ hsz6 hdf6 (hK _ w6 hj6).2 (.cons (f1 hj6 k6) (.cons (by rw [e46]; exact .int) .nil)) ?_
        · rw [hnext]
          exact ⟨⟨by omega, by omega⟩, encW r, hrow, _, c53 l (by omega) r.parent, rfl, rfl⟩
        rintro e c a7 w7 ⟨rfl, h4⟩ hsz7 hdf7 hbl7 hsm7 hv7
        exact ⟨Nb - (k + 1), by omega, k + 1, rfl, hJ _ w6 w7 hj6 hbl7, hsz7, hdf7, (hsm7 0 rfl).trans y6, (hsm7 1 rfl).trans k6, VR.int_eq (hv7 4 _ h4 rfl)⟩
    · refine ⟨_, rfl, ?_⟩
      show wpOpsIn _ _ _ _ _ _ (a4.put (some 22) (.bool false)) w5
      have hsz5 : (a4.put (some 22) (.bool false)).tmps.size = 32 := by show (a4.tmps.setIfInBounds 22 _).size = 32; simp [hsz4]
      have h22 : (a4.put (some 22) (.bool false)).tmps.getD 22 undef = .bool false := by
        show (a4.tmps.setIfInBounds 22 _).getD 22 undef = _
        rw [Array.getD_eq_getD_getElem?, Array.getElem?_setIfInBounds_self_of_lt (by omega)]; rfl
      refine ops_hold (N := 32) (ws := [17, 18, 19, 20, 21, 22, 23, 24, 25, 26, 27, 28, 29, 30, 31]) (X := X) (dm := [(7, true)]) (A := ⟨⟨[], []⟩, [], []⟩) (l := (regOps 3 (body Tryz.f98)).toList.drop 6) (fr := [(22, B false)])
        (Kk := fun c => lk c.fr 31 = B true) tabOK tabOne (hsl 6 _) rfl rfl ⟨rfl, rfl⟩ hsz5 hdf4 trivial (.cons (by rw [h22]; exact .bool) .nil) ?_
      rintro c a6 w6 h31 hsz6 hdf6 hbl6 hsm6 hv6 _
      have e31 := VR.bool_eq (hv6 31 _ h31 rfl)
      show Code.wpIn _ _ _ _ _ a6 w6
      refine wpIn_cond_split (t := true) e31 (fun h0 => wpIn_ret ?_) (fun h0 => by cases h0)
      exact ⟨.inr rfl, hdf6, .inr (hJx _ _ hx5 hbl6)⟩
  case _ =>
    have hlt : upI l u k < 0 := by simpa using hlt
    refine ⟨.inl rfl, hdf3, .inl ⟨k, ?_, hj3⟩⟩
    unfold upX upR; rw [if_pos hlt]; rfl
end Go.Abs.Ltop
end
section
namespace Go.Abs.Ltop
open Go Go.Abs Go.Proofs
set_option linter.unusedVariables false
set_option maxRecDepth 20000
theorem upX_get {l : List Rw} {u : Int} {k : Nat} {x : AV} (h : upX l u k = some x) : ∃ r, upR l u k = some r ∧ x = .agg (encW r) := by
  unfold upX at h
  cases hr : upR l u k with
  | none => rw [hr] at h; cases h
  | some r => rw [hr] at h; cases h; exact ⟨r, rfl, rfl⟩
theorem upI_neg {l : List Rw} {u : Int} {k : Nat} (h : upI l u k < 0) : ∀ m, k ≤ m → upI l u m = -1 := by
  intro m hm
  induction hm with
  | refl => rcases upI_cases l u k with h1 | ⟨i, r, h1, _⟩; exact h1; omega
  | step hm ih =>
    simp only [upI]
    split
    · rw [if_pos (.inl (by rw [ih]; decide))]
    · rfl
theorem upX_none {l : List Rw} {u : Int} {k m : Nat} (h : upX l u k = none) (hm : k ≤ m) : upX l u m = none := by
  have hk : upI l u k < 0 := by
    unfold upX upR at h
    split at h
    · assumption
    · rcases upI_cases l u k with h1 | ⟨i, r, h1, h2⟩
      · rw [h1]; decide
      · rw [h1, Int.toNat_natCast, h2] at h; cases h
  unfold upX upR
  rw [upI_neg hk m hm, if_pos (by decide)]; rfl
/-! ### rows -/
def badR (r : Rw) : Bool := !isId r.unit || decide (r.parent < 0) || decide (r.parent > 1073741824) || decide (r.acc < 0) || decide (r.acc > 1073741824)
def rowsGo (prev : Option Int) : List Rw → Int
  | [] => 0
  | r :: l => if badR r = true then 2 else if (match prev with | some p => decide (r.unit ≤ p) | none => false) = true then 5 else rowsGo (some r.unit) l
def lostR (l : List Rw) (r : Rw) : Bool := decide (r.parent ≠ 0) && decide (rwI l r.parent < 0)
def longR (l : List Rw) (r : Rw) : Bool := (upX l r.unit l.length).isSome
def rowsE (l : List Rw) : Int := if 256 < l.length then 8 else if rowsGo none l ≠ 0 then rowsGo none l else if l.any (lostR l) = true then 7 else if l.any (longR l) = true then 17 else 0
abbrev OW (l : List Rw) (e : Int) : List (Nat × OBlk) := [(16, ⟨70, 1, .any, [[WS l]], []⟩), (32, ⟨43, 1, .any, [[I e]], []⟩)]
theorem c27r (l : List Rw) (hl : l.length ≤ 100000) : Fn Tryz.prog 27 [WS l] (I (rowsE l)) := by
  refine mkH27 [] [] rfl ⟨rfl, rfl, fun h => ?_, fun h => ?_⟩
  · have h : (256 : Int) < l.length := of_decide_eq_true h
    rw [rowsE, if_pos (by omega)]
    exact ⟨rfl, _, WkP.refl _ _, rfl, rfl, rfl⟩
  · have h : ¬ (256 : Int) < l.length := of_decide_eq_false h
    rw [rowsE, if_neg (by omega)]
    refine ⟨rfl, ?_⟩
    refine ⟨fun n c => ∃ (i : Nat) (prev : Option Int), i ≤ l.length ∧ n = l.length - i ∧ (∀ j, i = j + 1 → ∃ s, l[j]? = some s ∧ prev = some s.unit) ∧ (i = 0 → prev = none) ∧ rowsGo prev (l.drop i) = rowsGo none l ∧ c = ⟨[(1, .ovar 16 0), (2, .ovar 32 0), (13, WS l), (14, I l.length), (15, I i)], OW l 0⟩,
      ⟨_, _, WkP.keep [1, 2, 13, 14, 15] [16, 32], 0, none, by omega, rfl, fun j h => (by omega), fun _ => rfl, by simp, rfl⟩, ?_⟩
    rintro n c ⟨i, prev, hi, rfl, hp1, hp0, hI, rfl⟩
    refine ⟨rfl, fun hlt => ?_, fun hlt => ?_⟩
    · simp at hlt
      obtain ⟨r, hr, hd, _⟩ := drop_cons hlt
      rw [hd] at hI
      simp only [rowsGo] at hI
      refine ⟨rfl, ⟨by omega, by omega⟩, encW r, by simp [hr], rfl, [], _, c52 r.unit, fun hb => ?_, fun hb => ?_⟩
      · have hb : badR r = true := hb
        rw [if_pos hb] at hI
        rw [if_pos (by rw [← hI]; decide), ← hI]
        exact ⟨rfl, _, WkP.refl _ _, rfl, rfl, rfl⟩
      · have hb : badR r = false := hb
        rw [if_neg (by simp [hb])] at hI
        cases i with
        | zero =>
          have := hp0 rfl
          subst this
          rw [if_neg (by simp)] at hI
          refine ⟨rfl, [(2, false)], rfl, fun h => (by cases h), fun _ => ⟨rfl, _, wrap64 (by omega) (by omega), ?_⟩⟩
          exact ⟨_, _, WkP.keep [1, 2, 13, 14, 15] [16, 32], by omega, 1, some r.unit, by omega, rfl, fun k h => ⟨r, by rw [show k = 0 by omega]; exact hr, rfl⟩, fun h => (by cases h), hI, rfl⟩
        | succ i =>
          obtain ⟨q, hq, rfl⟩ := hp1 i rfl
          refine ⟨rfl, [(2, true)], by simp, _, wrapTo (y := ((i : Nat) : Int)) (by omega) (by omega) (by omega), ⟨by omega, by omega⟩, encW q, by simp [hq], fun hle => ?_, fun hle => ?_⟩
          · have hle : decide (r.unit ≤ q.unit) = true := hle
            simp only at hI
            rw [if_pos hle] at hI
            rw [if_pos (by rw [← hI]; decide), ← hI]
            exact ⟨rfl, _, WkP.refl _ _, rfl, rfl, rfl⟩
          · have hle : decide (r.unit ≤ q.unit) = false := hle
            simp only at hI
            rw [if_neg (by rw [hle]; simp)] at hI
            refine ⟨rfl, _, wrap64 (by omega) (by omega), ?_⟩
            exact ⟨_, _, WkP.keep [1, 2, 13, 14, 15] [16, 32], by omega, i + 1 + 1, some r.unit, by omega, rfl, fun k h => ⟨r, by rw [show k = i + 1 by omega]; exact hr, rfl⟩, fun h => (by cases h), hI, rfl⟩
    · simp at hlt
      have : i = l.length := by omega
      subst this
      simp only [List.drop_length, rowsGo] at hI
      rw [if_neg (by rw [← hI]; decide)]
      refine ⟨rfl, ?_⟩
      refine ⟨fun n c => ∃ (i : Nat), i ≤ l.length ∧ n = l.length - i ∧ (∀ r ∈ l.take i, lostR l r = false) ∧ c = ⟨[(1, .ovar 16 0), (2, .ovar 32 0), (60, WS l), (61, I l.length), (62, I i)], OW l 0⟩,
        ⟨_, _, WkP.keep [1, 2, 60, 61, 62] [16, 32], 0, by omega, rfl, by simp, rfl⟩, ?_⟩
      rintro n c ⟨i, hi, rfl, hI2, rfl⟩
      refine ⟨rfl, fun hlt => ?_, fun hlt => ?_⟩
      · simp at hlt
        obtain ⟨r, hr, hd, ht⟩ := drop_cons hlt
        have hst : lostR l r = false → ∀ r ∈ l.take (i + 1), lostR l r = false := fun h x hx => by
          rw [ht] at hx
          rcases List.mem_append.1 hx with hx | hx
          · exact hI2 x hx
          · rw [List.mem_singleton.1 hx]; exact h
        have hyes : lostR l r = true → l.any (lostR l) = true := fun h => List.any_eq_true.2 ⟨r, List.mem_of_getElem? hr, h⟩
        refine ⟨rfl, ⟨by omega, by omega⟩, encW r, by simp [hr], rfl, ?_⟩
        by_cases hp : r.parent = 0
        · have hlo : lostR l r = false := by unfold lostR; simp [hp]
          refine ⟨[(3, false)], by simp [hp], fun h => (by cases h), fun _ => ⟨rfl, _, wrap64 (by omega) (by omega), ?_⟩⟩
          exact ⟨_, _, WkP.keep [1, 2, 60, 61, 62] [16, 32], by omega, i + 1, by omega, rfl, hst hlo, rfl⟩
        · refine ⟨[(3, true)], by simp [hp], _, c53 l (by omega) r.parent, fun hb => ?_, fun hb => ?_⟩
          · have hb : decide (rwI l r.parent < 0) = true := hb
            rw [if_pos (hyes (by unfold lostR; rw [hb]; simp [hp]))]
            exact ⟨rfl, _, WkP.refl _ _, rfl, rfl, rfl⟩
          · have hb : decide (rwI l r.parent < 0) = false := hb
            refine ⟨rfl, _, wrap64 (by omega) (by omega), ?_⟩
            exact ⟨_, _, WkP.keep [1, 2, 60, 61, 62] [16, 32], by omega, i + 1, by omega, rfl, hst (by unfold lostR; rw [hb]; simp), rfl⟩
      · simp at hlt
        have : i = l.length := by omega
        subst this
        rw [List.take_length] at hI2
        rw [if_neg (by intro h; obtain ⟨r, h1, h2⟩ := List.any_eq_true.1 h; rw [hI2 r h1] at h2; cases h2)]
        refine ⟨rfl, ?_⟩
        refine ⟨fun n c => ∃ (i : Nat), i ≤ l.length ∧ n = l.length - i ∧ (∀ r ∈ l.take i, longR l r = false) ∧ c = ⟨[(1, .ovar 16 0), (2, .ovar 32 0), (77, WS l), (78, I l.length), (79, I i)], OW l 0⟩,
          ⟨_, _, WkP.keep [1, 2, 77, 78, 79] [16, 32], 0, by omega, rfl, by simp, rfl⟩, ?_⟩
        rintro n c ⟨i, hi, rfl, hI3, rfl⟩
        refine ⟨rfl, fun hlt => ?_, fun hlt => ?_⟩
        · simp at hlt
          obtain ⟨r, hr, hd, ht⟩ := drop_cons hlt
          refine ⟨rfl, ⟨by omega, by omega⟩, encW r, by simp [hr], rfl, rfl, _, c54 l r.unit, ?_⟩
          refine ⟨rfl, upX l r.unit, s98 l hl r.unit, fun i x h => upX_plain i x h,
            fun k O => k ≤ l.length ∧ O = [(16, ⟨70, 1, .any, [[WS l]], []⟩), (32, ⟨43, 1, .any, [[I 0]], []⟩), (128, ⟨69, 3, .any, [encW r], []⟩), (144, ⟨3, 1, .any, [[I k]], []⟩)],
            fun e O => e = .ret ∧ longR l r = true ∧ O = [(16, ⟨70, 1, .any, [[WS l]], []⟩), (32, ⟨43, 1, .any, [[I 17]], []⟩), (128, ⟨69, 3, .any, [encW r], []⟩), (144, ⟨3, 1, .any, [[I (l.length + 1 : Nat)]], []⟩)],
            l.length + 1, ⟨by omega, rfl⟩, fun k O h => by have := h.1; omega, ?_, ?_, ?_⟩
          · rintro k x O hx ⟨hk, rfl⟩
            obtain ⟨r', hr', rfl⟩ := upX_get hx
            refine ⟨rfl, ((k + 1 : Nat) : Int), wrapTo (by omega) (by omega) (by omega), fun hgt => ?_, fun hgt => ?_⟩
            · have hgt : decide (((k + 1 : Nat) : Int) > l.length) = true := hgt
              have : k = l.length := by have := of_decide_eq_true hgt; omega
              subst this
              refine ⟨_, WkP.keep [1, 2, 8, 9, 77, 78, 79, 80, 86] [16, 32, 128, 144], rfl, by unfold longR upX; rw [hr']; rfl, rfl⟩
            · have hgt : decide (((k + 1 : Nat) : Int) > l.length) = false := hgt
              have := of_decide_eq_false hgt
              exact ⟨_, WkP.keep [1, 2, 8, 9, 77, 78, 79, 80, 86] [16, 32, 128, 144], by omega, rfl⟩
          · rintro k O hx ⟨hk, rfl⟩
            refine ⟨rfl, _, wrap64 (by omega) (by omega), ?_⟩
            refine ⟨_, _, WkP.keep [1, 2, 77, 78, 79] [16, 32], by omega, i + 1, by omega, rfl, fun x hx' => ?_, rfl⟩
            rw [ht] at hx'
            rcases List.mem_append.1 hx' with hx' | hx'
            · exact hI3 x hx'
            · rw [List.mem_singleton.1 hx']
              unfold longR
              rw [upX_none hx hk]; rfl
          · rintro e O hne ⟨rfl, hlo, rfl⟩
            rw [if_pos (List.any_eq_true.2 ⟨r, List.mem_of_getElem? hr, hlo⟩)]
            exact ⟨_, WkP.refl _ _, rfl, rfl, rfl⟩
        · simp at hlt
          have : i = l.length := by omega
          subst this
          rw [List.take_length] at hI3
          rw [if_neg (by intro h; obtain ⟨r, h1, h2⟩ := List.any_eq_true.1 h; rw [hI3 r h1] at h2; cases h2)]
          exact ⟨rfl, _, WkP.refl _ _, rfl, rfl, rfl⟩
end Go.Abs.Ltop
end
section
namespace Go.Abs.Ltop
open Go Go.Abs Go.Proofs
set_option linter.unusedVariables false
set_option maxRecDepth 20000
/-! ### the path of a unit, as a list -/
def pathU (l : List Rw) (u : Int) : Nat → List Int
  | 0 => []
  | k + 1 => pathU l u k ++ [((upR l u k).map (·.unit)).getD 0]
theorem pathU_len (l : List Rw) (u : Int) : ∀ k, (pathU l u k).length = k
  | 0 => rfl
  | k + 1 => by simp [pathU, pathU_len l u k]
def OP (l : List Int) : List (Nat × OBlk) := match l with
  | [] => [(80, ⟨24, 1, .any, [[.nilsl]], []⟩)]
  | l => [(80, ⟨24, 1, .any, [[.osl 240 1 l.length]], []⟩), (240, ⟨3, 1, .pure, l.map fun n => [I n], []⟩)]
theorem c74 (l : List Rw) (hl : l.length ≤ 100000) (u : Int) (n : Nat) (hn : n ≤ 100000) (hnone : upX l u n = none) (hsome : ∀ k, k < n → upX l u k ≠ none) : Fn Tryz.prog 74 [WS l, I u] (fNS (pathU l u n)) := by
  refine mkH74 [] [] rfl ⟨rfl, rfl, rfl, _, c54 l u, rfl, upX l u, s98 l hl u, fun i x h => upX_plain i x h,
    fun k O => k ≤ n ∧ O = OP (pathU l u k), fun e O => False, n + 1, ⟨by omega, rfl⟩, fun k O h => by have := h.1; omega, ?_, ?_, ?_⟩
  · rintro k x O hx ⟨hk, rfl⟩
    obtain ⟨r, hr, rfl⟩ := upX_get hx
    have hlt : k < n := by
      rcases Nat.lt_or_ge k n with h | h
      · exact h
      · have : k = n := by omega
        subst this; rw [hx] at hnone; cases hnone
    have hlen := pathU_len l u k
    have he : pathU l u (k + 1) = pathU l u k ++ [r.unit] := by simp [pathU, hr]
    cases hp : pathU l u k with
    | nil =>
      refine ⟨rfl, ⟨by decide, by decide⟩, true, sc1 [r.unit], ?_⟩
      exact ⟨_, WkP.keep [0, 1, 4, 5, 9] [80, 240], by omega, by rw [he, hp]; rfl⟩
    | cons y ys =>
      rw [hp] at hlen
      simp only [List.length_cons] at hlen
      refine ⟨rfl, ⟨by show (ys.length + 1 + 1) * 8 ≤ 140737488355328; omega, by show ys.length + 1 + 1 ≤ _; omega⟩, sc1 [r.unit], ?_⟩
      refine ⟨_, WkP.keep [0, 1, 4, 5, 9] [80, 240], by omega, by
        rw [he, hp]
        exact list_eq2 (ent_eq rfl rfl rfl (show [[AV.osl 240 1 ((y :: ys).length + 1)]] = [[AV.osl 240 1 (y :: (ys ++ [r.unit])).length]] by simp) rfl) (ent_eq rfl rfl rfl (show ((y :: ys).map fun n => [I n]).take (y :: ys).length ++ [[I r.unit]] = (y :: (ys ++ [r.unit])).map fun n => [I n] by rw [List.take_of_length_le (by simp)]; simp) rfl)⟩
  · rintro k O hx ⟨hk, rfl⟩
    have : k = n := by
      rcases Nat.lt_or_ge k n with h | h
      · exact absurd hx (hsome k h)
      · omega
    subst this
    cases hp : pathU l u k with
    | nil => exact ⟨rfl, _, WkP.refl _ _, rfl, .inr ⟨_, _, _, rfl⟩⟩
    | cons y ys => exact ⟨rfl, _, WkP.refl _ _, rfl, ⟨_, rfl, rfl, by simp, .inl ⟨rfl, rfl⟩⟩⟩
  · rintro e O hne h
    exact h.elim
end Go.Abs.Ltop
end
section
namespace Go.Abs.Ltop
open Go Go.Abs Go.Proofs
set_option linter.unusedVariables false
set_option maxRecDepth 20000
/-! ### access under a policy that holds nothing -/
theorem c251z (g : FuncId) (xs : List AV) : Fn Tryz.prog 251 [Zs 5, .func g [.rptr xs 0]] (I (-1)) := by
  refine mk251 rfl ?_
  (refine once _ (Wk.refl _) ⟨fun h => absurd h (by decide), fun _ => ?_⟩)
  exact ⟨rfl, rfl, rfl⟩
abbrev zSub : AV := .agg [I 0, I 0, I 0, I 0, .nilsl]
theorem c163z (yr n : Int) : Fn Tryz.prog 163 [.agg (polL yr), I n] (.tup [zSub, B false]) :=
  mk163 rfl ⟨_, c251z 252 [I n], fun _ => ⟨_, _, rfl, ⟨rfl, rfl⟩, rfl, rfl, trivial⟩, fun h => by cases h⟩
theorem c247z (g : FuncId) (xs ys : List AV) : Fn Tryz.prog 247 [Zs 6, .func g [.rptr xs 0, .rptr ys 0]] (I (-1)) := by
  refine mk247 rfl ?_
  (refine once _ (Wk.refl _) ⟨fun h => absurd h (by decide), fun _ => ?_⟩)
  exact ⟨rfl, rfl, rfl⟩
abbrev zRule : AV := .agg [I 0, I 0, I 0, B false, I 0, I 0]
theorem c253z (n d : Int) : Fn Tryz.prog 253 [Zs 6, I n, I d] (.tup [zRule, B false]) :=
  mk253 rfl ⟨_, c247z 310 [I n] [I d], [(2, true)], rfl, fun _ => ⟨_, _, rfl, ⟨rfl, rfl⟩, rfl, rfl, trivial⟩, fun h => by cases h⟩
abbrev zGr : AV := .agg [I 0, I 0, I 0, I 0]
theorem c164z (n a b d : Int) : Fn Tryz.prog 164 [Zs 6, I n, .agg [I a, I b], I d] (.tup [zGr, B false]) :=
  mk164 rfl ⟨_, c253z n d, [(2, true), (7, true)], rfl, rfl, fun _ => ⟨_, _, rfl, ⟨rfl, rfl⟩, rfl, rfl, trivial⟩, fun h => by cases h⟩
theorem c162z (yr d : Int) (r : Rw) : Fn Tryz.prog 162 [.agg (polL yr), .agg (encW r), I d] .nilsl :=
  mk162 rfl ⟨_, c163z yr r.unit, _, c164z 0 0 0 d, [(1, false)], rfl, fun h => (by cases h), fun _ => ⟨rfl, .inl rfl⟩⟩
theorem c158z : Fn Tryz.prog 158 [.agg [I 0, I 0]] (I 0) := mk158 rfl ⟨[], fun h => (by cases h), fun _ => ⟨rfl, rfl, rfl⟩⟩
theorem c168z (yr d : Int) (h0 : 0 ≤ yr) (h1 : yr ≤ 200) (h2 : 0 ≤ d) (h3 : d ≤ 1048575) : Fn Tryz.prog 168 [Zs 6, .nilsl, .agg [I 0, I 0], I yr, I d] (.tup [.nilsl, I 0]) := by
  refine mk168 rfl ⟨[(3, false)], _, c103, rfl, _, c158z, fun h => (by cases h), fun _ => ⟨[], fun h => ?_, fun _ => ?_⟩⟩
  · simp at h; omega
  · (refine once _ (Wk.refl _) ⟨fun h => absurd h (by decide), fun _ => ?_⟩)
    (refine once _ (Wk.refl _) ⟨fun h => absurd h (by decide), fun _ => ?_⟩)
    exact ⟨_, _, rfl, .inl rfl, rfl, rfl, trivial⟩
theorem c167z (yr d : Int) (r : Rw) (h0 : 0 ≤ yr) (h1 : yr ≤ 200) (h2 : 0 ≤ d) (h3 : d ≤ 1048575) : Fn Tryz.prog 167 [.agg (polL yr), .agg (encW r), I d] .nilsl :=
  mk167 rfl ⟨_, c163z yr r.unit, _, c168z yr d h0 h1 h2 h3, rfl, .inl rfl⟩
theorem c170z (yr d : Int) (r : Rw) (h : r.acc = 0) : Fn Tryz.prog 170 [.agg (polL yr), .agg (encW r), I d] .nilsl := by
  refine mk170 rfl ⟨fun _ => ⟨rfl, .inl rfl⟩, fun h' => ?_⟩
  rw [h] at h'; cases h'
abbrev srcL : List (List AV) := [[.func 162 [], .func 165 []], [.func 167 [], .func 169 []], [.func 170 [], .func 172 []]]
theorem c107 : Fn Tryz.prog 107 [] (.rsl 2 3 srcL) := mk107 rfl ⟨rfl, rfl, rfl⟩
theorem c75z (yr d : Int) (h0 : 0 ≤ yr) (h1 : yr ≤ 200) (h2 : 0 ≤ d) (h3 : d ≤ 1048575) (l : List Rw) (hl : l.length ≤ 100000) (u : Int) (n : Nat) (hnone : upX l u n = none) (hsome : ∀ k, k < n → upX l u k ≠ none) (hacc : ∀ k r, upR l u k = some r → r.acc = 0) :
    Fn Tryz.prog 75 [WS l, .agg (polL yr), I u, I d] .nilsl := by
  refine mkH75 [] [] rfl ⟨rfl, rfl, rfl, _, c54 l u, rfl, upX l u, s98 l hl u, fun i x h => upX_plain i x h,
    fun k O => k ≤ n ∧ O = [(80, ⟨34, 6, .any, [polL yr], []⟩), (112, ⟨3, 1, .any, [[I d]], []⟩), (144, ⟨186, 1, .any, [[.nilsl]], []⟩)], fun e O => False, n + 1, ⟨by omega, rfl⟩, fun k O h => by have := h.1; omega, ?_, ?_, ?_⟩
  · rintro k x O hx ⟨hk, rfl⟩
    obtain ⟨r, hr, rfl⟩ := upX_get hx
    have hlt : k < n := by
      rcases Nat.lt_or_ge k n with h | h
      · exact h
      · have : k = n := by omega
        subst this; rw [hx] at hnone; cases hnone
    refine ⟨rfl, _, c107, ?_⟩
    refine ⟨fun m c => ∃ i : Nat, i ≤ 3 ∧ m = 3 - i ∧ c = ⟨[(2, I u), (5, .ovar 80 0), (7, .ovar 112 0), (9, .ovar 144 0), (10, .ovar 160 0), (17, .func 98 [.rptr [WS l] 0, .rptr [I u] 0]), (0, WS l), (8, .nilsl), (19, .rsl 2 3 srcL), (20, I 3), (21, I i)], [(80, ⟨34, 6, .any, [polL yr], []⟩), (112, ⟨3, 1, .any, [[I d]], []⟩), (144, ⟨186, 1, .any, [[.nilsl]], []⟩), (160, ⟨69, 3, .any, [encW r], []⟩)]⟩,
      ⟨_, _, WkP.keep [2, 5, 7, 9, 10, 17, 0, 8, 19, 20, 21] [80, 112, 144, 160], 0, by omega, rfl, rfl⟩, ?_⟩
    rintro m c ⟨i, hi, rfl, rfl⟩
    refine ⟨fun hlt => ?_, fun hlt => ?_⟩
    · simp at hlt
      have done : ∀ j : Nat, j < 3 → True := fun _ _ => trivial
      match i, hlt with
      | 0, _ =>
        refine ⟨⟨by decide, by decide⟩, [.func 162 [], .func 165 []], rfl, _, c162z yr d r, ?_⟩
        (refine once _ (WkP.refl _ _) ⟨fun h => absurd h (by decide), fun _ => ?_⟩)
        exact ⟨_, rfl, _, _, WkP.keep [2, 5, 7, 9, 10, 17, 0, 8, 19, 20, 21] [80, 112, 144, 160], by omega, 1, by omega, rfl, rfl⟩
      | 1, _ =>
        refine ⟨⟨by decide, by decide⟩, [.func 167 [], .func 169 []], rfl, _, c167z yr d r h0 h1 h2 h3, ?_⟩
        (refine once _ (WkP.refl _ _) ⟨fun h => absurd h (by decide), fun _ => ?_⟩)
        exact ⟨_, rfl, _, _, WkP.keep [2, 5, 7, 9, 10, 17, 0, 8, 19, 20, 21] [80, 112, 144, 160], by omega, 2, by omega, rfl, rfl⟩
      | 2, _ =>
        refine ⟨⟨by decide, by decide⟩, [.func 170 [], .func 172 []], rfl, _, c170z yr d r (hacc k r hr), ?_⟩
        (refine once _ (WkP.refl _ _) ⟨fun h => absurd h (by decide), fun _ => ?_⟩)
        exact ⟨_, rfl, _, _, WkP.keep [2, 5, 7, 9, 10, 17, 0, 8, 19, 20, 21] [80, 112, 144, 160], by omega, 3, by omega, rfl, rfl⟩
    · simp at hlt
      exact ⟨_, WkP.keep [0, 2, 5, 7, 8, 9, 17] [80, 112, 144], by omega, rfl⟩
  · rintro k O hx ⟨hk, rfl⟩
    exact ⟨rfl, _, WkP.refl _ _, rfl, .inl rfl⟩
  · rintro e O hne h
    exact h.elim
end Go.Abs.Ltop
end
section
namespace Go.Abs.Ltop
open Go Go.Abs Go.Proofs
set_option linter.unusedVariables false
set_option maxRecDepth 20000
theorem c38z (yr d rd : Int) (h0 : 0 ≤ yr) (h1 : yr ≤ 200) (h2 : 0 ≤ d) (h3 : d ≤ 1048575) (l : List Rw) (hl : l.length ≤ 100000) (u : Int) (n : Nat) (hn : n ≤ 100000) (hnone : upX l u n = none) (hsome : ∀ k, k < n → upX l u k ≠ none) (hacc : ∀ k r, upR l u k = some r → r.acc = 0) :
    Fn Tryz.prog 38 [WS l, .agg (polL yr), I rd, I u, I d] (.agg [I rd, I u, I d, B true, .nilsl]) := by
  refine mk38 rfl ⟨_, c74 l hl u n hn hnone hsome, true, _, c75z yr d h0 h1 h2 h3 l hl u n hnone hsome hacc, ?_⟩
  (refine once _ (Wk.refl _) ⟨fun h => absurd h (by decide), fun _ => ?_⟩)
  exact ⟨rfl, rfl, rfl⟩
theorem c37z (yr d rd : Int) (h0 : 0 ≤ yr) (h1 : yr ≤ 200) (h2 : 0 ≤ d) (h3 : d ≤ 1048575) (hrd : isId rd = true) (l : List Rw) (hl : l.length ≤ 100000) (hr : rowsE l = 0) (u : Int) (hu : ¬ rwI l u < 0) :
    Fn Tryz.prog 37 [WS l, .agg (polL yr), I rd, I u, I d] (I 0) := by
  have a27 := c27r l hl
  rw [hr] at a27
  have a52 := c52 rd
  rw [hrd] at a52
  refine mk37 rfl ⟨[(3, false)], _, a27, rfl, _, c73 yr h0 h1, fun h => (by cases h), fun _ => ⟨[], _, a52, fun h => ?_, fun _ => ⟨_, c53 l (by omega) u, fun h => ?_, fun _ => ⟨rfl, rfl, rfl⟩⟩⟩⟩
  · simp at h; omega
  · exact absurd (of_decide_eq_true h) hu
theorem c17z (yr d rd : Int) (h0 : 0 ≤ yr) (h1 : yr ≤ 200) (h2 : 0 ≤ d) (h3 : d ≤ 1048575) (hrd : isId rd = true) (l : List Rw) (hl : l.length ≤ 100000) (hr : rowsE l = 0) (u : Int) (hu : ¬ rwI l u < 0) (n : Nat) (hn : n ≤ 100000) (hnone : upX l u n = none) (hsome : ∀ k, k < n → upX l u k ≠ none) (hacc : ∀ k r, upR l u k = some r → r.acc = 0) :
    Fn Tryz.prog 17 [WS l, .agg (polL yr), I rd, I u, I d] (.tup [.agg [I rd, I u, I d, B true, .nilsl], I 0]) :=
  mk17 rfl ⟨_, c37z yr d rd h0 h1 h2 h3 hrd l hl hr u hu, fun h => (by cases h), fun _ => ⟨_, c38z yr d rd h0 h1 h2 h3 l hl u n hn hnone hsome hacc, _, _, rfl, ⟨rfl, rfl⟩, rfl, rfl, trivial⟩⟩
/-- the example's rows -/
abbrev exW : List Rw := [⟨7, 0, 0⟩]
theorem ex_rows : rowsE exW = 0 := by decide
theorem ex_17 (yr d rd : Int) (h0 : 0 ≤ yr) (h1 : yr ≤ 200) (h2 : 0 ≤ d) (h3 : d ≤ 1048575) (hrd : isId rd = true) : Fn Tryz.prog 17 [WS exW, .agg (polL yr), I rd, I 7, I d] (.tup [.agg [I rd, I 7, I d, B true, .nilsl], I 0]) := by
  refine c17z yr d rd h0 h1 h2 h3 hrd exW (by decide) ex_rows 7 (by decide) 1 (by decide) rfl (fun k hk => ?_) (fun k r hr => ?_)
  · have : k = 0 := by omega
    subst this
    intro h; cases h
  · cases k with
    | zero => have : r = ⟨7, 0, 0⟩ := by injection (show some (⟨7, 0, 0⟩ : Rw) = some r from hr) with h; exact h.symm
              rw [this]
    | succ k =>
      have : upR exW 7 (k + 1) = none := by
        have := upX_none (l := exW) (u := 7) (k := 1) (m := k + 1) rfl (by omega)
        unfold upX at this
        cases hq : upR exW 7 (k + 1) with
        | none => rfl
        | some q => rw [hq] at this; cases this
      rw [this] at hr; cases hr
end Go.Abs.Ltop
end
