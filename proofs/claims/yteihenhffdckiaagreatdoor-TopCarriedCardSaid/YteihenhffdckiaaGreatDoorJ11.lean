import Derived.Deep.LoopGhost
import Derived.Deep.Slices
import Derived.ProofKit
import Derived.OpenShut
import Derived.Test.YteihenhffdckiaaGreatDoorJ10
section
namespace Go.Abs
open Go.RowKit
set_option linter.unusedVariables false

section
variable {P : Program} {T : Tab} {E : Env} {c c' : Cfg} {a : Act} {w : World} {o : Oper} {r : Res} {ops : Array Oper} {dm : List (Nat × Bool)} {N : Nat} {dr : Bool}

theorem opv_eq (hlk : ∀ t ∈ o.looksAt ops, lk c'.fr t = lk c.fr t) : ∀ x ∈ o.op.operands, opv c x = opv c' x := by
  intro x hx
  cases x with
  | tmp t =>
    simp only [opv]
    exact (hlk t (by
      unfold Oper.looksAt
      exact List.mem_append_left _ (List.mem_filterMap.2 ⟨.tmp t, by simpa using hx, rfl⟩))).symm
  | const v => rfl
  | global g => rfl
  | func f => rfl
theorem guard_eq (hlk : ∀ t ∈ o.looksAt ops, lk c'.fr t = lk c.fr t) {j d : Nat} {want : Bool} (hg : o.guard = some (j, want)) (hgs : gslot ops j = some d) : lk c'.fr d = lk c.fr d := by
  refine hlk d ?_
  unfold Oper.looksAt
  refine List.mem_append_right _ ?_
  rw [hg]
  unfold gslot at hgs
  simp only [hgs]
  simp

theorem opg_reach {d : Nat} {want : Bool} {b : Nat} (h : RReach (olk c.O) (o.op.operands.toList.map (opg c d want)) b) : RReach (olk c.O) (o.op.operands.toList.map (opv c)) b := by
  refine h.sub fun b hb => ?_
  generalize o.op.operands.toList = xs at hb
  induction xs with
  | nil => exact hb
  | cons x xs ih =>
    simp only [List.map_cons, AV.hasL, Bool.or_eq_true] at hb ⊢
    rcases hb with hb | hb
    · left
      cases hv : (opv c x).has b with
      | true => rfl
      | false =>
        have : (opg c d want x).has b = false := by
          unfold opg
          split
          · exact strip_has (strip_has hv)
          · exact strip_has hv
        rw [this] at hb; cases hb
    · exact .inr (ih hb)
theorem evOp_move (h : lookO o = false) (val : Operand → AV) (own own' : Nat → Option OBlk) : evOp dr T val own o = evOp dr T val own' o := by
  unfold lookO at h
  split at h
  · rename_i x hop
    unfold evOp
    rw [hop]
  · rename_i x hop
    unfold evOp
    rw [hop]
  · rename_i t x f hop
    unfold evOp
    rw [hop]
  · cases h
theorem StepOK.transport (h : StepOK dr P T N ops o c r) (hlk : ∀ t ∈ o.looksAt ops, lk c'.fr t = lk c.fr t) (hR : ∀ b, lookO o = true → RReach (olk c.O) (o.op.operands.toList.map (opv c)) b → olk c'.O b = olk c.O b) (hd' : dstOK N c' o.dst = true)
    (hfd : freshD c r.nw r.D = true → freshD c' r.nw r.D = true) : StepOK dr P T N ops o c' r := by
  have own : ∀ val : Operand → AV, (∀ b, RReach (olk c.O) (o.op.operands.toList.map val) b → RReach (olk c.O) (o.op.operands.toList.map (opv c)) b) → evOp dr T val (olk c'.O) o = evOp dr T val (olk c.O) o := by
    intro val hv
    cases hm : lookO o with
    | false => exact evOp_move hm _ _ _
    | true => exact evOp_own fun b hb => hR b hm (hv b hb)
  cases h with
  | run hg hd hh hf hno => exact .run hg hd' (by rw [← evOp_congr (opv_eq hlk), own _ fun _ hb => hb]; exact hh) (hfd hf) hno
  | yes hg hgs hl hd hh hf hno => exact .yes hg hgs (by rw [guard_eq hlk hg hgs]; exact hl) hd' (by rw [← evOp_congr (opv_eq hlk), own _ fun _ hb => hb]; exact hh) (hfd hf) hno
  | skip hg hgs hl hne hd => exact .skip hg hgs (by rw [guard_eq hlk hg hgs]; exact hl) hne hd'
  | dead hg hgs hl hd => exact .dead hg hgs (by rw [guard_eq hlk hg hgs]; exact hl) hd'
  | spec hg hgs hb hne hd hh hD' hpg =>
    rename_i j d want r'
    have hlk' := guard_eq hlk hg hgs
    refine .spec hg hgs (by rw [hlk']; exact hb) hne hd' ?_ hD' hpg
    rw [evOp_congr (val' := opg c d want) (fun x hx => ?_), own _ fun _ hb => opg_reach hb]
    · exact hh
    · unfold opg
      rw [hlk', opv_eq hlk x hx]

/-- what an operation leaves is reckoned under a guard only if it is guarded -/
theorem StepOK.tag (h : StepOK dr P T N ops o c r) {d : Nat} {want : Bool} {v : AV} (hv : r.v = .opt d want v) : d ∈ o.looksAt ops := by
  cases h with
  | run hg hd hh hf hno => rw [hv] at hno; cases hno
  | yes hg hgs hl hd hh hf hno => rw [hv] at hno; cases hno
  | skip => cases hv
  | dead => cases hv
  | spec hg hgs hb hne hd hh hD' hpg =>
    rename_i j d' want' r'
    simp only at hv
    have : d' = d := by
      unfold wrapOpt at hv
      split at hv
      · cases hv
      · injection hv
    subst this
    unfold Oper.looksAt
    refine List.mem_append_right _ ?_
    rw [hg]
    unfold gslot at hgs
    simp only [hgs]
    simp

theorem SR.same (h : SR E c a w) (hlk : ∀ t, lk c'.fr t = lk c.fr t) (hO : ∀ b, olk c'.O b = olk c.O b) : SR E c' a w := by
  obtain ⟨K, h⟩ := h
  exact ⟨K, h.weak (fun t => .inl (hlk t)) (fun b x hb => by rw [hO] at hb; exact hb)⟩

theorem reach_of {s : Rec} {b : Nat} (h : reachB s b = false) : ¬ RReach (olk s.O) s.vals b := by
  unfold reachB at h
  cases h1 : AV.hasL b s.vals with
  | true => rw [h1] at h; cases h
  | false =>
    rw [h1] at h
    rintro (h2 | ⟨i, x, h2, h3, h4, h5⟩)
    · rw [h1] at h2; cases h2
    · have hm := olk_mem h2
      simp only at h
      generalize s.O = O at h hm
      induction O with
      | nil => cases hm
      | cons p O ih =>
        obtain ⟨j, y⟩ := p
        unfold reachO at h
        rcases List.mem_cons.1 hm with e | hm
        · injection e with e1 e2; subst e1 e2
          rw [h3] at h
          simp only [h4, h5] at h
          cases h
        · refine ih ?_ hm
          split at h
          · split at h
            · split at h
              · cases h
              · exact h
            · exact h
          · exact h
theorem freshD_all {nw : Bool} : ∀ {D : List (Nat × OBlk)}, freshD c nw D = true ↔ ∀ b x, (b, x) ∈ D → (nw = true → fresh b c = true) ∧ (nw = false → (olk c.O b).isSome = true)
  | [] => by simp [freshD]
  | (i, y) :: D => by
    have ih := freshD_all (nw := nw) (D := D)
    unfold freshD
    cases nw with
    | true =>
      dsimp only
      cases h1 : fresh i c with
      | true =>
        dsimp only
        rw [ih]
        constructor
        · intro h b x hb
          rcases List.mem_cons.1 hb with e | hb
          · injection e with e _; subst e; exact ⟨fun _ => h1, fun h => by cases h⟩
          · exact h b x hb
        · intro h b x hb; exact h b x (List.mem_cons_of_mem _ hb)
      | false =>
        refine ⟨fun h => (by cases h), fun h => ?_⟩
        have := (h i y (by simp)).1 rfl
        rw [h1] at this; cases this
    | false =>
      dsimp only
      cases h1 : olk c.O i with
      | some z =>
        dsimp only
        rw [ih]
        constructor
        · intro h b x hb
          rcases List.mem_cons.1 hb with e | hb
          · injection e with e _; subst e; exact ⟨fun h => (by cases h), fun _ => by rw [h1]; rfl⟩
          · exact h b x hb
        · intro h b x hb; exact h b x (List.mem_cons_of_mem _ hb)
      | none =>
        refine ⟨fun h => (by cases h), fun h => ?_⟩
        have := (h i y (by simp)).2 rfl
        rw [h1] at this; cases this

theorem count_set : ∀ {l : List Bool} {i : Nat}, l[i]? = some false → (l.set i true).count false + 1 = l.count false
  | [], _, h => by simp at h
  | b :: l, 0, h => by simp at h; subst h; simp
  | b :: l, i + 1, h => by
    have := count_set (l := l) (i := i) (by simpa using h)
    simp only [List.set_cons_succ, List.count_cons]
    omega

set_option maxHeartbeats 1000000 in
theorem draw_sound (hT : TabOK P T) (h1 : TabOne T = true) (hN : E.N = N) (hm : P.follows .mixedOrders = true) (hst : drawSt ops = true) {Kk : Cfg → Prop} {Q : Exit → Act → World → Prop} {id : Nat}
    (hQ : ∀ c a w, Kk c → SR E c a w → Q .normal a w) (h : evOps true P T N dm ops ⟨c, [], []⟩ 0 ops.toList c Kk) (hs : SR E c a w) : (Code.region id ops true).wp P Q a w := by
  simp only [drawSt, Bool.and_eq_true] at hst
  obtain ⟨⟨hju, hed⟩, hpa⟩ := hst
  obtain ⟨rs, hlen, houts, hfin⟩ := evOps_outs h
  have hacc : AccOK ⟨c, [], []⟩ := by intro q hq; cases hq
  have hj : ∀ (j : Nat) o r, ops.toList[j]? = some o → rs[j]? = some r → StepOK true P T N ops o (cfgS (fun k => decide (k < j)) 0 ops.toList rs c) r ∧ NoP r ∧
      (∀ (k : Nat) o' r', k < j → ops.toList[k]? = some o' → rs[k]? = some r' → ordB (befores ops.toList) k j = true ∨ IndepP (mkRec o' (cfgS (fun m => decide (m < k)) 0 ops.toList rs c) r'.D r'.pg r'.v) (mkRec o (cfgS (fun m => decide (m < j)) 0 ops.toList rs c) r.D r.pg r.v)) ∧
      (r.nw = true → ∀ b x, (b, x) ∈ r.D → fresh b c = true ∧ ∀ (k : Nat) o' r', k < j → ops.toList[k]? = some o' → rs[k]? = some r' → outB (mkRec o' (cfgS (fun m => decide (m < k)) 0 ops.toList rs c) r'.D r'.pg r'.v) b = false) := by
    intro j o r ho hr
    obtain ⟨B, b1, b2, _, b4, b5, b6⟩ := outs_get houts hacc ho hr
    simp only [Nat.zero_add] at b4 b5 b6
    obtain ⟨d1, d2, d3⟩ := dr_of b1 b5
    refine ⟨b4, d1, fun k o' r' hk ho' hr' => d2 _ (b6 k o' r' hk ho' hr'), fun hnw b x hb => ?_⟩
    obtain ⟨f1, f2⟩ := d3 hnw b x hb
    rw [b2] at f1
    exact ⟨f1, fun k o' r' hk ho' hr' => f2 _ (b6 k o' r' hk ho' hr')⟩
  simp only [Nat.zero_add] at hfin
  have hn : ops.toList.length = ops.size := by simp
  have hget : ∀ j, j < ops.size → ∃ o r, ops.toList[j]? = some o ∧ rs[j]? = some r := fun j hj' => ⟨_, _, List.getElem?_eq_getElem (by simpa using hj'), List.getElem?_eq_getElem (by rw [hlen]; simpa using hj')⟩
  have hpg : ∀ r ∈ rs, NoP r := by
    intro r hr
    obtain ⟨j, hjr⟩ := List.getElem?_of_mem hr
    have hjl : j < ops.size := by have := (List.getElem?_eq_some_iff.1 hjr).1; rw [hlen] at this; simpa using this
    obtain ⟨o, r', ho, hr'⟩ := hget j hjl
    rw [hjr] at hr'; injection hr' with hr'; subst hr'
    exact (hj j o r ho hjr).2.1
  -- unordered pairs are apart
  have hapart : ∀ (i j : Nat) (x y : Oper), i < j → ops.toList[i]? = some x → ops.toList[j]? = some y → ordB (befores ops.toList) i j = false → x.apart ops y = true := by
    intro i j x y hij hx hy ho
    have hjl : j < ops.size := by have := (List.getElem?_eq_some_iff.1 hy).1; simpa using this
    have h2 := List.all_eq_true.1 (List.all_eq_true.1 hpa j (List.mem_range.2 hjl)) i (List.mem_range.2 hij)
    rw [ho, Bool.false_or] at h2
    simp only [Array.getElem?_toList] at hx hy
    rw [hx, hy] at h2
    exact h2
  have key : ∀ (fuel : Nat) (listed : Array Bool) (a : Act) (w : World), listed.size = ops.size → listed.toList.count false = fuel →
      (∀ (j : Nat) o, ops.toList[j]? = some o → listed.getD j false = true → ∀ e ∈ o.after, Region.binds .any e = true → listed.getD e.on false = true) →
      SR E (cfgS (fun k => listed.getD k false) 0 ops.toList rs c) a w → wpAny P .any ops Q fuel listed a w := by
    intro fuel
    induction fuel with
    | zero =>
      intro listed a w hsz hcnt hcl hs
      have hall : ∀ k, k < ops.size → listed.getD k false = true := by
        intro k hk
        have hk' : k < listed.size := by omega
        have : false ∉ listed.toList := List.count_eq_zero.1 hcnt
        cases hb : listed[k] with
        | true => simp [Array.getD, hk', hb]
        | false => exact absurd (Array.mem_toList_iff.2 (by rw [← hb]; exact Array.getElem_mem hk')) this
      refine ⟨?_, hQ _ a w hfin ?_⟩
      · unfold Region.ready
        rw [List.filter_eq_nil_iff]
        intro k hk
        have hk' : k < ops.size := List.mem_range.1 hk
        have := hall k hk'
        have hk'' : k < listed.size := by omega
        simp [Array.getD, hk''] at this ⊢
        simp [this]
      · have e : cfgS (fun k => decide (k < ops.toList.length)) 0 ops.toList rs c = cfgS (fun k => listed.getD k false) 0 ops.toList rs c := cfgS_congr fun k hk => by
          simp only [Nat.zero_add]
          rw [hall k (by simpa using hk)]
          simpa using hk
        rw [e]
        exact hs
    | succ fuel ih =>
      intro listed a w hsz hcnt hcl hs
      have hmem : ∀ i, i ∈ Region.ready .any ops listed ↔ i < ops.size ∧ listed.getD i false = false ∧ ∀ o, ops.toList[i]? = some o → ∀ e ∈ o.after, Region.binds .any e = true → listed.getD e.on false = true := by
        intro i
        unfold Region.ready
        rw [List.mem_filter, List.mem_range]
        constructor
        · rintro ⟨hi, hb⟩
          rw [Bool.and_eq_true] at hb
          have hi' : i < listed.size := by omega
          refine ⟨hi, by have := hb.1; simp [Array.getD, hi'] at this ⊢; exact this, fun o ho e he hbe => ?_⟩
          have ho' : ops[i]? = some o := by simpa using ho
          have h2 := hb.2
          rw [ho'] at h2
          simp only [Option.map_some, Option.getD_some, Array.all_eq_true_iff_forall_mem] at h2
          have := h2 e he
          simpa [hbe] using this
        · rintro ⟨hi, hl, hb⟩
          refine ⟨hi, ?_⟩
          rw [Bool.and_eq_true]
          have hi' : i < listed.size := by omega
          refine ⟨by simp [Array.getD, hi'] at hl ⊢; exact hl, ?_⟩
          have ho' : ops[i]? = some ops[i] := by simp [hi]
          rw [ho']
          simp only [Option.map_some, Option.getD_some, Array.all_eq_true_iff_forall_mem]
          intro e he
          cases hbe : Region.binds .any e
          · rfl
          · simpa using hb ops[i] (by simp [hi]) e he hbe
      refine ⟨fun hnil => ?_, fun i hi => ?_⟩
      · -- something is left, and the first that is left can come
        exfalso
        have hex : ∃ k, k < ops.size ∧ listed.getD k false = false := by
          have : false ∈ listed.toList := List.count_pos_iff.1 (by omega)
          obtain ⟨k, hk, he⟩ := List.mem_iff_getElem.1 this
          have hk' : k < listed.size := by simpa using hk
          exact ⟨k, by omega, by simp [Array.getD, hk']; simpa using he⟩
        obtain ⟨k, hk1, hk2, hk3⟩ : ∃ k, k < ops.size ∧ listed.getD k false = false ∧ ∀ m, m < k → listed.getD m false = true := by
          obtain ⟨k, hk⟩ := hex
          induction k using Nat.strongRecOn with
          | _ k ihk =>
            by_cases hm' : ∃ m, m < k ∧ listed.getD m false = false
            · obtain ⟨m, hm1, hm2⟩ := hm'
              exact ihk m hm1 ⟨by omega, hm2⟩
            · exact ⟨k, hk.1, hk.2, fun m hm1 => by
                cases hb : listed.getD m false
                · exact absurd ⟨m, hm1, hb⟩ hm'
                · rfl⟩
        have : k ∈ Region.ready .any ops listed := (hmem k).2 ⟨hk1, hk2, fun o ho e he hbe => by
          have h2 := List.all_eq_true.1 hed k (List.mem_range.2 (by simpa using hk1))
          rw [ho] at h2
          have h3 := List.all_eq_true.1 h2 e (by simpa using he)
          rw [hbe] at h3
          simp only [Bool.not_true, Bool.false_or] at h3
          exact hk3 e.on (Nat.le_of_ble_eq_true h3)⟩
        rw [hnil] at this
        cases this
      · obtain ⟨hil, hiu, hir⟩ := (hmem i).1 hi
        obtain ⟨o, r, ho, hr⟩ := hget i hil
        have hstep := (hj i o r ho hr).1
        have hil' : i < listed.size := by omega
        -- who is chosen
        have before : ∀ k, k < i → listed.getD k false = false → ordB (befores ops.toList) k i = false := by
          intro k hk hl
          cases hb : ordB (befores ops.toList) k i
          · rfl
          · have := ord_in hju hcl i o ho (hir o ho) k (by simp; omega) hb
            rw [hl] at this; cases this
        have behind : ∀ k, i < k → k < ops.size → listed.getD k false = true → ordB (befores ops.toList) i k = false := by
          intro k hk hkl hl
          cases hb : ordB (befores ops.toList) i k
          · rfl
          · obtain ⟨o', r', ho', _⟩ := hget k hkl
            have := ord_in hju hcl k o' ho' (hcl k o' ho' hl) i (by simp; omega) hb
            rw [hiu] at this; cases this
        -- who is chosen and touches what the operation looks at
        have touch : ∀ (k : Nat) x t, ops.toList[k]? = some x → x.dst = some t → t ∈ o.looksAt ops → listed.getD k false = decide (k < i) := by
          intro k x t hx hxt hto
          have hkl : k < ops.size := by have := (List.getElem?_eq_some_iff.1 hx).1; simpa using this
          rcases Nat.lt_trichotomy k i with hlt | heq | hgt
          · cases hl : listed.getD k false
            · have := hapart k i x o hlt hx ho (before k hlt hl)
              exact absurd hto ((Oper.apart_spec this).1 t hxt)
            · simp [hlt]
          · subst heq; rw [hiu]; simp
          · cases hl : listed.getD k false
            · simp; omega
            · have := hapart i k o x hgt ho hx (behind k hgt hkl hl)
              exact absurd hto ((Oper.apart_spec this).2.2 t hxt)
        have writers : ∀ (b k : Nat) r', k < ops.size → rs[k]? = some r' → b ∈ wids r'.D r'.pg → k ≠ i → (b ∈ wids r.D r.pg ∨ (lookO o = true ∧ RReach (olk (cfgS (fun m => decide (m < i)) 0 ops.toList rs c).O) (o.op.operands.toList.map (opv (cfgS (fun m => decide (m < i)) 0 ops.toList rs c))) b)) → listed.getD k false = decide (k < i) := by
          intro b k r' hkl hr' hb hki hor
          obtain ⟨o', r'', ho', hr''⟩ := hget k hkl
          rw [hr'] at hr''; injection hr'' with hr''; subst hr''
          have no : reachB (mkRec o (cfgS (fun m => decide (m < i)) 0 ops.toList rs c) r.D r.pg r.v) b = false ∧ b ∉ wids r.D r.pg → False := by
            rintro ⟨n1, n2⟩
            rcases hor with hor | hor
            · exact n2 hor
            · have e : mkRec o (cfgS (fun m => decide (m < i)) 0 ops.toList rs c) r.D r.pg r.v = ⟨o.op.operands.toList.map (opv (cfgS (fun m => decide (m < i)) 0 ops.toList rs c)), (cfgS (fun m => decide (m < i)) 0 ops.toList rs c).O, r.v, r.D, r.pg⟩ := by
                unfold mkRec; rw [hor.1]
              rw [e] at n1
              exact reach_of n1 hor.2
          rcases Nat.lt_or_ge k i with hlt | hge
          · cases hl : listed.getD k false
            · rcases (hj i o r ho hr).2.2.1 k o' r' hlt ho' hr' with h2 | h2
              · rw [before k hlt hl] at h2; cases h2
              · exact (no ⟨(h2.1 b hb).1, (h2.1 b hb).2.1⟩).elim
            · simp [hlt]
          · have hgt : i < k := by omega
            cases hl : listed.getD k false
            · simp; omega
            · rcases (hj k o' r' ho' hr').2.2.1 i o r hgt ho hr with h2 | h2
              · rw [behind k hgt hkl hl] at h2; cases h2
              · exact (no ⟨(h2.2 b hb).1, (h2.2 b hb).2.1⟩).elim
        -- the step in the state that is there
        have hstep' : StepOK true P T N ops o (cfgS (fun k => listed.getD k false) 0 ops.toList rs c) r := by
          have holk : ∀ b, (b ∈ wids r.D r.pg ∨ (lookO o = true ∧ RReach (olk (cfgS (fun m => decide (m < i)) 0 ops.toList rs c).O) (o.op.operands.toList.map (opv (cfgS (fun m => decide (m < i)) 0 ops.toList rs c))) b)) →
              olk (cfgS (fun k => listed.getD k false) 0 ops.toList rs c).O b = olk (cfgS (fun m => decide (m < i)) 0 ops.toList rs c).O b := by
            intro b hor
            refine cfgS_olk hpg (fun k r' hk hr' hb => ?_) rfl
            simp only [Nat.zero_add]
            by_cases hki : k = i
            · subst hki; rw [hiu]; simp
            · exact writers b k r' (by simpa using hk) hr' hb hki hor
          refine hstep.transport (fun t ht => ?_) (fun b hm hb => holk b (.inr ⟨hm, hb⟩)) ?_ fun hfd => ?_
          · exact cfgS_lk hpg (fun k x hx hxt => by simp only [Nat.zero_add]; exact touch k x t hx hxt ht) rfl
          · have hd0 : dstOK N (cfgS (fun k => decide (k < i)) 0 ops.toList rs c) o.dst = true := by cases hstep <;> assumption
            cases hdst : o.dst with
            | none => rfl
            | some d =>
              rw [hdst] at hd0
              simp only [dstOK, Bool.and_eq_true] at hd0 ⊢
              refine ⟨hd0.1, ?_⟩
              obtain ⟨n1, n2⟩ := noOpt_cfgS hpg hd0.2
              refine cfgS_noOpt hpg n1 fun k x r' hx hr' hsel hxd w' v' hv => ?_
              simp only [Nat.zero_add] at hsel n2
              have hkl : k < ops.size := by have := (List.getElem?_eq_some_iff.1 hx).1; simpa using this
              rcases Nat.lt_trichotomy k i with hlt | heq | hgt
              · exact n2 k x r' hx hr' (by simpa using hlt) hxd w' v' hv
              · subst heq; rw [hiu] at hsel; cases hsel
              · have hap := hapart i k o x hgt ho hx (behind k hgt hkl hsel)
                exact (Oper.apart_spec hap).1 d hdst ((hj k x r' hx hr').1.tag hv)
          · rw [freshD_all] at hfd ⊢
            intro b x hb
            obtain ⟨h1', h2'⟩ := hfd b x hb
            refine ⟨fun hnw => ?_, fun hnw => by rw [holk b (.inl (wids_of hb))]; exact h2' hnw⟩
            obtain ⟨g1, g2⟩ := (hj i o r ho hr).2.2.2 hnw b x hb
            refine cfgS_fresh hpg g1 fun k o' r' ho' hr' hsel => ?_
            simp only [Nat.zero_add] at hsel
            have hkl : k < ops.size := by have := (List.getElem?_eq_some_iff.1 ho').1; simpa using this
            rcases Nat.lt_trichotomy k i with hlt | heq | hgt
            · have := out_of (g2 k o' r' hlt ho' hr')
              exact ⟨this.1, this.2.1⟩
            · subst heq; rw [hiu] at hsel; cases hsel
            · rcases (hj k o' r' ho' hr').2.2.1 i o r hgt ho hr with h2 | h2
              · rw [behind k hgt hkl hsel] at h2; cases h2
              · rcases (h2.1 b (wids_of hb)).2.2 with q | q
                · exfalso
                  have hf := (fresh_of (h1' hnw)).1
                  have hsome := q.2
                  unfold mkRec at hsome
                  simp only at hsome
                  split at hsome
                  · simp [olk] at hsome
                  · rw [hf] at hsome; cases hsome
                · have := out_of q
                  exact ⟨this.1, this.2.1⟩
        refine wpOp_mono (fun a' w' hs' => ?_) (step_sound hT h1 hN (by simpa using ho) hstep' hs)
        -- the state behind it
        have hL : ∀ k, (listed.setIfInBounds i true).getD k false = if k = i then true else listed.getD k false := by
          intro k
          simp only [Array.getD_eq_getD_getElem?, Array.getElem?_setIfInBounds]
          by_cases hk : i = k
          · subst hk; simp [hil']
          · rw [if_neg hk, if_neg (fun e => hk e.symm)]
        refine ih (listed.setIfInBounds i true) a' w' (by simp [hsz]) ?_ ?_ ?_
        · have hli : listed.toList[i]? = some false := by
            have := hiu
            simp [Array.getD, hil'] at this
            simp [hil', this]
          have := count_set hli
          rw [Array.toList_setIfInBounds]
          omega
        · intro j o' ho' hl e he hbe
          rw [hL] at hl ⊢
          split
          · rfl
          · split at hl
            · rename_i hji; subst hji
              exact hir o' ho' e he hbe
            · exact hcl j o' ho' hl e he hbe
        · refine hs'.same (fun t => ?_) ?_
          · rw [lk_app (hpg r (List.mem_of_getElem? hr))]
            by_cases hdt : o.dst = some t
            · rw [if_pos hdt]
              refine cfgS_last hpg ho hr hdt (by simp [hL]) fun k x hik hx hxt => ?_
              simp only [Nat.zero_add, hL]
              rw [if_neg (by omega)]
              cases hl : listed.getD k false
              · rfl
              · have hkl : k < ops.size := by have := (List.getElem?_eq_some_iff.1 hx).1; simpa using this
                have hap := hapart i k o x hik ho hx (behind k hik hkl hl)
                exact absurd hxt ((Oper.apart_spec hap).2.1 t hdt)
            · rw [if_neg hdt]
              refine cfgS_lk hpg (fun k x hx hxt => ?_) rfl
              simp only [Nat.zero_add, hL]
              rw [if_neg]
              rintro rfl
              rw [ho] at hx; injection hx with hx; subst hx; exact hdt hxt
          · intro b
            by_cases hb : b ∈ wids r.D r.pg
            · refine cfgS_olk_last hpg ho hr hb (by simp [hL]) fun k r' hik hr' hb' => ?_
              simp only [Nat.zero_add, hL]
              rw [if_neg (by omega)]
              have hkl : k < ops.size := by have := (List.getElem?_eq_some_iff.1 hr').1; rw [hlen] at this; simpa using this
              rw [writers b k r' hkl hr' hb' (by omega) (.inl hb)]
              simp; omega
            · rw [olk_app_not (hpg r (List.mem_of_getElem? hr)) hb]
              refine cfgS_olk hpg (fun k r' hk hr' hb' => ?_) rfl
              simp only [Nat.zero_add, hL]
              rw [if_neg]
              rintro rfl
              rw [hr] at hr'; injection hr' with hr'; subst hr'; exact hb hb'
  have hrep : ∀ k, (Array.replicate ops.size false).getD k false = false := by
    intro k
    rw [Array.getD_eq_getD_getElem?]
    rw [Array.getElem?_replicate]
    split <;> rfl
  refine wp_region_any hm (key ops.size (Array.replicate ops.size false) a _ (by simp) (by simp) (fun j o ho hl => ?_) ?_)
  · rw [hrep] at hl; cases hl
  · obtain ⟨K, hs⟩ := hs
    rw [cfgS_none _ _ _ _ _ (fun k _ => hrep k)]
    exact ⟨K, hs.move (Step.drawn _ w (w.drawn + 1))⟩
end
end Go.Abs
end
section
namespace Go.Abs
open Go.RowKit
set_option linter.unusedVariables false

def drawsOK : Code → Bool
  | .skip => true
  | .region _ ops dr => match dr with | true => drawSt ops | false => true
  | .seq x y => drawsOK x && drawsOK y
  | .cond _ x y => drawsOK x && drawsOK y
  | .block _ b => drawsOK b
  | .exit _ => true
  | .ret => true
  | .loop b => drawsOK b
  | _ => true

def Ex.toExit : Ex → Exit
  | .normal => .normal
  | .exit id => .exit id
  | .ret => .ret

section
variable {P : Program} {T : Tab} {E : Env} {N : Nat} {ks : List Nat}

theorem SR.endK {c : Cfg} {a : Act} {w : World} (h : SR E c a w) : SR E ⟨keepF c.fr ks, c.O⟩ a w := by
  obtain ⟨K, h⟩ := h
  exact ⟨K, h.weak (fun t => lk_keep c.fr ks t) fun b x hb => hb⟩

theorem opv_FV {c : Cfg} {a : Act} {w : World} (h : SR E c a w) {x : Operand} {b : Bool} (hx : opv c x = .bool b) : a.eval x = .bool b := by
  obtain ⟨K, h⟩ := h
  cases x with
  | tmp t =>
    have := h.fr t
    simp only [opv] at hx
    rw [hx] at this
    exact VR.bool_inv this
  | const v =>
    simp only [opv] at hx
    split at hx
    · unfold AV.ofVal at hx
      split at hx
      · cases hx
      · unfold AV.ofCell at hx
        split at hx <;> first | (injection hx with hx; subst hx; rfl) | cases hx
    · cases hx
  | global g => simp [opv] at hx
  | func f => simp [opv] at hx

theorem ev_sound (hT : TabOK P T) (h1 : TabOne T = true) (hN : E.N = N) (hm : P.follows .mixedOrders = true) :
    ∀ (code : Code) (c : Cfg) (Q : Ex → Cfg → Prop) (Q' : Exit → Act → World → Prop) (a : Act) (w : World), drawsOK code = true → ev P T N ks code c Q →
      (∀ e c a w, Q e c → SR E c a w → Q' e.toExit a w) → SR E c a w → code.wp P Q' a w
  | .skip, c, Q, Q', a, w, hd, h, hQ, hs => wp_skip (hQ .normal c a w h hs)
  | .region id ops dr, c, Q, Q', a, w, hd, h, hQ, hs => by
    have h' : ∃ dm, evOps dr P T N dm ops ⟨c, [], []⟩ 0 ops.toList c fun c' => endK ks c' (Q .normal) := by
      simp only [ev] at h
      split at h
      · exact ⟨[], h⟩
      · exact h
    obtain ⟨dm, h'⟩ := h'
    have hQ' : ∀ c a w, endK ks c (Q .normal) → SR E c a w → Q' .normal a w := fun c a w hk hs => hQ .normal _ a w (endK_iff.1 hk) hs.endK
    cases dr with
    | false =>
      refine wp_region ?_
      have := evOps_sound hT h1 hN hQ' ops.toList _ 0 c a w (fun j => by simp) h' hs
      rw [show ops.toList.length = ops.size by simp, ← List.range_eq_range'] at this
      exact this
    | true => exact draw_sound hT h1 hN hm hd hQ' h' hs
  | .seq x y, c, Q, Q', a, w, hd, h, hQ, hs => by
    simp only [drawsOK, Bool.and_eq_true] at hd
    refine wp_seq (ev_sound hT h1 hN hm x c _ _ a w hd.1 h (fun e c a w hq hs => ?_) hs)
    cases e with
    | normal => exact ev_sound hT h1 hN hm y c Q Q' a w hd.2 hq hQ hs
    | exit id => exact hQ _ c a w hq hs
    | ret => exact hQ _ c a w hq hs
  | .cond x t e, c, Q, Q', a, w, hd, h, hQ, hs => by
    simp only [drawsOK, Bool.and_eq_true] at hd
    simp only [ev] at h
    split at h
    · rename_i b hb
      exact wp_cond_split (opv_FV hs hb) (fun ht => ev_sound hT h1 hN hm t c Q Q' a w hd.1 (h.1 ht) hQ hs) (fun ht => ev_sound hT h1 hN hm e c Q Q' a w hd.2 (h.2 ht) hQ hs)
    · exact h.elim
  | .block id b, c, Q, Q', a, w, hd, h, hQ, hs => by
    refine wp_block (ev_sound hT h1 hN hm b c _ _ a w hd h (fun e c a w hq hs => ?_) hs)
    cases e with
    | normal => exact hQ _ c a w hq hs
    | exit id' =>
      simp only [Ex.toExit, Exit.inBlock]
      simp only at hq
      split at hq
      · rename_i he
        rw [if_pos (beq_true he)]
        exact hQ .normal c a w hq hs
      · rename_i he
        rw [if_neg (beq_false he)]
        exact hQ (.exit id') c a w hq hs
    | ret => exact hQ _ c a w hq hs
  | .exit id, c, Q, Q', a, w, hd, h, hQ, hs => wp_exit (hQ (.exit id) c a w h hs)
  | .ret, c, Q, Q', a, w, hd, h, hQ, hs => wp_ret (hQ .ret c a w h hs)
  | .loop b, c, Q, Q', a, w, hd, h, hQ, hs => by
    obtain ⟨I, ⟨n, c', hw, hI⟩, hr⟩ := h
    refine wp_loop_ghost (fun n a w => ∃ c, I n c ∧ SR E c a w) n ⟨c', hI, hw E a w hs⟩ ?_
    rintro n a w ⟨c, hI, hs⟩
    refine ev_sound hT h1 hN hm b c _ _ a w hd (hr n c hI) (fun e c a w hq hs => ?_) hs
    cases e with
    | normal =>
      obtain ⟨m, c'', hw, hlt, hI'⟩ := hq
      exact ⟨m, hlt, c'', hI', hw E a w hs⟩
    | exit id => exact hQ _ c a w hq hs
    | ret => exact hQ _ c a w hq hs
  | .rangeFunc _ _ _ _, c, Q, Q', a, w, hd, h, hQ, hs => h.elim
  | .scope _, c, Q, Q', a, w, hd, h, hQ, hs => h.elim
  | .label _, c, Q, Q', a, w, hd, h, hQ, hs => h.elim
  | .goto _, c, Q, Q', a, w, hd, h, hQ, hs => h.elim
  | .refuse _, c, Q, Q', a, w, hd, h, hQ, hs => h.elim

theorem Wk.refl (c : Cfg) : Wk c c := fun _ _ _ h => h
theorem Wk.trans {c c' c'' : Cfg} (h : Wk c c') (k : Wk c' c'') : Wk c c'' := fun E a w s => k E a w (h E a w s)
theorem Wk.keep {c : Cfg} (ks ids : List Nat) : Wk c (c.only ks ids) := by
  rintro E a w ⟨K, h⟩
  exact ⟨K, h.weak (fun t => lk_keep c.fr ks t) fun b x hb => olk_keep c.O ids b x hb⟩
/-- the same look-ups -/
theorem Wk.same {c c' : Cfg} (hf : ∀ t, lk c'.fr t = lk c.fr t ∨ lk c'.fr t = .top) (hO : ∀ b x, olk c'.O b = some x → olk c.O b = some x) : Wk c c' := by
  rintro E a w ⟨K, h⟩
  exact ⟨K, h.weak hf hO⟩

/-- A slot's value as a result. -/
def ret1 (c : Cfg) (u r : AV) : Prop :=
  match u with
  | .osl b sz n => ∃ blk, olk c.O b = some blk ∧ blk.sz = sz ∧ n = blk.rows.length ∧ ((blk.kd = .pure ∧ r = .fsl true blk.e sz n blk.rows) ∨ (blk.kd = .flat ∧ r = .fsl false blk.e sz n blk.rows))
  | .nilsl => r = .nilsl ∨ ∃ p e sz, r = .fsl p e sz 0 []
  | u => u.idless = true ∧ r = u
/-- what a result variable holds: a slot, or a cell of one's own -/
def rval (T : Tab) (c : Cfg) : ResultVar → Option AV
  | .tmp t => some (lk c.fr t)
  | .cell t ty => match lk c.fr t with
    | .ovar b off => match T.get ty, olk c.O b with
      | some i, some blk => match blk.rows with
        | [row] => readAt i row off
        | _ => none
      | _, _ => none
    | .rptr row off => match T.get ty with
      | some i => readAt i row off
      | none => none
    | _ => none
def retL (T : Tab) (c : Cfg) : List ResultVar → List AV → Prop
  | [], [] => True
  | x :: rv, r :: rs => match rval T c x with
    | some u => u.idless = true ∧ r = u ∧ retL T c rv rs
    | none => False
  | _, _ => False
def notTup : AV → Bool
  | .tup _ => false
  | _ => true
def retR (T : Tab) (c : Cfg) : List ResultVar → AV → Prop
  | [x], r => match rval T c x with
    | some u => notTup r = true ∧ ret1 c u r
    | none => False
  | [], r => r = .tup []
  | x :: y :: rv, r => match rval T c x with
    | some u => ∃ r0 rs, r = .tup (r0 :: rs) ∧ ret1 c u r0 ∧ retL T c (y :: rv) rs
    | none => False
def retQ (T : Tab) (rv : List ResultVar) (r : AV) : Ex → Cfg → Prop
  | .exit _, _ => False
  | _, c => retR T c rv r

theorem idless_K {w : World} {X : Nat → Prop} {K K' : KM} {u : AV} {v : Value} (hi : u.idless = true) (h : VR w X K u v) : VR w X K' u v :=
  h.keep (Keep.refl X w) (fun _ _ h => h) fun b hb => by rw [has_idless b u hi] at hb; cases hb

theorem noOpt_idless {u : AV} (h : u.idless = true) : ∀ d want u', u ≠ .opt d want u' := by
  rintro d want u' rfl
  simp [AV.idless] at h

theorem ret1_sound {K : KM} {c : Cfg} {a : Act} {w w0 : World} {X : Nat → Prop} {u r : AV} {vv : Value} {hwi : ∀ w, Ext (fun _ => False) w0 w → WI w} (hs : SRK (Env0 (fun _ => False) X w0 N hwi) K c a w) (hf : FV w (XX (Env0 (fun _ => False) X w0 N hwi) K c.O) K a.tmps u vv) (h : ret1 c u r) :
    RR1 w w0.heap.size (fun g => X g ∧ g < w0.heap.size) r vv := by
  unfold ret1 at h
  split at h
  · rename_i b sz n
    obtain ⟨blk, hb, hsz, hn, hk⟩ := h
    have hv : VR w (XX (Env0 (fun _ => False) X w0 N hwi) K c.O) K (.osl b sz n) vv := hf
    have hrow := hs.rows b blk hb
    have key : ∀ p, (p = true → blk.kd = .pure) → (p = false → blk.kd = .flat) → RR1 w w0.heap.size (fun g => X g ∧ g < w0.heap.size) (.fsl p blk.e sz n blk.rows) vv := by
      intro p hp1 hp2
      refine ⟨hn, fun row hr => (hrow row hr).trans hsz, ?_⟩
      cases hv with
      | oslnil hK => exact .inl ⟨rfl, rfl⟩
      | osl hK hnm hc hcap hmax hsize =>
        rename_i g m cap cur e
        right
        rcases hs.own b blk hb with ⟨h1, h2⟩ | ⟨g', h1, cur', hcur, hcells⟩
        · rw [h1] at hK; cases hK
        · rw [h1] at hK
          injection hK with hK
          injection hK with hK1 hK2
          injection hK1 with hK1
          subst hK1
          replace hcur := hcur.of_obj hc
          rw [hcur] at hc
          injection hc with hc
          injection hc with hc1 hc2
          subst hc1
          refine ⟨g', cap, cur', rfl, hcap, ?_, hcur, hmax, hsize, fun j u hj => ?_⟩
          · rcases hs.mine b g' (by rw [hb]; rfl) (blkOf_of h1) with h | h
            · exact h.elim
            · exact h
          · obtain ⟨x, hx1, hx2, hx3⟩ := hcells j u hj
            refine ⟨x, hx1, hx2, ?_⟩
            cases p with
            | true =>
              rw [hp1 rfl] at hx3
              exact hx3.sub fun _ _ _ => trivial
            | false =>
              rw [hp2 rfl] at hx3
              refine hx3.sub fun g hg hX => ?_
              rcases hX with hX | hX | hX
              · cases hX
              · exact .inr ⟨⟨hX.1, id⟩, hX.2⟩
              · subst hX
                exact .inl ⟨b, by rw [hb]; rfl, blkOf_of h1⟩
    rcases hk with ⟨h1, rfl⟩ | ⟨h1, rfl⟩
    · exact key true (fun _ => h1) (fun h => by cases h)
    · exact key false (fun h => by cases h) (fun _ => h1)
  · have hv : vv = .slice none 0 0 := VR.nilsl_inv hf
    subst hv
    rcases h with rfl | ⟨p, e, sz, rfl⟩
    · exact VR.nilsl
    · exact ⟨rfl, by simp, .inl ⟨rfl, rfl⟩⟩
  · rename_i u _ _
    obtain ⟨hi, rfl⟩ := h
    have hv : VR w (fun g => X g ∧ g < w0.heap.size) K0 r vv := idless_K hi ((hf.vr (noOpt_idless hi)).sub fun g _ h => .inr ⟨⟨h.1, id⟩, h.2⟩)
    clear hf
    cases r <;> first | exact hv | (simp [AV.idless] at hi; done)
end
end Go.Abs
end
section
namespace Go.Abs
open Go.RowKit
set_option linter.unusedVariables false

def idx : Nat → List AV → List (Nat × AV)
  | _, [] => []
  | i, u :: us => (i, u) :: idx (i + 1) us

theorem lk_idx : ∀ (us : List AV) (i t : Nat), lk (idx i us) t = if i ≤ t then us.getD (t - i) .top else .top
  | [], i, t => by simp [idx, lk]
  | u :: us, i, t => by
    rw [idx, lk_cons, lk_idx us (i + 1) t]
    by_cases h : i = t
    · subst h; simp
    · rw [if_neg h]
      by_cases h1 : i ≤ t
      · rw [if_pos (by omega), if_pos h1, show t - i = (t - (i + 1)) + 1 by omega]; simp
      · rw [if_neg (by omega), if_neg h1]

def resRun (tmps : Array Value) : ResultVar → Sem Value
  | .tmp t => pure (tmps.getD t undef)
  | .cell a t => do loadVar t (← asAddr (tmps.getD a undef))
def resV : List Value → Value
  | [v] => v
  | vs => .tuple vs.toArray

section
variable {P : Program} {N : Nat}

theorem mapM_run {w : World} {f : ResultVar → Sem Value} : ∀ {rv : List ResultVar} {vs : List Value}, vs.length = rv.length → (∀ (j : Nat) x v, rv[j]? = some x → vs[j]? = some v → (f x).run P w = .ok v w) →
    (rv.mapM f).run P w = .ok vs w
  | [], vs, hl, _ => by cases vs <;> simp at hl; simp
  | x :: rv, vs, hl, h => by
    cases vs with
    | nil => simp at hl
    | cons v vs =>
      have h0 := h 0 x v rfl rfl
      have ih := mapM_run (rv := rv) (vs := vs) (by simpa using hl) fun j x v hx hv => h (j + 1) x v (by simpa using hx) (by simpa using hv)
      simp only [List.mapM_cons, Sem.run_bind, h0, Result.andThen_ok, ih, Sem.run_pure]

theorem results_run {fn : Func} {rv : List ResultVar} (hr : fn.results.toList = rv) (tmps : Array Value) (w : World) {vs : List Value} (hl : vs.length = rv.length)
    (h : ∀ (j : Nat) x v, rv[j]? = some x → vs[j]? = some v → (resRun tmps x).run P w = .ok v w) : (results fn tmps).run P w = .ok (resV vs) w := by
  have hr' : fn.results = rv.toArray := by rw [← hr]
  have := mapM_run hl h
  unfold results
  rw [hr']
  have e : (rv.toArray.mapM (resRun tmps)).run P w = .ok vs.toArray w := by
    rw [List.mapM_toArray]
    simp only [map_eq_pure_bind, Sem.run_bind, this, Result.andThen_ok, Sem.run_pure]
  have hg : ∀ f : ResultVar → Sem Value, (∀ x, f x = resRun tmps x) → (rv.toArray.mapM f).run P w = .ok vs.toArray w := fun f hf => by rw [show f = resRun tmps from funext hf]; exact e
  simp only [Sem.run_bind]
  rw [hg _ (fun x => by cases x <;> rfl)]
  match vs with
  | [] => simp [resV]
  | [v] => simp [resV]
  | v :: v' :: vs => simp [resV]

theorem rval_sound {T : Tab} (hT : TabOK P T) {E : Env} {K : KM} {c : Cfg} {a : Act} {w : World} (hs : SRK E K c a w) {x : ResultVar} {u : AV} (h : rval T c x = some u) :
    ∃ v, (resRun a.tmps x).run P w = .ok v w ∧ FV w (XX E K c.O) K a.tmps u v := by
  cases x with
  | tmp t =>
    simp only [rval, Option.some.injEq] at h
    subst h
    exact ⟨_, by simp only [resRun, Sem.run_pure], hs.fr t⟩
  | cell t ty =>
    simp only [rval] at h
    split at h
    · rename_i b off hx
      split at h
      · rename_i i blk hi hb
        split at h
        · rename_i row hrow
          have hf := hs.fr t
          rw [hx] at hf
          obtain ⟨g, hK, e1⟩ := VR.ovar_inv hf
          rcases hs.own b blk hb with ⟨h1, _⟩ | ⟨g', h1, h2⟩
          · rw [show blkOf K b = none from by simp [blkOf, h1]] at hK; cases hK
          · rw [blkOf_of h1] at hK; injection hK with hK; subst hK
            have := h2.row (h2.ne_map (by rw [hrow]; simp)) (hs.rows b blk hb) (i := 0) (row := row) (by rw [hrow]; rfl)
            simp only [Nat.zero_mul] at this
            obtain ⟨vv, hrun, hv, _⟩ := load_sound (P := P) hT hi this h
            refine ⟨vv, ?_, FV.of hv⟩
            simp only [resRun, e1]
            simpa [Instr.loadAt, Instr.sureAddr, asAddr, Sem.run_bind] using hrun
        · cases h
      · cases h
    · rename_i row off hx
      split at h
      · rename_i i hi
        have hf := hs.fr t
        rw [hx] at hf
        obtain ⟨g, b, e1, h1, h2, cs, h3, h4, h5, h6⟩ := VR.rptr_inv hf
        obtain ⟨vv, hrun, hv, _⟩ := load_sound (P := P) hT hi (RowR.of_rptr h3 h4 h5 h6).any h
        refine ⟨vv, ?_, FV.of hv⟩
        simp only [resRun, e1]
        simpa [Instr.loadAt, Instr.sureAddr, asAddr, Sem.run_bind] using hrun
      · cases h
    · cases h

theorem retL_sound {T : Tab} (hT : TabOK P T) {K : KM} {c : Cfg} {a : Act} {w w0 : World} {X : Nat → Prop} {hwi : ∀ w, Ext (fun _ => False) w0 w → WI w} (hs : SRK (Env0 (fun _ => False) X w0 N hwi) K c a w) : ∀ {rv : List ResultVar} {rs : List AV}, retL T c rv rs →
    ∃ vs : List Value, vs.length = rv.length ∧ rs.length = rv.length ∧ (∀ (j : Nat) x v, rv[j]? = some x → vs[j]? = some v → (resRun a.tmps x).run P w = .ok v w) ∧
      ∀ (j : Nat) u v, rs[j]? = some u → vs[j]? = some v → VR w (fun g => X g ∧ g < w0.heap.size) K0 u v
  | [], [], h => ⟨[], rfl, rfl, fun j u t h => by simp at h, fun j u t h => by simp at h⟩
  | [], _ :: _, h => by simp [retL] at h
  | x :: rv, [], h => by simp [retL] at h
  | x :: rv, r :: rs, h => by
    simp only [retL] at h
    split at h
    · rename_i u hu
      obtain ⟨hi, rfl, h⟩ := h
      obtain ⟨v, hv1, hv2⟩ := rval_sound hT hs hu
      obtain ⟨vs, h1, h2, h3, h4⟩ := retL_sound hT hs h
      refine ⟨v :: vs, by simp [h1], by simp [h2], fun j x' v' hx hv' => ?_, fun j u' v' hu' hv' => ?_⟩
      · cases j with
        | zero => simp at hx hv'; subst hx hv'; exact hv1
        | succ j => exact h3 j x' v' (by simpa using hx) (by simpa using hv')
      · cases j with
        | zero =>
          simp at hu' hv'
          subst hu' hv'
          exact idless_K hi ((hv2.vr (noOpt_idless hi)).sub fun g _ h => .inr ⟨⟨h.1, id⟩, h.2⟩)
        | succ j => exact h4 j u' v' (by simpa using hu') (by simpa using hv')
    · exact h.elim

theorem retR_sound {T : Tab} (hT : TabOK P T) {K : KM} {c : Cfg} {a : Act} {w w0 : World} {X : Nat → Prop} {hwi : ∀ w, Ext (fun _ => False) w0 w → WI w} (hs : SRK (Env0 (fun _ => False) X w0 N hwi) K c a w) {rv : List ResultVar} {r : AV} (h : retR T c rv r) :
    ∃ vs : List Value, vs.length = rv.length ∧ (∀ (j : Nat) x v, rv[j]? = some x → vs[j]? = some v → (resRun a.tmps x).run P w = .ok v w) ∧ RR w w0.heap.size (fun g => X g ∧ g < w0.heap.size) r (resV vs) := by
  unfold retR at h
  split at h
  · rename_i x
    split at h
    · rename_i u hu
      obtain ⟨hn, h⟩ := h
      obtain ⟨v, hv1, hv2⟩ := rval_sound hT hs hu
      refine ⟨[v], rfl, fun j x' v' hx hv' => ?_, ?_⟩
      · cases j with
        | zero => simp at hx hv'; subst hx hv'; exact hv1
        | succ j => simp at hx
      · have := ret1_sound hs hv2 h
        unfold RR
        split
        · simp [notTup] at hn
        · exact this
    · exact h.elim
  · subst h
    exact ⟨[], rfl, fun j x v h => by simp at h, VR.tup (by simp) fun j u c h => by simp at h⟩
  · rename_i x y rv
    split at h
    · rename_i u hu
      obtain ⟨r0, rs, rfl, h0, hl⟩ := h
      obtain ⟨v, hv1, hv2⟩ := rval_sound hT hs hu
      obtain ⟨vs, h1, h2, h3, h4⟩ := retL_sound hT hs hl
      refine ⟨v :: vs, by simp [h1], fun j x' v' hx hv' => ?_, ?_⟩
      · cases j with
        | zero => simp at hx hv'; subst hx hv'; exact hv1
        | succ j => exact h3 j x' v' (by simpa using hx) (by simpa using hv')
      · cases vs with
        | nil => simp at h1
        | cons v' vs =>
          refine ⟨_, rfl, by simp at h1 h2 ⊢; omega, ⟨v, by simp, ret1_sound hs hv2 h0⟩, fun j u' c' hu' hc => ?_⟩
          exact h4 j u' c' hu' (by simpa using hc)
    · exact h.elim

/-- A FUNCTION'S CONTRACT FROM ITS BODY'S EVALUATION -/
theorem fn_of {T : Tab} {f : FuncId} {fn : Func} {code : Code} {args : List AV} {r : AV} {ks : List Nat} (rv : List ResultVar) (hT : TabOK P T) (h1 : TabOne T = true) (hm : P.follows .mixedOrders = true)
    (hf : P.funcs[f]? = some fn) (hb : fn.body = some code) (hname : (fn.name == "runtime.NumGoroutine") = false) (hd : drawsOK code = true) (hn : Nat.ble args.length fn.ntmps = true) (hN : fn.ntmps = N)
    (hr : fn.results.toList = rv) (h : ev P T N ks code ⟨idx 0 args, []⟩ (retQ T rv r)) : Fn P f args r := by
  refine ⟨⟨fn, hf, hname, by rw [hb]; rfl⟩, fun X w vs hwi hlen hargs => ?_⟩
  refine calls_of_wp hf hb ?_
  have hn' := Nat.le_of_ble_eq_true hn
  subst hN
  refine ev_sound (E := Env0 (fun _ => False) X w fn.ntmps (fun w' hx => hwi.mono hx.size fun g hg => hx.block g hg id)) hT h1 rfl hm code _ _ _ _ _ hd h (fun e c a w' hq hs => ?_) ⟨K0, ?_⟩
  · obtain ⟨K, hs⟩ := hs
    have key : retR T c rv r → a.defers = [] ∧ ∃ v, (results fn a.tmps).run P w' = .ok v w' ∧ ∃ v', Ending.returned v = .returned v' ∧ RR w' w.heap.size (fun g => X g ∧ g < w.heap.size) r v' ∧ Below w.heap.size w w' := by
      intro hq
      obtain ⟨vs, hl, ht, hR⟩ := retR_sound hT hs hq
      refine ⟨hs.defers, _, results_run hr _ _ hl ht, _, rfl, hR, ?_⟩
      exact ⟨hs.ext.os, hs.ext.tape, hs.ext.output, hs.ext.size, fun k hk => hs.ext.block k hk (fun h => h)⟩
    cases e with
    | normal => exact key hq
    | exit => exact hq.elim
    | ret => exact key hq
  · refine ⟨by simp; omega, rfl, ⟨rfl, rfl, rfl, Nat.le_refl _, fun _ _ _ => rfl, fun _ cur _ h => ⟨cur, h, rfl⟩⟩, fun t => ?_, fun b blk hb => by simp [olk] at hb, fun b blk hb => by simp [olk] at hb, fun b b' g hb => by simp [olk] at hb, fun b g hb => by simp [olk] at hb, fun b x hx => by cases hx⟩
    simp only [lk_idx, Nat.zero_le, if_true, Nat.sub_zero]
    cases hu : args[t]? with
    | none => rw [List.getD_eq_getElem?_getD, hu]; exact FV.top
    | some u =>
      rw [List.getD_eq_getElem?_getD, hu]
      have ht : t < vs.size := by rw [← hlen]; exact (List.getElem?_eq_some_iff.1 hu).1
      have hv : vs[t]? = some vs[t] := by simp [ht]
      have := hargs t u _ hu hv
      rw [show (vs ++ Array.replicate (fn.ntmps - vs.size) undef).getD t undef = vs[t] by
        rw [Array.getD_eq_getD_getElem?, Array.getElem?_append_left ht, hv]; rfl]
      refine FV.of (this.sub fun g hg hX => ?_)
      rcases hX with ⟨b, hb, _⟩ | hX
      · simp [olk] at hb
      · exact hX.1.1
end
end Go.Abs
end
section
namespace Go.Abs
open Go.RowKit Go.ChangeShapes Go.WideShapes
set_option linter.unusedVariables false

def RdFs (rd : TypeId → List AV → Prop) : List Field → List AV → Prop
  | [], us => us = []
  | f :: fs, us => ∃ p q, us = p ++ q ∧ rd f.type p ∧ RdFs rd fs q
def RdN (rd : List AV → Prop) : Nat → List AV → Prop
  | 0, us => us = []
  | n + 1, us => ∃ p q, us = p ++ q ∧ rd p ∧ RdN rd n q
/-- the cells of a value of type t, read -/
def Rd (P : Program) : Nat → TypeId → List AV → Prop
  | 0, _, _ => False
  | d + 1, t, us => match P.underlying t with
    | some .bool => ∃ b, us = [.bool b]
    | some (.int k) => ∃ n, us = [.int k n] ∧ (Lit.int k n).wf = true
    | some .string => ∃ s : ByteArray, us = [.str s] ∧ s.size ≤ maxLen
    | some (.slice e) => ∃ rows : List (List AV), us = [.rsl (P.cellsOf e) rows.length rows] ∧ rows.length ≤ maxLen ∧ ∀ row ∈ rows, Rd P d e row
    | some (.struct fs) => RdFs (Rd P d) fs.toList us
    | some (.array n e) => RdN (Rd P d e) n us
    | _ => False
def tilesB (C : TypeId → Nat) : Nat → List Field → Nat → Bool
  | o, [], n => Nat.beq o n
  | o, f :: fs, n => Nat.beq f.offset o && tilesB C (o + C f.type) fs n
def plainT (P : Program) : Nat → TypeId → Bool
  | 0, _ => false
  | d + 1, t => match P.underlying t with
    | some .bool => true
    | some (.int _) => true
    | some .string => true
    | some (.slice e) => Nat.blt 0 (P.cellsOf e) && plainT P d e
    | some (.struct fs) => tilesB P.cellsOf 0 fs.toList (P.cellsOf t) && fs.toList.all fun f => plainT P d f.type
    | some (.array n e) => Nat.beq (P.cellsOf t) (n * P.cellsOf e) && plainT P d e
    | _ => false

def VRs (w : World) (us : List AV) (cs : List Value) : Prop :=
  us.length = cs.length ∧ (∀ c ∈ cs, c.oneCell' = true) ∧ ∀ (j : Nat) u c, us[j]? = some u → cs[j]? = some c → VR w (fun _ => False) K0 u c
theorem VRs.nil (w : World) : VRs w [] [] := ⟨rfl, by simp, by simp⟩
theorem VRs.append {w : World} {us us' : List AV} {cs cs' : List Value} (h : VRs w us cs) (h' : VRs w us' cs') : VRs w (us ++ us') (cs ++ cs') := by
  refine ⟨by simp [h.1, h'.1], fun c hc => ?_, fun j u c hu hc => ?_⟩
  · rcases List.mem_append.1 hc with hc | hc
    · exact h.2.1 c hc
    · exact h'.2.1 c hc
  · by_cases hj : j < us.length
    · rw [List.getElem?_append_left hj] at hu
      rw [List.getElem?_append_left (by rw [← h.1]; exact hj)] at hc
      exact h.2.2 j u c hu hc
    · rw [List.getElem?_append_right (by omega)] at hu
      rw [List.getElem?_append_right (by rw [← h.1]; omega), ← h.1] at hc
      exact h'.2.2 _ u c hu hc
theorem VRs.one {w : World} {u : AV} {c : Value} (h1 : c.oneCell' = true) (h : VR w (fun _ => False) K0 u c) : VRs w [u] [c] := by
  refine ⟨rfl, by simpa using h1, fun j u' c' hu hc => ?_⟩
  cases j with
  | zero => simp at hu hc; subst hu hc; exact h
  | succ j => simp at hu

section
variable {H : Type} {enc : TypeId × Value → H} {P : Program} {w : World} {base : Nat} {spare : Nat → Bool} {held : Bool}

theorem rdFs_of {C : TypeId → Nat} {rd : TypeId → List AV → Prop} {cs : List Value} : ∀ {fs : List Field} {o : Nat}, tilesB C o fs cs.length = true →
    (∀ f ∈ fs, ∃ us, rd f.type us ∧ VRs w us ((cs.drop f.offset).take (C f.type))) → ∃ us, RdFs rd fs us ∧ VRs w us (cs.drop o)
  | [], o, ht, _ => by
    have : o = cs.length := beq_true ht
    subst this
    exact ⟨[], rfl, by simpa using VRs.nil w⟩
  | f :: fs, o, ht, h => by
    simp only [tilesB, Bool.and_eq_true] at ht
    have ho : f.offset = o := beq_true ht.1
    obtain ⟨p, hp1, hp2⟩ := h f (by simp)
    obtain ⟨q, hq1, hq2⟩ := rdFs_of ht.2 fun f' hf' => h f' (by simp [hf'])
    refine ⟨p ++ q, ⟨p, q, rfl, hp1, hq1⟩, ?_⟩
    have e : cs.drop o = (cs.drop o).take (C f.type) ++ cs.drop (o + C f.type) := by
      rw [← List.drop_drop, List.take_append_drop]
    rw [e]
    rw [ho] at hp2
    exact hp2.append hq2
theorem rdN_of {C : Nat} {rd : List AV → Prop} {cs : List Value} (hl : ∀ n, cs.length = n * C → True) : ∀ {n i : Nat}, cs.length = (i + n) * C →
    (∀ j, i ≤ j → j < i + n → ∃ us, rd us ∧ VRs w us ((cs.drop (j * C)).take C)) → ∃ us, RdN rd n us ∧ VRs w us (cs.drop (i * C))
  | 0, i, hn, _ => by
    refine ⟨[], rfl, ?_⟩
    rw [List.drop_of_length_le (by rw [hn]; simp)]
    exact VRs.nil w
  | n + 1, i, hn, h => by
    obtain ⟨p, hp1, hp2⟩ := h i (Nat.le_refl _) (by omega)
    obtain ⟨q, hq1, hq2⟩ := rdN_of (i := i + 1) (n := n) hl (by rw [hn]; congr 1; omega) fun j h1 h2 => h j (by omega) (by omega)
    refine ⟨p ++ q, ⟨p, q, rfl, hp1, hq1⟩, ?_⟩
    have e : cs.drop (i * C) = (cs.drop (i * C)).take C ++ cs.drop ((i + 1) * C) := by
      rw [Nat.succ_mul, ← List.drop_drop, List.take_append_drop]
    rw [e]
    exact hp2.append hq2

theorem rows_of {C : Nat} {rd : List AV → Prop} {a : Addr} : ∀ {n : Nat}, (∀ i, i < n → ∃ us cs, rd us ∧ VRs w us cs ∧ w.cells? base (a.add (i * C)) C = some cs) →
    ∃ (rows : List (List AV)) (cs : List Value), rows.length = n ∧ (∀ row ∈ rows, row.length = C ∧ rd row) ∧ VRs w rows.flatten cs ∧ cs.length = n * C ∧ ∀ (j : Nat) c, cs[j]? = some c → w.cell? (a.add j) = some c
  | 0, _ => ⟨[], [], rfl, by simp, VRs.nil w, by simp, by simp⟩
  | n + 1, h => by
    obtain ⟨rows, cs, h1, h2, h3, h4, h5⟩ := rows_of (n := n) fun i hi => h i (by omega)
    obtain ⟨us, cs', k1, k2, k3⟩ := h n (by omega)
    obtain ⟨_, kl, kc⟩ := World.cells?_some k3
    refine ⟨rows ++ [us], cs ++ cs', by simp [h1], fun row hr => ?_, ?_, by simp [h4, kl, Nat.succ_mul], fun j c hc => ?_⟩
    · rcases List.mem_append.1 hr with hr | hr
      · exact h2 row hr
      · rw [List.mem_singleton] at hr; subst hr; exact ⟨k2.1.trans kl, k1⟩
    · rw [List.flatten_append]
      simpa using h3.append k2
    · by_cases hj : j < cs.length
      · rw [List.getElem?_append_left hj] at hc
        exact h5 j c hc
      · rw [List.getElem?_append_right (by omega)] at hc
        have hlt : j - cs.length < C := by rw [← kl]; exact (List.getElem?_eq_some_iff.1 hc).1
        have := kc _ hlt
        rw [hc, Go.Deep.add_add, show n * C + (j - cs.length) = j by rw [← h4]; omega] at this
        exact this

theorem trod_rd : ∀ (d : Nat) (t : TypeId) (fuel : Nat) (cs : List Value) (x : DataW H × List MemPlace), plainT P d t = true → DataW.trod enc P w base spare held fuel t cs = some x →
    ∃ us, Rd P d t us ∧ VRs w us cs
  | 0, t, fuel, cs, x, hp, h => by simp [plainT] at hp
  | d + 1, t, fuel, cs, x, hp, h => by
    unfold plainT at hp
    split at hp
    · rename_i ht
      obtain ⟨b, rfl, _⟩ := DataW.trod_bool ht h
      exact ⟨[.bool b], by simp [Rd, ht], VRs.one rfl .bool⟩
    · rename_i k ht
      obtain ⟨n, rfl, _, hw⟩ := DataW.trod_int ht h
      exact ⟨[.int k n], by simp [Rd, ht, hw], VRs.one rfl .int⟩
    · rename_i ht
      obtain ⟨s, rfl, _, hw⟩ := DataW.trod_string ht h
      exact ⟨[.str s], by simp [Rd, ht, hw], VRs.one rfl .str⟩
    · rename_i e ht
      rw [Bool.and_eq_true] at hp
      have hC : 0 < P.cellsOf e := Nat.le_of_ble_eq_true hp.1
      rcases Go.Deep.open_slice ht h with ⟨rfl, _⟩ | ⟨a, len, cap, m, n, D, Pl, rfl, hb, hl, hmax, hm, _, hi⟩
      · refine ⟨[.rsl (P.cellsOf e) 0 []], ?_, VRs.one rfl (.rsl (cs := []) rfl (by simp) (Nat.le_refl _) (fun _ => rfl) rfl (by simp) (fun h => absurd rfl h) (by simp))⟩
        simp only [Rd, ht]
        exact ⟨[], rfl, by simp, by simp⟩
      · have hml : len ≤ m := by rw [hm]; split <;> omega
        obtain ⟨rows, cs, h1, h2, h3, h4, h5⟩ := rows_of (w := w) (base := base) (C := P.cellsOf e) (rd := Rd P d e) (a := a) (n := len) fun i hi' => by
          obtain ⟨cs', hc, ht'⟩ := hi i (by omega)
          obtain ⟨us, hu, hv⟩ := trod_rd d e n cs' _ hp.2 ht'
          exact ⟨us, cs', hu, hv, hc⟩
        subst h1
        refine ⟨[.rsl (P.cellsOf e) rows.length rows], ?_, VRs.one rfl ?_⟩
        · simp only [Rd, ht]
          exact ⟨rows, rfl, by omega, fun row hr => (h2 row hr).2⟩
        · refine .rsl rfl (fun row hr => (h2 row hr).1) hl (fun h => by cases h) h3.1.symm h3.2.1 (fun hne => ?_) h3.2.2
          have hpos : 0 < cs.length := by
            rw [h4]
            exact Nat.mul_pos (List.length_pos_iff.2 hne) hC
          have h0 := h5 0 _ (List.getElem?_eq_getElem hpos)
          obtain ⟨g, o, sp⟩ := a
          have hsp : sp = none := by simpa [Addr.add] using World.cell?_spot h0
          subst hsp
          refine ⟨g, o, rfl, ?_, fun h => h, fun j c hj => ?_⟩
          · have : w.cell? ⟨g, o, none⟩ = some cs[0] := by simpa [Addr.add] using h0
            unfold World.cell? at this
            cases hg : w.heap[g]? with
            | none => simp [hg] at this
            | some ob => exact (Array.getElem?_eq_some_iff.1 hg).1
          · have := h5 j c hj
            rwa [addr_add] at this
    · rename_i fs ht
      rw [Bool.and_eq_true] at hp
      obtain ⟨xs, n, _, _, hlen, hxl, hf⟩ := DataW.trod_struct ht h
      obtain ⟨us, hu, hv⟩ := rdFs_of (w := w) (C := P.cellsOf) (rd := Rd P d) (cs := cs) (fs := fs.toList) (o := 0) (by rw [hlen]; exact hp.1) fun f hf' => by
        obtain ⟨i, hi⟩ := List.getElem?_of_mem hf'
        have hi' : fs[i]? = some f := by simpa using hi
        have hil : i < xs.length := by rw [hxl]; exact (Array.getElem?_eq_some_iff.1 hi').1
        have := hf i f hi'
        rw [List.getElem?_eq_getElem hil] at this
        exact trod_rd d f.type n _ _ (List.all_eq_true.1 hp.2 f hf') this
      exact ⟨us, by simp only [Rd, ht]; exact hu, by simpa using hv⟩
    · rename_i n e ht
      rw [Bool.and_eq_true] at hp
      obtain ⟨xs, m, _, _, hlen, hxl, hf⟩ := DataW.trod_array ht h
      obtain ⟨us, hu, hv⟩ := rdN_of (w := w) (C := P.cellsOf e) (rd := Rd P d e) (cs := cs) (n := n) (i := 0) (fun _ _ => trivial) (by rw [hlen, beq_true hp.1]; simp) fun j _ hj => by
        have hj' : j < n := by omega
        have := hf j hj'
        rw [List.getElem?_eq_getElem (by omega)] at this
        exact trod_rd d e m _ _ hp.2 this
      exact ⟨us, by simp only [Rd, ht]; exact hu, by simpa using hv⟩
    · cases hp

/-- an argument, read -/
def RdV (P : Program) (d : Nat) (t : TypeId) (u : AV) : Prop :=
  match P.underlying t with
  | some (.struct _) => ∃ us, u = .agg us ∧ Rd P d t us
  | some (.array _ _) => ∃ us, u = .agg us ∧ Rd P d t us
  | _ => Rd P d t [u]
theorem arg_rd {r : Reach} {b0 d : Nat} {t : TypeId} {v : Value} {dd : DataW H} {p : List MemPlace} (hp : plainT P d t = true) (hv : Value.okWide P w r b0 t v) (h : DataW.Trod enc P w base spare held t v dd p) :
    ∃ u, RdV P d t u ∧ VR w (fun _ => False) K0 u v := by
  obtain ⟨fuel, hf⟩ := h
  obtain ⟨us, hu, hvs⟩ := trod_rd d t fuel _ _ hp hf
  have agg : ∀ cs, v = .agg cs → VR w (fun _ => False) K0 (.agg us) v := by
    rintro cs rfl
    have e : (Value.agg cs).cells.toList = cs.toList := rfl
    rw [e] at hvs
    refine .agg (by simpa using hvs.1) (fun j c hc => hvs.2.1 c (by simpa using Array.mem_of_getElem? hc)) fun j u c hu hc => hvs.2.2 j u c hu (by simpa using hc)
  have single : ∀ c, v.cells.toList = [c] → c = v → ∃ u, us = [u] ∧ VR w (fun _ => False) K0 u v := by
    rintro c hc rfl
    rw [hc] at hvs
    match us, hvs.1 with
    | [u], _ => exact ⟨u, rfl, hvs.2.2 0 u c rfl rfl⟩
  unfold RdV
  split
  · rename_i fs ht
    unfold Value.okWide at hv
    rw [ht] at hv
    obtain ⟨cs, rfl, _⟩ := hv
    exact ⟨.agg us, ⟨us, rfl, hu⟩, agg cs rfl⟩
  · rename_i n e ht
    unfold Value.okWide at hv
    rw [ht] at hv
    obtain ⟨cs, rfl, _⟩ := hv
    exact ⟨.agg us, ⟨us, rfl, hu⟩, agg cs rfl⟩
  · rename_i h1 h2
    cases d with
    | zero => simp [plainT] at hp
    | succ d =>
      unfold plainT at hp
      split at hp
      · rename_i ht
        obtain ⟨b, rfl⟩ := okWide_bool ht hv
        obtain ⟨u, rfl, hu'⟩ := single _ rfl rfl
        exact ⟨u, hu, hu'⟩
      · rename_i k ht
        obtain ⟨b, rfl⟩ := okWide_int ht hv
        obtain ⟨u, rfl, hu'⟩ := single _ rfl rfl
        exact ⟨u, hu, hu'⟩
      · rename_i ht
        obtain ⟨b, rfl⟩ := okWide_string ht hv
        obtain ⟨u, rfl, hu'⟩ := single _ rfl rfl
        exact ⟨u, hu, hu'⟩
      · rename_i e ht
        obtain ⟨a, l, c, rfl⟩ := okWide_slice ht hv
        obtain ⟨u, rfl, hu'⟩ := single _ rfl rfl
        exact ⟨u, hu, hu'⟩
      · rename_i fs ht; exact absurd ht (h1 fs)
      · rename_i n e ht; exact absurd ht (h2 n e)
      · cases hp
end
end Go.Abs
end
