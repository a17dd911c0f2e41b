import Derived.Test.YteihenhffdckiaaGreatDoorJ12
section
namespace Go.Abs
open Go.RowKit
set_option linter.unusedVariables false

section
variable {P : Program} {T : Tab} {E : Env} {c c' : Cfg} {a : Act} {w : World} {o : Oper} {r : Res} {ops : Array Oper} {dm : List (Nat × Bool)} {N : Nat} {dr : Bool}
/-! ### a region that draws its order, with a call behind all else -/
set_option maxHeartbeats 1000000 in
theorem draw_any (hT : TabOK P T) (h1 : TabOne T = true) (hN : E.N = N) (hst : drawSt ops = true) {Kk : Cfg → Prop} {Q : Exit → Act → World → Prop}
    (hQ : ∀ c a w, Kk c → SR E c a w → Q .normal a w) (h : evOps true P T N dm ops ⟨c, [], []⟩ 0 ops.toList c Kk) (hs : SR E c a w) : wpAny P .any ops Q ops.size (Array.replicate ops.size false) a { w with drawn := w.drawn + 1 } := by
  simp only [drawSt, Bool.and_eq_true] at hst
  obtain ⟨⟨hju, hed⟩, hpa⟩ := hst
  obtain ⟨rs, hlen, houts, hfin⟩ := evOps_outs h
  have hacc : AccOK ⟨c, [], []⟩ := by intro q hq; cases hq
  have hj : ∀ (j : Nat) o r, ops.toList[j]? = some o → rs[j]? = some r → StepOK true P T N ops o (cfgS (fun k => decide (k < j)) 0 ops.toList rs c) r ∧ NoP r ∧
      (∀ (k : Nat) o' r', k < j → ops.toList[k]? = some o' → rs[k]? = some r' → ordB (befores ops.toList) k j = true ∨ IndepP (mkRec o' (cfgS (fun m => decide (m < k)) 0 ops.toList rs c) r'.D r'.pg r'.v) (mkRec o (cfgS (fun m => decide (m < j)) 0 ops.toList rs c) r.D r.pg r.v)) ∧
      (r.nw = true → ∀ b x, (b, x) ∈ r.D → fresh b c = true ∧ ∀ (k : Nat) o' r', k < j → ops.toList[k]? = some o' → rs[k]? = some r' → outB (mkRec o' (cfgS (fun m => decide (m < k)) 0 ops.toList rs c) r'.D r'.pg r'.v) b = false) := by
    intro j o r ho hr
    obtain ⟨B, b1, b2, _, b4, b5, b6⟩ := outs_get houts hacc ho hr
    simp only [Nat.zero_add] at b4 b5 b6
    obtain ⟨d1, d2, d3⟩ := dr_of b1 b5
    refine ⟨b4, d1, fun k o' r' hk ho' hr' => d2 _ (b6 k o' r' hk ho' hr'), fun hnw b x hb => ?_⟩
    obtain ⟨f1, f2⟩ := d3 hnw b x hb
    rw [b2] at f1
    exact ⟨f1, fun k o' r' hk ho' hr' => f2 _ (b6 k o' r' hk ho' hr')⟩
  simp only [Nat.zero_add] at hfin
  have hn : ops.toList.length = ops.size := by simp
  have hget : ∀ j, j < ops.size → ∃ o r, ops.toList[j]? = some o ∧ rs[j]? = some r := fun j hj' => ⟨_, _, List.getElem?_eq_getElem (by simpa using hj'), List.getElem?_eq_getElem (by rw [hlen]; simpa using hj')⟩
  have hpg : ∀ r ∈ rs, NoP r := by
    intro r hr
    obtain ⟨j, hjr⟩ := List.getElem?_of_mem hr
    have hjl : j < ops.size := by have := (List.getElem?_eq_some_iff.1 hjr).1; rw [hlen] at this; simpa using this
    obtain ⟨o, r', ho, hr'⟩ := hget j hjl
    rw [hjr] at hr'; injection hr' with hr'; subst hr'
    exact (hj j o r ho hjr).2.1
  -- unordered pairs are apart
  have hapart : ∀ (i j : Nat) (x y : Oper), i < j → ops.toList[i]? = some x → ops.toList[j]? = some y → ordB (befores ops.toList) i j = false → x.apart ops y = true := by
    intro i j x y hij hx hy ho
    have hjl : j < ops.size := by have := (List.getElem?_eq_some_iff.1 hy).1; simpa using this
    have h2 := List.all_eq_true.1 (List.all_eq_true.1 hpa j (List.mem_range.2 hjl)) i (List.mem_range.2 hij)
    rw [ho, Bool.false_or] at h2
    simp only [Array.getElem?_toList] at hx hy
    rw [hx, hy] at h2
    exact h2
  have key : ∀ (fuel : Nat) (listed : Array Bool) (a : Act) (w : World), listed.size = ops.size → listed.toList.count false = fuel →
      (∀ (j : Nat) o, ops.toList[j]? = some o → listed.getD j false = true → ∀ e ∈ o.after, Region.binds .any e = true → listed.getD e.on false = true) →
      SR E (cfgS (fun k => listed.getD k false) 0 ops.toList rs c) a w → wpAny P .any ops Q fuel listed a w := by
    intro fuel
    induction fuel with
    | zero =>
      intro listed a w hsz hcnt hcl hs
      have hall : ∀ k, k < ops.size → listed.getD k false = true := by
        intro k hk
        have hk' : k < listed.size := by omega
        have : false ∉ listed.toList := List.count_eq_zero.1 hcnt
        cases hb : listed[k] with
        | true => simp [Array.getD, hk', hb]
        | false => exact absurd (Array.mem_toList_iff.2 (by rw [← hb]; exact Array.getElem_mem hk')) this
      refine ⟨?_, hQ _ a w hfin ?_⟩
      · unfold Region.ready
        rw [List.filter_eq_nil_iff]
        intro k hk
        have hk' : k < ops.size := List.mem_range.1 hk
        have := hall k hk'
        have hk'' : k < listed.size := by omega
        simp [Array.getD, hk''] at this ⊢
        simp [this]
      · have e : cfgS (fun k => decide (k < ops.toList.length)) 0 ops.toList rs c = cfgS (fun k => listed.getD k false) 0 ops.toList rs c := cfgS_congr fun k hk => by
          simp only [Nat.zero_add]
          rw [hall k (by simpa using hk)]
          simpa using hk
        rw [e]
        exact hs
    | succ fuel ih =>
      intro listed a w hsz hcnt hcl hs
      have hmem : ∀ i, i ∈ Region.ready .any ops listed ↔ i < ops.size ∧ listed.getD i false = false ∧ ∀ o, ops.toList[i]? = some o → ∀ e ∈ o.after, Region.binds .any e = true → listed.getD e.on false = true := by
        intro i
        unfold Region.ready
        rw [List.mem_filter, List.mem_range]
        constructor
        · rintro ⟨hi, hb⟩
          rw [Bool.and_eq_true] at hb
          have hi' : i < listed.size := by omega
          refine ⟨hi, by have := hb.1; simp [Array.getD, hi'] at this ⊢; exact this, fun o ho e he hbe => ?_⟩
          have ho' : ops[i]? = some o := by simpa using ho
          have h2 := hb.2
          rw [ho'] at h2
          simp only [Option.map_some, Option.getD_some, Array.all_eq_true_iff_forall_mem] at h2
          have := h2 e he
          simpa [hbe] using this
        · rintro ⟨hi, hl, hb⟩
          refine ⟨hi, ?_⟩
          rw [Bool.and_eq_true]
          have hi' : i < listed.size := by omega
          refine ⟨by simp [Array.getD, hi'] at hl ⊢; exact hl, ?_⟩
          have ho' : ops[i]? = some ops[i] := by simp [hi]
          rw [ho']
          simp only [Option.map_some, Option.getD_some, Array.all_eq_true_iff_forall_mem]
          intro e he
          cases hbe : Region.binds .any e
          · rfl
          · simpa using hb ops[i] (by simp [hi]) e he hbe
      refine ⟨fun hnil => ?_, fun i hi => ?_⟩
      · -- something is left, and the first that is left can come
        exfalso
        have hex : ∃ k, k < ops.size ∧ listed.getD k false = false := by
          have : false ∈ listed.toList := List.count_pos_iff.1 (by omega)
          obtain ⟨k, hk, he⟩ := List.mem_iff_getElem.1 this
          have hk' : k < listed.size := by simpa using hk
          exact ⟨k, by omega, by simp [Array.getD, hk']; simpa using he⟩
        obtain ⟨k, hk1, hk2, hk3⟩ : ∃ k, k < ops.size ∧ listed.getD k false = false ∧ ∀ m, m < k → listed.getD m false = true := by
          obtain ⟨k, hk⟩ := hex
          induction k using Nat.strongRecOn with
          | _ k ihk =>
            by_cases hm' : ∃ m, m < k ∧ listed.getD m false = false
            · obtain ⟨m, hm1, hm2⟩ := hm'
              exact ihk m hm1 ⟨by omega, hm2⟩
            · exact ⟨k, hk.1, hk.2, fun m hm1 => by
                cases hb : listed.getD m false
                · exact absurd ⟨m, hm1, hb⟩ hm'
                · rfl⟩
        have : k ∈ Region.ready .any ops listed := (hmem k).2 ⟨hk1, hk2, fun o ho e he hbe => by
          have h2 := List.all_eq_true.1 hed k (List.mem_range.2 (by simpa using hk1))
          rw [ho] at h2
          have h3 := List.all_eq_true.1 h2 e (by simpa using he)
          rw [hbe] at h3
          simp only [Bool.not_true, Bool.false_or] at h3
          exact hk3 e.on (Nat.le_of_ble_eq_true h3)⟩
        rw [hnil] at this
        cases this
      · obtain ⟨hil, hiu, hir⟩ := (hmem i).1 hi
        obtain ⟨o, r, ho, hr⟩ := hget i hil
        have hstep := (hj i o r ho hr).1
        have hil' : i < listed.size := by omega
        -- who is chosen
        have before : ∀ k, k < i → listed.getD k false = false → ordB (befores ops.toList) k i = false := by
          intro k hk hl
          cases hb : ordB (befores ops.toList) k i
          · rfl
          · have := ord_in hju hcl i o ho (hir o ho) k (by simp; omega) hb
            rw [hl] at this; cases this
        have behind : ∀ k, i < k → k < ops.size → listed.getD k false = true → ordB (befores ops.toList) i k = false := by
          intro k hk hkl hl
          cases hb : ordB (befores ops.toList) i k
          · rfl
          · obtain ⟨o', r', ho', _⟩ := hget k hkl
            have := ord_in hju hcl k o' ho' (hcl k o' ho' hl) i (by simp; omega) hb
            rw [hiu] at this; cases this
        -- who is chosen and touches what the operation looks at
        have touch : ∀ (k : Nat) x t, ops.toList[k]? = some x → x.dst = some t → t ∈ o.looksAt ops → listed.getD k false = decide (k < i) := by
          intro k x t hx hxt hto
          have hkl : k < ops.size := by have := (List.getElem?_eq_some_iff.1 hx).1; simpa using this
          rcases Nat.lt_trichotomy k i with hlt | heq | hgt
          · cases hl : listed.getD k false
            · have := hapart k i x o hlt hx ho (before k hlt hl)
              exact absurd hto ((Oper.apart_spec this).1 t hxt)
            · simp [hlt]
          · subst heq; rw [hiu]; simp
          · cases hl : listed.getD k false
            · simp; omega
            · have := hapart i k o x hgt ho hx (behind k hgt hkl hl)
              exact absurd hto ((Oper.apart_spec this).2.2 t hxt)
        have writers : ∀ (b k : Nat) r', k < ops.size → rs[k]? = some r' → b ∈ wids r'.D r'.pg → k ≠ i → (b ∈ wids r.D r.pg ∨ (lookO o = true ∧ RReach (olk (cfgS (fun m => decide (m < i)) 0 ops.toList rs c).O) (o.op.operands.toList.map (opv (cfgS (fun m => decide (m < i)) 0 ops.toList rs c))) b)) → listed.getD k false = decide (k < i) := by
          intro b k r' hkl hr' hb hki hor
          obtain ⟨o', r'', ho', hr''⟩ := hget k hkl
          rw [hr'] at hr''; injection hr'' with hr''; subst hr''
          have no : reachB (mkRec o (cfgS (fun m => decide (m < i)) 0 ops.toList rs c) r.D r.pg r.v) b = false ∧ b ∉ wids r.D r.pg → False := by
            rintro ⟨n1, n2⟩
            rcases hor with hor | hor
            · exact n2 hor
            · have e : mkRec o (cfgS (fun m => decide (m < i)) 0 ops.toList rs c) r.D r.pg r.v = ⟨o.op.operands.toList.map (opv (cfgS (fun m => decide (m < i)) 0 ops.toList rs c)), (cfgS (fun m => decide (m < i)) 0 ops.toList rs c).O, r.v, r.D, r.pg⟩ := by
                unfold mkRec; rw [hor.1]
              rw [e] at n1
              exact reach_of n1 hor.2
          rcases Nat.lt_or_ge k i with hlt | hge
          · cases hl : listed.getD k false
            · rcases (hj i o r ho hr).2.2.1 k o' r' hlt ho' hr' with h2 | h2
              · rw [before k hlt hl] at h2; cases h2
              · exact (no ⟨(h2.1 b hb).1, (h2.1 b hb).2.1⟩).elim
            · simp [hlt]
          · have hgt : i < k := by omega
            cases hl : listed.getD k false
            · simp; omega
            · rcases (hj k o' r' ho' hr').2.2.1 i o r hgt ho hr with h2 | h2
              · rw [behind k hgt hkl hl] at h2; cases h2
              · exact (no ⟨(h2.2 b hb).1, (h2.2 b hb).2.1⟩).elim
        -- the step in the state that is there
        have hstep' : StepOK true P T N ops o (cfgS (fun k => listed.getD k false) 0 ops.toList rs c) r := by
          have holk : ∀ b, (b ∈ wids r.D r.pg ∨ (lookO o = true ∧ RReach (olk (cfgS (fun m => decide (m < i)) 0 ops.toList rs c).O) (o.op.operands.toList.map (opv (cfgS (fun m => decide (m < i)) 0 ops.toList rs c))) b)) →
              olk (cfgS (fun k => listed.getD k false) 0 ops.toList rs c).O b = olk (cfgS (fun m => decide (m < i)) 0 ops.toList rs c).O b := by
            intro b hor
            refine cfgS_olk hpg (fun k r' hk hr' hb => ?_) rfl
            simp only [Nat.zero_add]
            by_cases hki : k = i
            · subst hki; rw [hiu]; simp
            · exact writers b k r' (by simpa using hk) hr' hb hki hor
          refine hstep.transport (fun t ht => ?_) (fun b hm hb => holk b (.inr ⟨hm, hb⟩)) ?_ fun hfd => ?_
          · exact cfgS_lk hpg (fun k x hx hxt => by simp only [Nat.zero_add]; exact touch k x t hx hxt ht) rfl
          · have hd0 : dstOK N (cfgS (fun k => decide (k < i)) 0 ops.toList rs c) o.dst = true := by cases hstep <;> assumption
            cases hdst : o.dst with
            | none => rfl
            | some d =>
              rw [hdst] at hd0
              simp only [dstOK, Bool.and_eq_true] at hd0 ⊢
              refine ⟨hd0.1, ?_⟩
              obtain ⟨n1, n2⟩ := noOpt_cfgS hpg hd0.2
              refine cfgS_noOpt hpg n1 fun k x r' hx hr' hsel hxd w' v' hv => ?_
              simp only [Nat.zero_add] at hsel n2
              have hkl : k < ops.size := by have := (List.getElem?_eq_some_iff.1 hx).1; simpa using this
              rcases Nat.lt_trichotomy k i with hlt | heq | hgt
              · exact n2 k x r' hx hr' (by simpa using hlt) hxd w' v' hv
              · subst heq; rw [hiu] at hsel; cases hsel
              · have hap := hapart i k o x hgt ho hx (behind k hgt hkl hsel)
                exact (Oper.apart_spec hap).1 d hdst ((hj k x r' hx hr').1.tag hv)
          · rw [freshD_all] at hfd ⊢
            intro b x hb
            obtain ⟨h1', h2'⟩ := hfd b x hb
            refine ⟨fun hnw => ?_, fun hnw => by rw [holk b (.inl (wids_of hb))]; exact h2' hnw⟩
            obtain ⟨g1, g2⟩ := (hj i o r ho hr).2.2.2 hnw b x hb
            refine cfgS_fresh hpg g1 fun k o' r' ho' hr' hsel => ?_
            simp only [Nat.zero_add] at hsel
            have hkl : k < ops.size := by have := (List.getElem?_eq_some_iff.1 ho').1; simpa using this
            rcases Nat.lt_trichotomy k i with hlt | heq | hgt
            · have := out_of (g2 k o' r' hlt ho' hr')
              exact ⟨this.1, this.2.1⟩
            · subst heq; rw [hiu] at hsel; cases hsel
            · rcases (hj k o' r' ho' hr').2.2.1 i o r hgt ho hr with h2 | h2
              · rw [behind k hgt hkl hsel] at h2; cases h2
              · rcases (h2.1 b (wids_of hb)).2.2 with q | q
                · exfalso
                  have hf := (fresh_of (h1' hnw)).1
                  have hsome := q.2
                  unfold mkRec at hsome
                  simp only at hsome
                  split at hsome
                  · simp [olk] at hsome
                  · rw [hf] at hsome; cases hsome
                · have := out_of q
                  exact ⟨this.1, this.2.1⟩
        refine wpOp_mono (fun a' w' hs' => ?_) (step_sound hT h1 hN (by simpa using ho) hstep' hs)
        -- the state behind it
        have hL : ∀ k, (listed.setIfInBounds i true).getD k false = if k = i then true else listed.getD k false := by
          intro k
          simp only [Array.getD_eq_getD_getElem?, Array.getElem?_setIfInBounds]
          by_cases hk : i = k
          · subst hk; simp [hil']
          · rw [if_neg hk, if_neg (fun e => hk e.symm)]
        refine ih (listed.setIfInBounds i true) a' w' (by simp [hsz]) ?_ ?_ ?_
        · have hli : listed.toList[i]? = some false := by
            have := hiu
            simp [Array.getD, hil'] at this
            simp [hil', this]
          have := count_set hli
          rw [Array.toList_setIfInBounds]
          omega
        · intro j o' ho' hl e he hbe
          rw [hL] at hl ⊢
          split
          · rfl
          · split at hl
            · rename_i hji; subst hji
              exact hir o' ho' e he hbe
            · exact hcl j o' ho' hl e he hbe
        · refine hs'.same (fun t => ?_) ?_
          · rw [lk_app (hpg r (List.mem_of_getElem? hr))]
            by_cases hdt : o.dst = some t
            · rw [if_pos hdt]
              refine cfgS_last hpg ho hr hdt (by simp [hL]) fun k x hik hx hxt => ?_
              simp only [Nat.zero_add, hL]
              rw [if_neg (by omega)]
              cases hl : listed.getD k false
              · rfl
              · have hkl : k < ops.size := by have := (List.getElem?_eq_some_iff.1 hx).1; simpa using this
                have hap := hapart i k o x hik ho hx (behind k hik hkl hl)
                exact absurd hxt ((Oper.apart_spec hap).2.1 t hdt)
            · rw [if_neg hdt]
              refine cfgS_lk hpg (fun k x hx hxt => ?_) rfl
              simp only [Nat.zero_add, hL]
              rw [if_neg]
              rintro rfl
              rw [ho] at hx; injection hx with hx; subst hx; exact hdt hxt
          · intro b
            by_cases hb : b ∈ wids r.D r.pg
            · refine cfgS_olk_last hpg ho hr hb (by simp [hL]) fun k r' hik hr' hb' => ?_
              simp only [Nat.zero_add, hL]
              rw [if_neg (by omega)]
              have hkl : k < ops.size := by have := (List.getElem?_eq_some_iff.1 hr').1; rw [hlen] at this; simpa using this
              rw [writers b k r' hkl hr' hb' (by omega) (.inl hb)]
              simp; omega
            · rw [olk_app_not (hpg r (List.mem_of_getElem? hr)) hb]
              refine cfgS_olk hpg (fun k r' hk hr' hb' => ?_) rfl
              simp only [Nat.zero_add, hL]
              rw [if_neg]
              rintro rfl
              rw [hr] at hr'; injection hr' with hr'; subst hr'; exact hb hb'
  have hrep : ∀ k, (Array.replicate ops.size false).getD k false = false := by
    intro k
    rw [Array.getD_eq_getD_getElem?]
    rw [Array.getElem?_replicate]
    split <;> rfl
  refine key ops.size (Array.replicate ops.size false) a _ (by simp) (by simp) (fun j o ho hl => ?_) ?_
  · rw [hrep] at hl; cases hl
  · obtain ⟨K, hs⟩ := hs
    rw [cfgS_none _ _ _ _ _ (fun k _ => hrep k)]
    exact ⟨K, hs.move (Step.drawn _ w (w.drawn + 1))⟩

theorem upon_monoQ {o : Oper} {a : Act} {w : World} {K : Act → World → Prop} {Q Q' : Exit → Act → World → Prop} (h : ∀ e a w, e ≠ .normal → Q' e a w → Q e a w)
    (hh : o.wp P a w K Q') : o.wp P a w K Q := by
  unfold Oper.wp at *
  generalize (execOp a.eval o).run P w = r at *
  have hl : LetsOut Q' → LetsOut Q := fun ⟨a, w, q⟩ => ⟨a, w, h _ _ _ (by simp) q⟩
  cases r with
  | ok n w' =>
    cases n <;> simp only [Oper.upon] at hh ⊢ <;>
      first
        | exact hh
        | exact Calls.mono hh (fun e w'' he => by cases e <;> first | exact he | exact h _ _ _ (by simp) he | exact hl he)
  | halt x w' => cases x <;> simp only [Oper.upon] at hh ⊢ <;> first | exact hh | exact h _ _ _ (by simp) hh | exact hl hh
/-- what is asked, once, of the last operation -/
def lastOK (ops : Array Oper) (n : Nat) : Bool := justified ops.toList (befores ops.toList) && edgesDown ops.toList && (List.range n).all (fun k => ordB (befores ops.toList) k n)
def noGuards (ops : Array Oper) : Bool := ops.toList.all fun o => o.guard.isNone
theorem mem_ready {ops : Array Oper} {listed : Array Bool} (hsz : listed.size = ops.size) (i : Nat) : i ∈ Region.ready .any ops listed ↔ i < ops.size ∧ listed.getD i false = false ∧ ∀ o, ops.toList[i]? = some o → ∀ e ∈ o.after, Region.binds .any e = true → listed.getD e.on false = true := by
  unfold Region.ready
  rw [List.mem_filter, List.mem_range]
  constructor
  · rintro ⟨hi, hb⟩
    rw [Bool.and_eq_true] at hb
    have hi' : i < listed.size := by omega
    refine ⟨hi, by have := hb.1; simp [Array.getD, hi'] at this ⊢; exact this, fun o ho e he hbe => ?_⟩
    have ho' : ops[i]? = some o := by simpa using ho
    have h2 := hb.2
    rw [ho'] at h2
    simp only [Option.map_some, Option.getD_some, Array.all_eq_true_iff_forall_mem] at h2
    have := h2 e he
    simpa [hbe] using this
  · rintro ⟨hi, hl, hb⟩
    refine ⟨hi, ?_⟩
    rw [Bool.and_eq_true]
    have hi' : i < listed.size := by omega
    refine ⟨by simp [Array.getD, hi'] at hl ⊢; exact hl, ?_⟩
    have ho' : ops[i]? = some ops[i] := by simp [hi]
    rw [ho']
    simp only [Option.map_some, Option.getD_some, Array.all_eq_true_iff_forall_mem]
    intro e he
    cases hbe : Region.binds .any e
    · rfl
    · simpa using hb ops[i] (by simp [hi]) e he hbe
theorem getD_push (l : Array Bool) (i : Nat) : (l.push false).getD i false = l.getD i false := by
  simp only [Array.getD_eq_getD_getElem?, Array.getElem?_push]
  split
  · rename_i h; subst h; simp
  · rfl
theorem wpOp_up {opsA : Array Oper} {o : Oper} {Q Q' : Exit → Act → World → Prop} (hQ : ∀ e a w, e ≠ .normal → Q' e a w → Q e a w) (hg : noGuards opsA = true) {i : Nat} (hi : i < opsA.size) {K K' : Act → World → Prop} (hK : ∀ a w, K a w → K' a w) (h : wpOp P opsA Q' i K a w) : wpOp P (opsA.push o) Q i K' a w := by
  have ho : opsA[i]? = some opsA[i] := by simp [hi]
  have hg1 : opsA[i].guard = none := by
    have := List.all_eq_true.1 hg opsA[i] (by simp)
    simpa using this
  have hw : ∀ y, Region.wanted opsA[i] y = true := fun y => by unfold Region.wanted; rw [hg1]
  unfold wpOp at h ⊢
  rw [ho] at h
  rw [show (opsA.push o)[i]? = some opsA[i] by rw [Array.getElem?_push, if_neg (by omega)]; exact ho]
  simp only [hw, if_true] at h ⊢
  rcases h with h | ⟨h1, h2⟩
  · exact .inl (Oper.wp_mono hK (upon_monoQ hQ h))
  · obtain ⟨a', w', h2⟩ := h2
    exact .inr ⟨h1, a', w', hQ _ _ _ (by simp) h2⟩
theorem wpAny_last {opsA : Array Oper} {o : Oper} {Q Q' : Exit → Act → World → Prop} (hQ : ∀ e a w, e ≠ .normal → Q' e a w → Q e a w) (hok : lastOK (opsA.push o) opsA.size = true) (hg : noGuards opsA = true) (hlast : ∀ a w, Q' .normal a w → wpOp P (opsA.push o) Q opsA.size (fun a w => Q .normal a w) a w) :
    ∀ (fuel : Nat) (listed : Array Bool) (a : Act) (w : World), listed.size = opsA.size → listed.toList.count false = fuel → (∀ (j : Nat) o, opsA.toList[j]? = some o → listed.getD j false = true → ∀ e ∈ o.after, Region.binds .any e = true → listed.getD e.on false = true) →
      wpAny P .any opsA Q' fuel listed a w → wpAny P .any (opsA.push o) Q (fuel + 1) (listed.push false) a w := by
  simp only [lastOK, Bool.and_eq_true] at hok
  obtain ⟨⟨hju, hed⟩, hall⟩ := hok
  have hps : (opsA.push o).size = opsA.size + 1 := by simp
  have hop : ∀ {j : Nat}, j < opsA.size → (opsA.push o).toList[j]? = opsA.toList[j]? := by
    intro j hj
    simp only [Array.getElem?_toList]
    rw [Array.getElem?_push, if_neg (by omega)]
  have hol : (opsA.push o).toList[opsA.size]? = some o := by simp
  intro fuel
  induction fuel with
  | zero =>
    intro listed a w hsz hcnt hcl h
    have hl : ∀ k, k < opsA.size → listed.getD k false = true := by
      intro k hk
      have hk' : k < listed.size := by omega
      have : false ∉ listed.toList := List.count_eq_zero.1 hcnt
      cases hb : listed[k] with
      | true => simp [Array.getD, hk', hb]
      | false => exact absurd (Array.mem_toList_iff.2 (by rw [← hb]; exact Array.getElem_mem hk')) this
    obtain ⟨_, hn⟩ := h
    have hr : opsA.size ∈ Region.ready .any (opsA.push o) (listed.push false) := by
      refine (mem_ready (by simp [hsz]) _).2 ⟨by simp, by rw [getD_push]; simp [Array.getD, hsz], fun o' ho' e he hbe => ?_⟩
      have h2 := List.all_eq_true.1 hed opsA.size (List.mem_range.2 (by simp))
      rw [hol] at h2 ho'
      injection ho' with ho'; subst ho'
      have h3 := List.all_eq_true.1 h2 e (by simpa using he)
      rw [hbe] at h3
      simp only [Bool.not_true, Bool.false_or] at h3
      rw [getD_push]
      exact hl _ (Nat.le_of_ble_eq_true h3)
    refine ⟨fun h0 => (by rw [h0] at hr; cases hr), fun i hi => ?_⟩
    obtain ⟨h1, h2, h3⟩ := (mem_ready (by simp [hsz]) i).1 hi
    have hin : i = opsA.size := by
      by_cases hlt : i < opsA.size
      · rw [getD_push, hl i hlt] at h2; cases h2
      · omega
    subst hin
    refine wpOp_mono (fun a w q => ⟨?_, q⟩) (hlast a w hn)
    rw [List.eq_nil_iff_forall_not_mem]
    intro k hk
    obtain ⟨k1, k2, _⟩ := (mem_ready (by simp [hsz]) k).1 hk
    have : ((listed.push false).setIfInBounds opsA.size true).getD k false = true := by
      simp only [Array.getD_eq_getD_getElem?, Array.getElem?_setIfInBounds]
      by_cases hkn : opsA.size = k
      · rw [if_pos hkn, if_pos (by simp [hsz])]; rfl
      · rw [if_neg hkn]
        have := hl k (by simp at k1; omega)
        rw [← getD_push, Array.getD_eq_getD_getElem?] at this
        exact this
    rw [this] at k2; cases k2
  | succ fuel ih =>
    intro listed a w hsz hcnt hcl h
    have hex : ∃ k, k < opsA.size ∧ listed.getD k false = false := by
      have : false ∈ listed.toList := List.count_pos_iff.1 (by omega)
      obtain ⟨k, hk, he⟩ := List.mem_iff_getElem.1 this
      have hk' : k < listed.size := by simpa using hk
      exact ⟨k, by omega, by simp [Array.getD, hk']; simpa using he⟩
    obtain ⟨k, hk1, hk2, hk3⟩ : ∃ k, k < opsA.size ∧ listed.getD k false = false ∧ ∀ m, m < k → listed.getD m false = true := by
      obtain ⟨k, hk⟩ := hex
      induction k using Nat.strongRecOn with
      | _ k ihk =>
        by_cases hm' : ∃ m, m < k ∧ listed.getD m false = false
        · obtain ⟨m, hm1, hm2⟩ := hm'
          exact ihk m hm1 ⟨by omega, hm2⟩
        · exact ⟨k, hk.1, hk.2, fun m hm1 => by
            cases hb : listed.getD m false
            · exact absurd ⟨m, hm1, hb⟩ hm'
            · rfl⟩
    have hrk : k ∈ Region.ready .any (opsA.push o) (listed.push false) := by
      refine (mem_ready (by simp [hsz]) _).2 ⟨by simp; omega, by rw [getD_push]; exact hk2, fun o' ho' e he hbe => ?_⟩
      have h2 := List.all_eq_true.1 hed k (List.mem_range.2 (by simp; omega))
      rw [ho'] at h2
      have h3 := List.all_eq_true.1 h2 e (by simpa using he)
      rw [hbe] at h3
      simp only [Bool.not_true, Bool.false_or] at h3
      rw [getD_push]
      exact hk3 e.on (Nat.le_of_ble_eq_true h3)
    refine ⟨fun h0 => (by rw [h0] at hrk; cases hrk), fun i hi => ?_⟩
    obtain ⟨h1, h2, h3⟩ := (mem_ready (by simp [hsz]) i).1 hi
    rw [getD_push] at h2
    by_cases hin : i = opsA.size
    · exfalso
      subst hin
      have hk : listed.getD k false = true := by
        refine ord_in hju (L := fun j => listed.getD j false) (fun j o' ho' hl e he hbe => ?_) opsA.size o hol (fun e he hbe => ?_) k (by simp; omega) (List.all_eq_true.1 hall k (List.mem_range.2 hk1))
        · by_cases hj : j < opsA.size
          · rw [hop hj] at ho'
            exact hcl j o' ho' hl e he hbe
          · have : listed.getD j false = false := by simp [Array.getD, hsz, hj]
            rw [show listed.getD j false = true from hl] at this; cases this
        · have := h3 o hol e he hbe
          rwa [getD_push] at this
      rw [hk2] at hk; cases hk
    · have hil : i < opsA.size := by simp at h1; omega
      have hiA : i ∈ Region.ready .any opsA listed := (mem_ready hsz i).2 ⟨hil, h2, fun o' ho' e he hbe => by
        have := h3 o' (by rw [hop hil]; exact ho') e he hbe
        rwa [getD_push] at this⟩
      have hil' : i < listed.size := by omega
      have hL : ∀ k, (listed.setIfInBounds i true).getD k false = if k = i then true else listed.getD k false := by
        intro k
        simp only [Array.getD_eq_getD_getElem?, Array.getElem?_setIfInBounds]
        by_cases hk : i = k
        · subst hk; simp [hil']
        · rw [if_neg hk, if_neg (fun e => hk e.symm)]
      have hpush : (listed.push false).setIfInBounds i true = (listed.setIfInBounds i true).push false := by
        apply Array.ext'
        rw [Array.toList_setIfInBounds, Array.toList_push, Array.toList_push, Array.toList_setIfInBounds, List.set_append_left _ _ (by simpa using hil')]
      rw [hpush]
      refine wpOp_up hQ hg hil (fun a' w' q => ih (listed.setIfInBounds i true) a' w' (by simp [hsz]) ?_ ?_ q) (h.2 i hiA)
      · have hli : listed.toList[i]? = some false := by
          have := h2
          simp [Array.getD, hil'] at this
          simp [hil', this]
        have := count_set hli
        rw [Array.toList_setIfInBounds]
        omega
      · intro j o' ho' hl e he hbe
        rw [hL] at hl ⊢
        split
        · rfl
        · split at hl
          · rename_i hji; subst hji
            have := h3 o' (by rw [hop hil]; exact ho') e he hbe
            rwa [getD_push] at this
          · exact hcl j o' ho' hl e he hbe
theorem wp_region_last (hT : TabOK P T) (h1 : TabOne T = true) (hN : E.N = N) (hm : P.follows .mixedOrders = true) {opsA : Array Oper} {o : Oper} (hst : drawSt opsA = true) (hok : lastOK (opsA.push o) opsA.size = true) (hg : noGuards opsA = true) {Kk : Cfg → Prop} {Q : Exit → Act → World → Prop} {id : Nat}
    (h : evOps true P T N dm opsA ⟨c, [], []⟩ 0 opsA.toList c Kk) (hs : SR E c a w) (hk : ∀ c a w, Kk c → SR E c a w → wpOp P (opsA.push o) Q opsA.size (fun a w => Q .normal a w) a w) : (Code.region id (opsA.push o) true).wp P Q a w := by
  have := draw_any (Q := fun e a w => e = .normal ∧ wpOp P (opsA.push o) Q opsA.size (fun a w => Q .normal a w) a w) hT h1 hN hst (fun c a w q s => ⟨rfl, hk c a w q s⟩) h hs
  have hrep : ∀ k, (Array.replicate opsA.size false).getD k false = false := by
    intro k
    rw [Array.getD_eq_getD_getElem?]
    rw [Array.getElem?_replicate]
    split <;> rfl
  have h2 := wpAny_last (Q := Q) (fun e a w ne q => absurd q.1 ne) hok hg (fun a w q => q.2) opsA.size (Array.replicate opsA.size false) a _ (by simp) (by simp) (fun j o ho hl => by rw [hrep] at hl; cases hl) this
  refine wp_region_any hm ?_
  rw [show (opsA.push o).size = opsA.size + 1 by simp, show Array.replicate (opsA.size + 1) false = (Array.replicate opsA.size false).push false by rw [Array.replicate_succ]]
  exact h2
end
end Go.Abs
end
section
namespace Go.Abs
open Go.RowKit
set_option linter.unusedVariables false
/-! ### code beside a block of one's own, which it may read and does not write -/
section
variable {P : Program} {T : Tab} {E : Env} {c c' : Cfg} {a : Act} {w : World} {ops : Array Oper} {dm : List (Nat × Bool)} {N : Nat}
/-- slot t holds x still -/
def Stays (t : Nat) (x : Value) (Q : Exit → Act → World → Prop) : Exit → Act → World → Prop := fun e a w => Q e a w ∧ (e = .normal → a.tmps.getD t undef = x)
def dstsOK (t : Nat) (ops : Array Oper) : Bool := ops.toList.all fun o => match o.dst with | some d => !Nat.beq d t | none => true
/-- the same, without the block -/
def innerE (E : Env) (w : World) (h : ∀ w', Ext (fun _ => False) w w' → WI w') : Env := ⟨fun _ => False, fun _ => False, w, E.N, h, fun _ => none, fun _ _ h => (by cases h), fun _ h => h.elim⟩
def outV (b : Nat) : AV → Bool
  | .top => true
  | .osl i _ _ => !Nat.beq i b
  | u => u.scalar
def outF (b : Nat) : List (Nat × AV) → Bool
  | [] => true
  | (_, u) :: r => outV b u && outF b r
end
end Go.Abs
end
section
namespace Go.Abs
open Go.RowKit
set_option linter.unusedVariables false
/-! ### functions that return a slice with blocks of one's own behind it -/
def FnF (P : Program) (f : FuncId) (args : List AV) (Post : World → KM → List (Nat × OBlk) → AV → Prop) : Prop :=
  Head P f ∧ ∀ (XF : Nat → Prop) (w : World) (vs : Array Value), (∀ w', Ext (fun _ => False) w w' → WI w') → (∀ g, XF g → g < w.heap.size) → args.length = vs.size →
    (∀ (j : Nat) u c, args[j]? = some u → vs[j]? = some c → VR w XF K0 u c) →
    Calls P f vs w fun e w' => ∃ v K' O' r, e = .returned v ∧ Post w' K' O' r ∧ VR w' (fun g => Live K' O' g ∨ XF g) K' r v ∧ OwnR w' (fun g => Live K' O' g ∨ XF g) K' O' ∧ (∀ g, Live K' O' g → w.heap.size ≤ g) ∧ Ext (fun _ => False) w w'
section
variable {P : Program} {N : Nat}
def EndF (t : Nat) (E : Env) (Post : World → KM → List (Nat × OBlk) → AV → Prop) : Exit → Act → World → Prop := fun e a w => (e = .normal ∨ e = .ret) ∧ ∃ K c, SRK E K c a w ∧ Post w K c.O (lk c.fr t)
end
end Go.Abs
namespace Go.Abs
section
variable {P : Program} {E : Env} {K : KM} {a : Act} {w : World} {fr : List (Nat × AV)} {V : List (Nat × OBlk)} {e sz o eo : Nat}
end
end Go.Abs
end
section
namespace Go.Abs
open Go.RowKit
set_option linter.unusedVariables false
/-! ### functions that get blocks of the caller's own, or make new ones, and hand back a value that leads to blocks -/
def FnG (P : Program) (f : FuncId) (args : List AV) (O : List (Nat × OBlk)) (pins : List Nat) (O' : List (Nat × OBlk)) (r : AV) : Prop :=
  Head P f ∧ ∀ (XF : Nat → Prop) (w : World) (K : KM) (vs : Array Value), (∀ w', Ext (Live K O) w w' → WI w') → (∀ g, XF g → ¬ Live K O g ∧ g < w.heap.size) → OwnR w (fun g => Live K O g ∨ XF g) K O → args.length = vs.size →
    (∀ (j : Nat) u c, args[j]? = some u → vs[j]? = some c → VR w (fun g => Live K O g ∨ XF g) K u c) →
    Calls P f vs w fun e w' => ∃ v K', e = .returned v ∧ VR w' (fun g => Live K' O' g ∨ XF g) K' r v ∧ (∀ b, memN b pins = true → K' b = K b) ∧ OwnR w' (fun g => Live K' O' g ∨ XF g) K' O' ∧ (∀ g, Live K' O' g → Live K O g ∨ w.heap.size ≤ g) ∧ Ext (Live K O) w w'
section
variable {P : Program} {N : Nat}
/-- what is returned, of the last configuration -/
def retG (T : Tab) (c : Cfg) : List ResultVar → AV → Prop
  | [x], r => rval T c x = some r ∧ notOpt r = true
  | [], r => r = .tup []
  | rv, r => ∃ us, r = .tup us ∧ us.length = rv.length ∧ ∀ (j : Nat) x u, rv[j]? = some x → us[j]? = some u → rval T c x = some u ∧ notOpt u = true
def EndG (T : Tab) (rv : List ResultVar) (r : AV) (O' : List (Nat × OBlk)) (E : Env) : Exit → Act → World → Prop := fun e a w => (e = .normal ∨ e = .ret) ∧ ∃ K c, SRK E K c a w ∧ keepO c.O (idsOf O') = O' ∧ retG T c rv r
theorem retG_sound {T : Tab} (hT : TabOK P T) {E : Env} {K : KM} {c : Cfg} {a : Act} {w : World} {rv : List ResultVar} {r : AV} {fn : Func} (hr : fn.results.toList = rv) (hs : SRK E K c a w) (h : retG T c rv r) :
    ∃ v, (results fn a.tmps).run P w = .ok v w ∧ VR w (XX E K c.O) K r v := by
  have one : ∀ {x u}, rval T c x = some u → notOpt u = true → ∃ v, (resRun a.tmps x).run P w = .ok v w ∧ VR w (XX E K c.O) K u v := by
    intro x u hx hn
    obtain ⟨v, h1, h2⟩ := rval_sound hT hs hx
    exact ⟨v, h1, h2.vr (by rintro d want u' rfl; cases hn)⟩
  cases rv with
  | nil =>
    have h : r = .tup [] := h
    subst h
    exact ⟨.tuple #[], results_run hr _ _ (vs := []) rfl (fun j y z hy hz => by simp at hy), .tup rfl fun j u c hu => by simp at hu⟩
  | cons x rv =>
  cases rv with
  | nil =>
    obtain ⟨v, h1, h2⟩ := one h.1 h.2
    refine ⟨v, results_run hr _ _ (vs := [v]) rfl (fun j y z hy hz => ?_), h2⟩
    cases j with
    | zero => simp at hy hz; subst hy hz; exact h1
    | succ j => simp at hy
  | cons y rv =>
    obtain ⟨us, rfl, hl, hu⟩ := h
    have all : ∀ (rv : List ResultVar) (us : List AV), us.length = rv.length → (∀ (j : Nat) x u, rv[j]? = some x → us[j]? = some u → rval T c x = some u ∧ notOpt u = true) → ∃ vs : List Value, vs.length = rv.length ∧ (∀ (j : Nat) x v, rv[j]? = some x → vs[j]? = some v → (resRun a.tmps x).run P w = .ok v w) ∧ ∀ (j : Nat) u v, us[j]? = some u → vs[j]? = some v → VR w (XX E K c.O) K u v := by
      intro rv
      induction rv with
      | nil => intro us hl _; exact ⟨[], rfl, fun j x v h => by simp at h, fun j u v _ h => by simp at h⟩
      | cons x rv ih =>
        intro us hl h
        cases us with
        | nil => simp at hl
        | cons u us =>
          obtain ⟨h1, h2⟩ := h 0 x u rfl rfl
          obtain ⟨v, k1, k2⟩ := one h1 h2
          obtain ⟨vs, q1, q2, q3⟩ := ih us (by simpa using hl) fun j y z hy hz => h (j + 1) y z (by simpa using hy) (by simpa using hz)
          refine ⟨v :: vs, by simp [q1], fun j y z hy hz => ?_, fun j y z hy hz => ?_⟩
          · cases j with
            | zero => simp at hy hz; subst hy hz; exact k1
            | succ j => exact q2 j y z (by simpa using hy) (by simpa using hz)
          · cases j with
            | zero => simp at hy hz; subst hy hz; exact k2
            | succ j => exact q3 j y z (by simpa using hy) (by simpa using hz)
    obtain ⟨vs, q1, q2, q3⟩ := all _ us hl hu
    refine ⟨_, results_run hr _ _ q1 q2, ?_⟩
    match vs, q1, q3 with
    | v :: v' :: vs, q1, q3 => exact .tup (by simp at q1 hl ⊢; omega) fun j u c hu hc => q3 j u c hu (by simpa using hc)
theorem fnG_of {T : Tab} (hT : TabOK P T) {f : FuncId} {fn : Func} {code : Code} {args : List AV} {O O' : List (Nat × OBlk)} {pins : List Nat} {r : AV} (rv : List ResultVar)
    (hf : P.funcs[f]? = some fn) (hb : fn.body = some code) (hname : (fn.name == "runtime.NumGoroutine") = false) (hn : Nat.ble args.length fn.ntmps = true) (hN : fn.ntmps = N)
    (hr : fn.results.toList = rv) (hpins : ∀ b, memN b pins = true → Nat.ble 2 (b % 16) = true ∧ (olk O b).isSome = true)
    (h : ∀ (E : Env) (K : KM) (a : Act) (w : World), E.N = N → (∀ b, memN b pins = false → E.pin b = none) → SRK E K ⟨idx 0 args, O⟩ a w → code.wp P (EndG T rv r O' E) a w) : FnG P f args O pins O' r := by
  refine ⟨⟨fn, hf, hname, by rw [hb]; rfl⟩, fun XF w K vs hwi hxf hown hlen hargs => ?_⟩
  refine calls_of_wp hf hb ?_
  have hn' := Nat.le_of_ble_eq_true hn
  subst hN
  let E : Env := ⟨Live K O, XF, w, fn.ntmps, hwi, fun b => if memN b pins = true then K b else none, fun b x hx => by
    by_cases hm : memN b pins = true
    · exact (hpins b hm).1
    · rw [if_neg hm] at hx; exact (by cases hx), fun g hg => (hxf g hg).1⟩
  have hXX : ∀ g, XX E K O g → Live K O g ∨ XF g := by
    rintro g (h | h)
    · exact .inl h
    · exact .inr h.1
  refine wp_mono (h E K _ _ rfl (fun b hb => by simp only [E]; rw [if_neg (by rw [hb]; simp)]) ?_) ?_
  · refine ⟨by simp [E]; omega, rfl, ⟨rfl, rfl, rfl, Nat.le_refl _, fun _ _ _ => rfl, fun _ cur _ h => ⟨cur, h, rfl⟩⟩, fun s => ?_, hown.rows, fun b y hb => ?_, hown.inj, fun b g h1 h2 => .inl ⟨b, h1, h2⟩, fun b x hx => ?_⟩
    · simp only [lk_idx, Nat.zero_le, if_true, Nat.sub_zero]
      cases hu : args[s]? with
      | none => rw [List.getD_eq_getElem?_getD, hu]; exact FV.top
      | some u =>
        rw [List.getD_eq_getElem?_getD, hu]
        have hs : s < vs.size := by rw [← hlen]; exact (List.getElem?_eq_some_iff.1 hu).1
        have hvs : vs[s]? = some vs[s] := by simp [hs]
        have := hargs s u _ hu hvs
        rw [show (vs ++ Array.replicate (fn.ntmps - vs.size) undef).getD s undef = vs[s] by
          rw [Array.getD_eq_getD_getElem?, Array.getElem?_append_left hs]
          simp [hs]]
        exact FV.of (this.sub fun g _ hg => hXX g hg)
    · rcases hown.own b y hb with h1 | ⟨g, h1, h2⟩
      · exact .inl h1
      · exact .inr ⟨g, h1, h2.keep rfl (Keep.refl _ _) (fun g _ hg => hXX g hg) (fun _ _ _ _ _ _ => rfl)⟩
    · simp only [E] at hx
      by_cases hm : memN b pins = true
      · rw [if_pos hm] at hx; exact hx
      · rw [if_neg hm] at hx; cases hx
  · rintro e a w' ⟨he, K', c, hs0, hkp, hret⟩
    obtain ⟨v, hrun, hv0⟩ := retG_sound hT hr hs0 hret
    have hs : SRK E K' ⟨c.fr, O'⟩ a w' := hs0.weak (fun t => .inl rfl) fun b x hb => olk_keep c.O (idsOf O') b x (by rw [hkp]; exact hb)
    have hv : VR w' (XX E K' O') K' r v := hv0.sub fun g _ hg => XX.sub (fun b x hb => ⟨x, olk_keep c.O (idsOf O') b x (by rw [hkp]; exact hb)⟩) g hg
    have hKK : ∀ b, memN b pins = true → K' b = K b := by
      intro b hb
      rcases hK : K b with _ | x
      · obtain ⟨y, hy⟩ := Option.isSome_iff_exists.1 (hpins b hb).2
        rcases hown.own b y hy with ⟨h1, _⟩ | ⟨g, h1, _⟩
        · rw [hK] at h1; cases h1
        · rw [hK] at h1; cases h1
      · exact hs.pin b x (by simp only [E]; rw [if_pos hb]; exact hK)
    have hXX' : ∀ g, Live K' O' g ∨ XF g → XX E K' O' g := by
      rintro g (h | h)
      · exact .inl h
      · exact .inr ⟨h, (hxf g h).2⟩
    have key : a.defers = [] ∧ ∃ v1, (results fn a.tmps).run P w' = .ok v1 w' ∧ ∃ v K'', Ending.returned v1 = .returned v ∧ VR w' (fun g => Live K'' O' g ∨ XF g) K'' r v ∧ (∀ b, memN b pins = true → K'' b = K b) ∧ OwnR w' (fun g => Live K'' O' g ∨ XF g) K'' O' ∧ (∀ g, Live K'' O' g → Live K O g ∨ w.heap.size ≤ g) ∧ Ext (Live K O) w w' := by
      refine ⟨hs.defers, v, hrun, v, K', rfl, hv.sub fun g _ hg => hXX' g hg, hKK, ⟨hs.rows, fun b blk hb => ?_, hs.inj⟩, fun g ⟨b, h1, h2⟩ => hs.mine b g h1 h2, hs.ext⟩
      rcases hs.own b blk hb with h1 | ⟨g, h1, h2⟩
      · exact .inl h1
      · exact .inr ⟨g, h1, h2.keep rfl (Keep.refl _ _) (fun g _ hg => hXX' g hg) (fun _ _ _ _ _ _ => rfl)⟩
    rcases he with rfl | rfl
    · exact key
    · exact key
/-- the operation that calls it -/
theorem wpOp_callG {E : Env} {K : KM} {fr : List (Nat × AV)} {O O' : List (Nat × OBlk)} {r : AV} {a : Act} {w : World} {pins : List Nat} {ops : Array Oper} {o : Oper} {Q : Exit → Act → World → Prop} {Kk : Act → World → Prop} {i g : Nat} {f : Operand} {args : Array Operand} {ts : Array TypeId} {caps us : List AV}
    (ho : ops[i]? = some o) (hop : o.op = .call { callee := .value f, args := args, argTypes := ts }) (hw : Region.wanted o (yielded ops a.tmps) = true) (hs : SRK E K ⟨fr, O⟩ a w) (hfn : FnG P g us O pins O' r)
    (hf : opv ⟨fr, O⟩ f = .func g caps) (hus : args.toList.map (opv ⟨fr, O⟩) ++ caps = us) (hno : noOptL us = true) (hro : notOpt r = true)
    (hfr : inPF pins fr = true) (hpin : ∀ b, memN b pins = false → E.pin b = none) (hd : dstOK E.N ⟨fr, O⟩ o.dst = true)
    (hk : ∀ K' v w', SRK E K' ⟨putF o.dst r fr, O'⟩ (a.put o.dst v) w' → Kk (a.put o.dst v) w') : wpOp P ops Q i Kk a w := by
  obtain ⟨⟨fn, hfn1, hname, hbody⟩, hfun⟩ := hfn
  have hval := opv_vals (c := ⟨fr, O⟩) hs
  obtain ⟨cv, ef, cl, cvv⟩ := VR.func_inv (hval.at hf)
  obtain ⟨ml, mv⟩ := map_vals hval args
  unfold wpOp
  rw [ho]
  simp only
  rw [if_pos hw]
  left
  unfold Oper.wp
  have hrun : (execOp a.eval o).run P w = .ok (.enter g (args.map a.eval ++ cv)) w := by
    simp only [execOp, hop, resolve, ef, Deferred.ofValue, Sem.run_bind, Sem.run_pure, Result.andThen_ok, invoke, callFunc, run_program]
    simp [hfn1, hname, hbody]
  rw [hrun, Oper.upon_enter]
  have hsize : us.length = (args.map a.eval ++ cv).size := by
    rw [← hus]; simp [cl]
  have hargs : ∀ (j : Nat) u v, us[j]? = some u → (args.map a.eval ++ cv)[j]? = some v → VR w (fun g => Live K O g ∨ (E.XF g ∧ g < E.w0.heap.size)) K u v := by
    intro j u v hu hv
    have hnu := noOptL_get hno u (List.mem_of_getElem? hu)
    rw [← hus] at hu
    have hasl : (args.toList.map (opv ⟨fr, O⟩)).length = (args.map a.eval).size := by simp
    rcases Nat.lt_or_ge j (args.toList.map (opv ⟨fr, O⟩)).length with hlt | hge
    · rw [List.getElem?_append_left hlt] at hu
      rw [Array.getElem?_append_left (by omega)] at hv
      exact FV.vr (mv j u v hu (by simpa using hv)) hnu
    · rw [List.getElem?_append_right hge] at hu
      rw [Array.getElem?_append_right (by omega)] at hv
      rw [hasl] at hu
      exact cvv _ u v hu hv
  have hwi : ∀ w', Ext (Live K O) w w' → WI w' := by
    intro w' hx
    refine E.hwi _ ⟨hx.os.trans hs.ext.os, hx.tape.trans hs.ext.tape, hx.output.trans hs.ext.output, Nat.le_trans hs.ext.size hx.size, fun g hg hX => ?_, fun g cur e hc => ?_⟩
    · rw [hx.block g (Nat.lt_of_lt_of_le hg hs.ext.size) fun ⟨b, hb, hk⟩ => ?_]
      · exact hs.ext.block g hg hX
      · rcases hs.mine b g hb hk with h | h
        · exact hX h
        · omega
    · obtain ⟨c1, h1, s1⟩ := hs.ext.shape g cur e hc
      obtain ⟨c2, h2, s2⟩ := hx.shape g c1 e h1
      exact ⟨c2, h2, s2.trans s1⟩
  refine (hfun (fun g => E.XF g ∧ g < E.w0.heap.size) w K _ hwi (fun g hg => ⟨fun ⟨b, hb, hk⟩ => ?_, Nat.lt_of_lt_of_le hg.2 hs.ext.size⟩) ⟨hs.rows, hs.own, hs.inj⟩ hsize hargs).mono ?_
  · rcases hs.mine b g hb hk with h | h
    · exact E.hxf g hg.1 h
    · have := hg.2; omega
  · rintro e w1 ⟨v, K', rfl, hrv, hKK, hown, hl, hx⟩
    have hs1 := hs.callT hKK hown hl hx (inPF_lk hfr) hpin
    refine hk K' v w1 (hs1.put (dst := o.dst) (u := r) (v := v) ?_ fun d _ => ?_)
    · exact hd
    · exact FV.of hrv
end
end Go.Abs
end
section
namespace Go.Abs
open Go.RowKit
set_option linter.unusedVariables false
/-! ### other ids for the same blocks -/
mutual
def AV.ren (ρ : Nat → Nat) : AV → AV
  | .osl b s n => .osl (ρ b) s n
  | .osuf b s l n => .osuf (ρ b) s l n
  | .ovar b o => .ovar (ρ b) o
  | .optr b s i o => .optr (ρ b) s i o
  | .omap b => .omap (ρ b)
  | .agg xs => .agg (AV.renL ρ xs)
  | .tup xs => .tup (AV.renL ρ xs)
  | .func f xs => .func f (AV.renL ρ xs)
  | .opt d w v => .opt d w (AV.ren ρ v)
  | v => v
def AV.renL (ρ : Nat → Nat) : List AV → List AV
  | [] => []
  | x :: xs => AV.ren ρ x :: AV.renL ρ xs
end
theorem renL_len (ρ : Nat → Nat) : ∀ xs, (AV.renL ρ xs).length = xs.length
  | [] => rfl
  | x :: xs => by simp [AV.renL, renL_len ρ xs]
theorem renL_get {ρ : Nat → Nat} : ∀ {xs : List AV} {j : Nat} {u : AV}, (AV.renL ρ xs)[j]? = some u → ∃ u', xs[j]? = some u' ∧ u = u'.ren ρ
  | [], _, _, h => by simp [AV.renL] at h
  | x :: xs, 0, u, h => by simp [AV.renL] at h; exact ⟨x, rfl, h.symm⟩
  | x :: xs, j + 1, u, h => by simp [AV.renL] at h; simpa using renL_get h
theorem blkOf_eq2 {K K' : KM} {b b' : Nat} (h : K' b' = K b) : blkOf K' b' = blkOf K b := by simp [blkOf, h]
theorem VR.ren {w : World} {X : Nat → Prop} {K : KM} {u : AV} {v : Value} (h : VR w X K u v) : ∀ (K' : KM) (ρ : Nat → Nat), (∀ b, u.has b = true → K' (ρ b) = K b) → VR w X K' (u.ren ρ) v := by
  induction h with
  | top => intros; exact .top
  | bool => intros; exact .bool
  | int => intros; exact .int
  | str => intros; exact .str
  | nilsl => intros; exact .nilsl
  | nilfn => intros; exact .nilfn
  | esl => intros; exact .esl
  | und => intros; exact .und
  | lit => intros; exact .lit
  | agg hl h1 hv ih =>
    intro K' ρ hK
    refine .agg (by rw [renL_len]; exact hl) h1 fun j u c hu hc => ?_
    obtain ⟨u', hu', rfl⟩ := renL_get hu
    exact ih j u' c hu' hc K' ρ fun b hb => hK b (AV.hasL_of hu' hb)
  | tup hl hv ih =>
    intro K' ρ hK
    refine .tup (by rw [renL_len]; exact hl) fun j u c hu hc => ?_
    obtain ⟨u', hu', rfl⟩ := renL_get hu
    exact ih j u' c hu' hc K' ρ fun b hb => hK b (AV.hasL_of hu' hb)
  | func hl hv ih =>
    intro K' ρ hK
    refine .func (by rw [renL_len]; exact hl) fun j u c hu hc => ?_
    obtain ⟨u', hu', rfl⟩ := renL_get hu
    exact ih j u' c hu' hc K' ρ fun b hb => hK b (AV.hasL_of hu' hb)
  | rsl hn hsz hcap hA hcs h1 hcell hv ih => intro K' ρ hK; exact .rsl hn hsz hcap hA hcs h1 hcell hv
  | rptr hcs h1 hg hx hc hv ih => intro K' ρ hK; exact .rptr hcs h1 hg hx hc hv
  | osl hKb hnm hc hn hm hcap => intro K' ρ hK; exact .osl ((hK _ (by simp [AV.has])).trans hKb) hnm hc hn hm hcap
  | oslnil hKb => intro K' ρ hK; exact .oslnil ((hK _ (by simp [AV.has])).trans hKb)
  | osuf hn hc => intro K' ρ hK; exact .osuf (fun h => (by obtain ⟨g, m, h1, h2⟩ := hn h; exact ⟨g, m, (hK _ (by simp [AV.has])).trans h1, h2⟩)) hc
  | ovar hKb => intro K' ρ hK; exact .ovar ((blkOf_eq2 (hK _ (by simp [AV.has]))).trans hKb)
  | optr hKb => intro K' ρ hK; exact .optr ((blkOf_eq2 (hK _ (by simp [AV.has]))).trans hKb)
  | omap hKb => intro K' ρ hK; exact .omap ((blkOf_eq2 (hK _ (by simp [AV.has]))).trans hKb)
  | rmap hm hg hx hsz hl h1 hv ih => intro K' ρ hK; exact .rmap hm hg hx hsz hl h1 hv
  | itr h1 h2 h3 h4 h5 h6 => intro K' ρ hK; exact .itr h1 h2 h3 h4 h5 h6
theorem FV.ren {w : World} {X : Nat → Prop} {K : KM} {tm : Array Value} {u : AV} {v : Value} (h : FV w X K tm u v) {K' : KM} {ρ : Nat → Nat} (hK : ∀ b, u.has b = true → K' (ρ b) = K b) : FV w X K' tm (u.ren ρ) v := by
  cases u with
  | opt d want u' =>
    simp only [FV] at h
    simp only [AV.ren, FV]
    exact h.imp (fun ⟨h1, h2⟩ => ⟨h1, h2.ren _ _ hK⟩) id
  | _ => exact VR.ren h _ _ hK
def renF (ρ : Nat → Nat) : List (Nat × AV) → List (Nat × AV)
  | [] => []
  | (t, v) :: r => (t, v.ren ρ) :: renF ρ r
def renB (ρ : Nat → Nat) (blk : OBlk) : OBlk :=
  match blk.kd with
  | .any => { blk with rows := blk.rows.map (AV.renL ρ) }
  | _ => blk
def renO (ρ : Nat → Nat) : List (Nat × OBlk) → List (Nat × OBlk)
  | [] => []
  | (b, x) :: r => (ρ b, renB ρ x) :: renO ρ r
theorem lk_ren (ρ : Nat → Nat) : ∀ (fr : List (Nat × AV)) (t : Nat), lk (renF ρ fr) t = (lk fr t).ren ρ
  | [], t => rfl
  | (s, v) :: r, t => by
    simp only [renF, lk_cons, lk_ren ρ r]
    split <;> rfl
theorem renB_rows (ρ : Nat → Nat) (blk : OBlk) : (renB ρ blk).kd = blk.kd ∧ (renB ρ blk).e = blk.e ∧ (renB ρ blk).sz = blk.sz ∧ (renB ρ blk).ents = blk.ents ∧ (renB ρ blk).rows.length = blk.rows.length := by
  unfold renB
  cases hk : blk.kd <;> simp [hk]
/-- ids of a frame, of blocks' rows, are among these -/
def inPO (ps : List Nat) : List (Nat × OBlk) → Bool
  | [] => true
  | (b, x) :: r => memN b ps && (match x.kd with | .any => x.rows.all (AV.inPL ps) | _ => true) && inPO ps r
theorem inPO_get {ps : List Nat} : ∀ {O : List (Nat × OBlk)}, inPO ps O = true → ∀ b x, olk O b = some x → memN b ps = true ∧ (x.kd = .any → ∀ row ∈ x.rows, AV.inPL ps row = true)
  | [], _, b, x, h => by simp [olk] at h
  | (i, y) :: r, h, b, x, hb => by
    simp only [inPO, Bool.and_eq_true] at h
    rw [olk_cons] at hb
    split at hb
    · rename_i e; subst e
      injection hb with hb; subst hb
      refine ⟨h.1.1, fun hk => ?_⟩
      have := h.1.2
      rw [hk] at this
      exact List.all_eq_true.1 this
    · exact inPO_get h.2 b x hb
/-- the id that is turned into this one -/
def unren (ρ : Nat → Nat) (b : Nat) : List Nat → Option Nat
  | [] => none
  | i :: r => match Nat.beq (ρ i) b with | true => some i | false => unren ρ b r
theorem unren_some {ρ : Nat → Nat} {b i : Nat} : ∀ {ps : List Nat}, unren ρ b ps = some i → ρ i = b ∧ memN i ps = true
  | [], h => by cases h
  | j :: r, h => by
    unfold unren at h
    split at h
    · rename_i e
      injection h with h; subst h
      exact ⟨beq_true e, by simp only [memN]; rw [show Nat.beq j j = true from Nat.beq_refl j]⟩
    · obtain ⟨h1, h2⟩ := unren_some h
      refine ⟨h1, ?_⟩
      simp only [memN]
      split
      · rfl
      · exact h2
def renInj (ρ : Nat → Nat) (ps : List Nat) : Bool := ps.all fun i => decide (unren ρ (ρ i) ps = some i)
theorem renInj_get {ρ : Nat → Nat} {ps : List Nat} (h : renInj ρ ps = true) {i : Nat} (hi : memN i ps = true) : unren ρ (ρ i) ps = some i := by
  have := List.all_eq_true.1 h i (memN_iff.1 hi)
  simpa using this
theorem olk_ren {ρ : Nat → Nat} {ps : List Nat} (hi : renInj ρ ps = true) : ∀ {O : List (Nat × OBlk)}, inPO ps O = true → ∀ {b : Nat}, memN b ps = true → olk (renO ρ O) (ρ b) = (olk O b).map (renB ρ)
  | [], _, b, _ => rfl
  | (i, x) :: r, h, b, hb => by
    simp only [inPO, Bool.and_eq_true] at h
    simp only [renO, olk_cons]
    by_cases e : i = b
    · subst e; simp
    · rw [if_neg e, if_neg fun e' => e ?_]
      · exact olk_ren hi h.2 hb
      · have h1 := renInj_get hi h.1.1
        have h2 := renInj_get hi hb
        rw [e'] at h1
        rw [h1] at h2
        injection h2
theorem olk_ren_inv {ρ : Nat → Nat} {ps : List Nat} : ∀ {O : List (Nat × OBlk)}, inPO ps O = true → ∀ {b : Nat} {y : OBlk}, olk (renO ρ O) b = some y → ∃ i, memN i ps = true ∧ ρ i = b
  | [], _, b, y, h => by simp [renO, olk] at h
  | (i, x) :: r, h, b, y, hb => by
    simp only [inPO, Bool.and_eq_true] at h
    simp only [renO, olk_cons] at hb
    split at hb
    · rename_i e; exact ⟨i, h.1.1, e⟩
    · exact olk_ren_inv h.2 hb
theorem SRK.ren {E : Env} {K : KM} {fr : List (Nat × AV)} {O : List (Nat × OBlk)} {a : Act} {w : World} (h : SRK E K ⟨fr, O⟩ a w) (ρ : Nat → Nat) (ps : List Nat) (hf : inPF ps fr = true) (hO : inPO ps O = true) (hi : renInj ρ ps = true) (hp : ∀ b, memN b ps = true → ρ b = b ∨ E.pin (ρ b) = none) :
    ∃ K', SRK E K' ⟨renF ρ fr, renO ρ O⟩ a w := by
  let K' : KM := fun b => match unren ρ b ps with | some i => K i | none => K b
  have hK : ∀ b, memN b ps = true → K' (ρ b) = K b := by
    intro b hb
    simp only [K', renInj_get hi hb]
  have hbl : ∀ b, memN b ps = true → blkOf K' (ρ b) = blkOf K b := fun b hb => by simp [blkOf, hK b hb]
  have hget : ∀ b y, olk (renO ρ O) b = some y → ∃ i x, memN i ps = true ∧ ρ i = b ∧ olk O i = some x ∧ y = renB ρ x := by
    intro b y hb
    obtain ⟨i, h1, h2⟩ := olk_ren_inv hO hb
    subst h2
    rw [olk_ren hi hO h1] at hb
    cases hx : olk O i with
    | none => rw [hx] at hb; cases hb
    | some x => rw [hx] at hb; injection hb with hb; exact ⟨i, x, h1, rfl, hx, hb.symm⟩
  have hsome : ∀ b, (olk (renO ρ O) b).isSome = true → ∃ i, memN i ps = true ∧ ρ i = b ∧ (olk O i).isSome = true := by
    intro b hb
    obtain ⟨y, hy⟩ := Option.isSome_iff_exists.1 hb
    obtain ⟨i, x, h1, h2, h3, _⟩ := hget b y hy
    exact ⟨i, h1, h2, by simp [h3]⟩
  have hX : ∀ g, XX E K' (renO ρ O) g → XX E K O g := by
    rintro g (⟨b, hb, hk⟩ | hg)
    · obtain ⟨i, h1, rfl, h3⟩ := hsome b hb
      exact .inl ⟨i, h3, by rw [← hbl i h1]; exact hk⟩
    · exact .inr hg
  refine ⟨K', h.size, h.defers, h.ext, fun t => ?_, fun b y hb => ?_, fun b y hb => ?_, fun b b' g h1 h2 k1 k2 => ?_, fun b g h1 k1 => ?_, fun b x hx => ?_⟩
  · show FV w _ K' _ (lk (renF ρ fr) t) _
    rw [lk_ren]
    exact FV.ren ((h.fr t).sub fun g _ => hX g) fun b hb => hK b (inPF_lk hf t b hb)
  · obtain ⟨i, x, h1, rfl, h3, rfl⟩ := hget b y hb
    intro row hrow
    obtain ⟨_, _, e3, _, _⟩ := renB_rows ρ x
    rw [e3]
    unfold renB at hrow
    split at hrow
    · obtain ⟨row', hr', rfl⟩ := List.mem_map.1 hrow
      rw [renL_len]; exact h.rows i x h3 row' hr'
    · exact h.rows i x h3 row hrow
  · obtain ⟨i, x, h1, rfl, h3, rfl⟩ := hget b y hb
    obtain ⟨e1, e2, e3, e4, e5⟩ := renB_rows ρ x
    rw [hK i h1, e5]
    rcases h.own i x h3 with ⟨k1, k2⟩ | ⟨g, k1, cur, hc, hu⟩
    · refine .inl ⟨k1, ?_⟩
      exact List.eq_nil_of_length_eq_zero (by rw [e5, k2]; rfl)
    · refine .inr ⟨g, k1, cur, ?_, fun j u hj => ?_⟩
      · have hc' := hc.keep rfl (Keep.refl _ _) (fun g _ => hX g)
        unfold HoldsObj at hc' ⊢
        rw [e1, e2, e3, e4]
        cases hk : x.kd <;> rw [hk] at hc'
        · exact hc'
        · exact hc'
        · exact hc'
        · obtain ⟨q1, q2, q3⟩ := hc'
          exact ⟨q1, List.eq_nil_of_length_eq_zero (by rw [e5, q2]; rfl), q3⟩
      · cases hk : x.kd with
        | any =>
          have hrb : (renB ρ x).rows = x.rows.map (AV.renL ρ) := by unfold renB; rw [hk]
          rw [hrb] at hj
          have hfl : (x.rows.map (AV.renL ρ)).flatten = AV.renL ρ x.rows.flatten := by
            have app : ∀ (xs ys : List AV), AV.renL ρ (xs ++ ys) = AV.renL ρ xs ++ AV.renL ρ ys := by
              intro xs ys
              induction xs with
              | nil => rfl
              | cons z zs ih => simp [AV.renL, ih]
            generalize x.rows = rows
            induction rows with
            | nil => rfl
            | cons r rs ih => simp [app, ih]
          rw [hfl] at hj
          obtain ⟨u', hu', rfl⟩ := renL_get hj
          obtain ⟨c, c1, c2, c3⟩ := hu j u' hu'
          refine ⟨c, c1, c2, ?_⟩
          rw [hk] at c3
          rw [e1, hk]
          refine VR.ren (K := K) (VR.sub c3 fun g _ hg => hX g hg) _ _ fun b hb => hK b ?_
          obtain ⟨row, hr, hur⟩ := List.mem_flatten.1 (List.mem_of_getElem? hu')
          have := (inPO_get hO i x h3).2 hk row hr
          exact hasL_inP row this (hasL_mem hur hb)
        | _ =>
          have hrb : renB ρ x = x := by unfold renB; rw [hk]
          rw [hrb] at hj ⊢
          obtain ⟨c, c1, c2, c3⟩ := hu j u hj
          refine ⟨c, c1, c2, ?_⟩
          rw [hk] at c3 ⊢
          exact VR.sub c3 (KdX_sub fun g _ => hX g)
  · obtain ⟨i, i1, rfl, i3⟩ := hsome b h1
    obtain ⟨i', j1, rfl, j3⟩ := hsome b' h2
    rw [hbl i i1] at k1
    rw [hbl i' j1] at k2
    rw [h.inj i i' g i3 j3 k1 k2]
  · obtain ⟨i, i1, rfl, i3⟩ := hsome b h1
    rw [hbl i i1] at k1
    exact h.mine i g i3 k1
  · simp only [K']
    cases hu : unren ρ b ps with
    | none => exact h.pin b x hx
    | some i =>
      obtain ⟨h1, h2⟩ := unren_some hu
      rcases hp i h2 with h3 | this
      · show K i = some x
        rw [← h3, h1]; exact h.pin b x hx
      · rw [h1, hx] at this; cases this
end Go.Abs
end
