import Derived.Test.YteihenhffdckiaaGreatDoorJ13
section
namespace Go.Abs
open Go.RowKit
set_option linter.unusedVariables false
/-! ### all of one's own is looked at from now on: nothing is written any more -/
section
variable {P : Program} {E : Env} {K : KM} {c : Cfg} {a : Act} {w : World}
theorem SRK.notY {Y : Nat → Prop} (hY : ∀ g, Y g → E.XF g ∧ g < E.w0.heap.size) (hs : SRK E K c a w) {b g : Nat} (hb : (olk c.O b).isSome = true) (hK : blkOf K b = some g) : ¬ Y g := by
  intro h
  obtain ⟨h1, h2⟩ := hY g h
  rcases hs.mine b g hb hK with h3 | h3
  · exact E.hxf g h1 h3
  · omega
theorem KdX_pfY {Y : Nat → Prop} (hY : ∀ g, Y g → E.XF g ∧ g < E.w0.heap.size) {kd : Kd} (hkd : kd ≠ .any) {u : AV} {v : Value} (h : VR w (KdX kd (XX E K c.O)) (KdK kd K) u v) : VR w Y K0 u v := by
  cases kd
  · exact VR.sub h fun _ _ _ => trivial
  · exact VR.sub h fun g _ h => .inr (hY g h)
  · exact absurd rfl hkd
  · exact VR.sub h fun g _ h => .inr (hY g h)
theorem viewCell_soundY {Y : Nat → Prop} (hY : ∀ g, Y g → E.XF g ∧ g < E.w0.heap.size) (hs : SRK E K c a w) {u u' : AV} {v : Value} (h : viewCell (olk c.O) u = some u') (hv : VR w (XX E K c.O) K u v) : VR w Y K0 u' v := by
  have idl : ∀ {u}, VR w (XX E K c.O) K u v → u.idless = true → VR w Y K0 u v := fun hv hi => (idless_sound hv hi K0).sub fun g _ h => .inr (hY g h)
  unfold viewCell at h
  split at h
  · rename_i b sz n
    split at h
    · rename_i blk hb
      have fin : Nat.beq sz blk.sz = true → blk.kd ≠ .any → VR w Y K0 (.rsl sz n (blk.rows.take n)) v := by
        intro hsz hkd
        have hsz := beq_true hsz
        have huni := hs.rows b blk hb
        have hsrc : srcRows (olk c.O) sz (.osl b sz n) = some (n, blk.rows.take n, blk.kd) := by
          simp only [srcRows, hb]
          rw [show Nat.beq sz sz = true from Nat.beq_refl sz, show Nat.beq blk.sz sz = true from by rw [← hsz]; exact Nat.beq_refl sz]
        obtain ⟨hl, hu, A, cp, news, e0, hnl, hcell, hone, hvn⟩ := src_sound hs hsrc hv
        have hcs : news.length = (blk.rows.take n).flatten.length := by rw [hnl, flat_len hu, ← hl]
        rcases VR.osl_inv hv with ⟨hK, hz, e1⟩ | ⟨g, cap, cur, e', mm, hK, hnm, e1, hc, hnc, hm, hcur⟩
        · subst hz e1
          exact .rsl (cs := []) (by simp) (by simp) (Nat.le_refl _) (fun _ => rfl) (by simp) (by simp) (by simp) (by simp)
        · rw [e1] at e0
          injection e0 with e2 e3 e4
          subst e1
          refine .rsl hl hu hnc (fun h => by cases h) hcs hone (fun hne => ?_) (fun j u x hu hx => KdX_pfY hY hkd (hvn j u x hu hx))
          have hpos : 0 < n := by
            rcases Nat.eq_zero_or_pos n with h | h
            · subst h; simp at hne
            · exact h
          obtain ⟨g', o', e5, hc'⟩ := hcell hpos
          rw [← e2] at e5
          injection e5 with e5; injection e5 with e5 e6; subst e5 e6
          exact ⟨g, 0, rfl, (Array.getElem?_eq_some_iff.1 hc).1, hs.notY hY (by simp [hb]) (blkOf_of hK), hc'⟩
      split at h
      · rename_i h1 h2; injection h with h; subst h; exact fin h1 (by rw [h2]; simp)
      · rename_i h1 h2; injection h with h; subst h; exact fin h1 (by rw [h2]; simp)
      · cases h
    · cases h
  · rename_i b
    split at h
    · rename_i blk hb
      split at h
      · rename_i ag st hkd
        injection h with h; subst h
        obtain ⟨g, hK, rfl⟩ := VR.omap_inv hv
        rcases hs.own b blk hb with ⟨k1, _⟩ | ⟨g', k1, cur, hc, hu⟩
        · rw [show blkOf K b = none from by simp [blkOf, k1]] at hK; cases hK
        · rw [blkOf_of k1] at hK; injection hK with hK; subst hK
          have hlt := hc.lt
          unfold HoldsObj at hc
          rw [hkd] at hc
          obtain ⟨_, _, es, hm⟩ := hc
          obtain ⟨cs, q1, q2, q3, q4, q5⟩ := hm.back
          refine .rmap q1 hlt (hs.notY hY (by simp [hb]) (blkOf_of k1)) q2 q3 q4 fun j u x hj hx => ?_
          obtain ⟨y, hy, _, hvy⟩ := q5 j u hj
          rw [hx] at hy; injection hy with hy; subst hy
          exact VR.sub hvy fun g _ h => .inr (hY g h)
      · cases h
    · cases h
  · cases h
  · cases h
  · cases h
  · cases h
  · split at h
    · rename_i hi; injection h with h; subst h; exact idl hv hi
    · cases h

theorem viewCells_soundY {Y : Nat → Prop} (hY : ∀ g, Y g → E.XF g ∧ g < E.w0.heap.size) (hs : SRK E K c a w) : ∀ {us us' : List AV} {f : Nat → Option Value}, viewCells (olk c.O) us = some us' → us'.length = us.length ∧ ∀ (j : Nat) u' v, us'[j]? = some u' → (∀ u, us[j]? = some u → VR w (XX E K c.O) K u v) → VR w Y K0 u' v
  | [], us', f, h => by simp [viewCells] at h; subst h; simp
  | x :: xs, us', f, h => by
    simp only [viewCells] at h
    split at h
    · rename_i y ys hy hys
      injection h with h
      subst h
      obtain ⟨h1, h2⟩ := viewCells_soundY hY hs (f := f) hys
      refine ⟨by simp [h1], fun j u' v hj hv => ?_⟩
      cases j with
      | zero => simp at hj; subst hj; exact viewCell_soundY hY hs hy (hv x (by simp))
      | succ j => simp at hj; exact h2 j u' v hj (fun u hu => hv u (by simpa using hu))
    · cases h

theorem view1_soundY {Y : Nat → Prop} (hY : ∀ g, Y g → E.XF g ∧ g < E.w0.heap.size) (hs : SRK E K c a w) {u u' : AV} {v : Value} (h : view1 (olk c.O) u = some u') (hv : VR w (XX E K c.O) K u v) : VR w Y K0 u' v := by
  unfold view1 at h
  split at h
  · rename_i b sz n
    split at h
    · rename_i blk hb
      split at h
      · rename_i hkd
        split at h
        · rename_i rs hsz hrs
          injection h with h
          subst h
          have hsz := beq_true hsz
          have huni := hs.rows b blk hb
          have hsrc : srcRows (olk c.O) sz (.osl b sz n) = some (n, blk.rows.take n, blk.kd) := by
            simp only [srcRows, hb]
            rw [show Nat.beq sz sz = true from Nat.beq_refl sz, show Nat.beq blk.sz sz = true from by rw [← hsz]; exact Nat.beq_refl sz]
          obtain ⟨hl, hu, A, cp, news, e0, hnl, hcell, hone, hvn⟩ := src_sound hs hsrc hv
          obtain ⟨f1, f2⟩ := viewRows_flat hrs
          obtain ⟨g1, g2⟩ := viewRows_len hrs
          have hcs : news.length = rs.flatten.length := by rw [f1, hnl, flat_len hu, ← hl]
          have hu' : ∀ r ∈ rs, r.length = sz := by
            intro r hr
            obtain ⟨j, hj, hje⟩ := List.getElem_of_mem hr
            obtain ⟨r0, h5, h6⟩ := g2 j r (by rw [List.getElem?_eq_getElem hj, hje])
            rw [(viewCells_len h6).1]
            exact hu r0 (List.mem_of_getElem? h5)
          rcases VR.osl_inv hv with ⟨hK, hz, e1⟩ | ⟨g, cap, cur, e', mm, hK, hnm, e1, hc, hnc, hm, hcur⟩
          · subst hz e1
            have hrs0 : rs = [] := by simpa using g1
            subst hrs0
            exact .rsl (cs := []) (by simp) (by simp) (Nat.le_refl _) (fun _ => rfl) (by simp) (by simp) (by simp) (by simp)
          · rw [e1] at e0
            injection e0 with e2 e3 e4
            subst e1
            refine .rsl (by rw [g1]; exact hl) hu' hnc (fun h => by cases h) hcs hone (fun hne => ?_) (fun j u x hu0 hx => ?_)
            · have hpos : 0 < n := by
                rcases Nat.eq_zero_or_pos n with h | h
                · have hrs0 : rs = [] := by subst h; simpa using g1
                  rw [hrs0] at hne; simp at hne
                · exact h
              obtain ⟨g', o', e5, hc'⟩ := hcell hpos
              rw [← e2] at e5
              injection e5 with e5; injection e5 with e5 e6; subst e5 e6
              exact ⟨g, 0, rfl, (Array.getElem?_eq_some_iff.1 hc).1, hs.notY hY (by simp [hb]) (blkOf_of hK), hc'⟩
            · obtain ⟨u0, h7, h8⟩ := f2 j u hu0
              refine viewCell_soundY hY hs h8 ?_
              have := hvn j u0 x h7 hx
              rw [hkd] at this
              exact this
        · cases h
      · exact viewCell_soundY hY hs h hv
    · cases h
  · rename_i b off
    split at h
    · rename_i blk hb
      split at h
      · rename_i row hkd hrow
        split at h
        · rename_i r' hr'
          injection h with h
          subst h
          obtain ⟨g, hK, rfl⟩ := VR.ovar_inv hv
          rcases hs.own b blk hb with ⟨k1, k2⟩ | ⟨g', k1, hblk⟩
          · rw [show blkOf K b = none from by simp [blkOf, k1]] at hK; cases hK
          · have hlt := hs.live_lt (by simp [hb]) hK
            rw [blkOf_of k1] at hK; injection hK with hK; subst hK
            have hrr := hblk.row (by rw [hkd]; simp) (hs.rows b blk hb) (i := 0) (row := row) (by rw [hrow]; rfl)
            simp only [Nat.zero_mul] at hrr
            obtain ⟨cs, c1, c2, c3, c4⟩ := hrr.list
            obtain ⟨v1, v2⟩ := viewCells_soundY hY hs (f := fun _ => none) hr'
            have := VR.rptr (w := w) (X := Y) (K := K0) (xs := r') (off := off) (g := g') (o := 0) (cs := cs) (by rw [c1, v1]) c3 hlt (hs.notY hY (by simp [hb]) (blkOf_of k1)) c2
              (fun j u x hu hx => v2 j u x hu fun u0 hu0 => c4 j u0 x hu0 hx)
            simpa using this
        · cases h
      · cases h
    · cases h
  · rename_i xs
    split at h
    · rename_i ys hys
      injection h with h
      subst h
      obtain ⟨vs, rfl, l1, h1, v1⟩ := VR.agg_inv hv
      obtain ⟨w1, w2⟩ := viewCells_soundY hY hs (f := fun _ => none) hys
      exact .agg (by rw [w1, l1]) h1 fun j u x hu hx => w2 j u x hu fun u0 hu0 => v1 j u0 x hu0 hx
    · cases h
  · exact viewCell_soundY hY hs h hv

theorem SRK.viewAll {fr fr' : List (Nat × AV)} {O : List (Nat × OBlk)} (hs : SRK E K ⟨fr, O⟩ a w) (hf : ∀ t, lk fr' t = .top ∨ view1 (olk O) (lk fr t) = some (lk fr' t)) : SRK E K ⟨fr', []⟩ a w := by
  have hno : ∀ t, lk fr' t ≠ .top → ∀ d want u, lk fr t ≠ .opt d want u := by
    intro t ht d want u he
    rcases hf t with h | h
    · exact ht h
    · rw [he] at h; simp [view1, viewCell] at h
  refine ⟨hs.size, hs.defers, hs.ext, fun t => ?_, fun b x hb => by simp [olk] at hb, fun b x hb => by simp [olk] at hb, fun b b' g hb => by simp [olk] at hb, fun b g hb => by simp [olk] at hb, hs.pin⟩
  show FV w _ K _ (lk fr' t) _
  rcases hf t with h | h
  · rw [h]; exact FV.top
  · by_cases ht : lk fr' t = .top
    · rw [ht]; exact FV.top
    · have hv := (hs.fr t).vr (hno t ht)
      have hY : ∀ g, XX E K [] g → E.XF g ∧ g < E.w0.heap.size := by
        rintro g (⟨b, hb, _⟩ | hg)
        · simp [olk] at hb
        · exact hg
      exact FV.of ((view1_soundY (Y := XX E K []) hY hs h hv).any K)
end
/-- how an evaluation ends that hands back blocks -/
def retQG (T : Tab) (rv : List ResultVar) (r : AV) (O' : List (Nat × OBlk)) : Ex → Cfg → Prop
  | .exit _, _ => False
  | _, c => keepO c.O (idsOf O') = O' ∧ retG T c rv r
theorem fnG_ev {P : Program} {N : Nat} {T : Tab} {ks : List Nat} (hT : TabOK P T) (h1 : TabOne T = true) (hm : P.follows .mixedOrders = true) {f : FuncId} {fn : Func} {code : Code} {args : List AV} {O O' : List (Nat × OBlk)} {pins : List Nat} {r : AV} (rv : List ResultVar)
    (hf : P.funcs[f]? = some fn) (hb : fn.body = some code) (hname : (fn.name == "runtime.NumGoroutine") = false) (hn : Nat.ble args.length fn.ntmps = true) (hN : fn.ntmps = N)
    (hr : fn.results.toList = rv) (hpins : ∀ b, memN b pins = true → Nat.ble 2 (b % 16) = true ∧ (olk O b).isSome = true) (hd : drawsOK code = true)
    (h : ev P T N ks code ⟨idx 0 args, O⟩ (retQG T rv r O')) : FnG P f args O pins O' r :=
  fnG_of hT rv hf hb hname hn hN hr hpins fun E K a w hEN _ hs =>
    ev_sound hT h1 hEN hm code _ (retQG T rv r O') _ a w hd h (fun e c' a' w' hq hs' => by
      obtain ⟨K', hs'⟩ := hs'
      cases e with
      | exit id => exact hq.elim
      | normal => exact ⟨.inl rfl, K', c', hs', hq.1, hq.2⟩
      | ret => exact ⟨.inr rfl, K', c', hs', hq.1, hq.2⟩) ⟨K, hs⟩
end Go.Abs
end
section
namespace Go.Abs
open Go.RowKit
set_option linter.unusedVariables false
/-! ### an evaluator that calls functions that get blocks of the caller's own (FnG), and may say less on the way -/
/-- c' says less, where no id is pinned but these -/
def WkP (ps : List Nat) (c c' : Cfg) : Prop := ∀ E a w, (∀ b, memN b ps = false → E.pin b = none) → SR E c a w → SR E c' a w
theorem WkP.refl (ps : List Nat) (c : Cfg) : WkP ps c c := fun _ _ _ _ h => h
theorem WkP.trans {ps : List Nat} {c c' c'' : Cfg} (h : WkP ps c c') (k : WkP ps c' c'') : WkP ps c c'' := fun E a w p s => k E a w p (h E a w p s)
theorem Wk.p {ps : List Nat} {c c' : Cfg} (h : Wk c c') : WkP ps c c' := fun E a w _ s => h E a w s
/-- where the calls of such functions stand in a region -/
def posG : List (Nat × List Nat) → Nat → List Nat
  | [], _ => []
  | (i, l) :: r, id => match Nat.beq i id with | true => l | false => posG r id
def subN : List Nat → List Nat → Bool
  | [], _ => true
  | b :: r, ps => memN b ps && subN r ps
theorem subN_get : ∀ {ps qs : List Nat}, subN ps qs = true → ∀ b, memN b ps = true → memN b qs = true
  | [], _, _, b, h => by cases h
  | p :: r, qs, h, b, hb => by
    simp only [subN, Bool.and_eq_true] at h
    simp only [memN] at hb
    split at hb
    · rename_i e; rw [beq_true e]; exact h.1
    · exact subN_get h.2 b hb
def callG (P : Program) (N : Nat) (ps : List Nat) (o : Oper) (c2 : Cfg) (K : Cfg → Prop) : Prop :=
  match o.op with
  | .call cl => match cl.callee with
    | .value f => match opv c2 f with
      | .func g caps => ∃ (O' : List (Nat × OBlk)) (r : AV) (pins : List Nat), FnG P g (cl.args.toList.map (opv c2) ++ caps) c2.O pins O' r ∧
          (noOptL (cl.args.toList.map (opv c2) ++ caps) && notOpt r && inPF pins c2.fr && subN ps pins && dstOK N c2 o.dst) = true ∧ K ⟨putF o.dst r c2.fr, O'⟩
      | _ => False
    | _ => False
  | _ => False
def noGuard (o : Oper) : Bool := match o.guard with | none => true | some _ => false
/-- a region with one such call -/
def evOps1 (P : Program) (T : Tab) (N : Nat) (dm : List (Nat × Bool)) (ks ps : List Nat) (ops : Array Oper) (p : Nat) (c : Cfg) (K : Cfg → Prop) : Prop :=
  match ops[p]? with
  | none => False
  | some o => match noGuard o with
    | false => False
    | true => evOps false P T N dm ops ⟨c, [], []⟩ 0 (ops.toList.take p) c fun c1 => ∃ c2, WkP ps c1 c2 ∧ callG P N ps o c2 fun c3 =>
        evOps false P T N dm ops ⟨c3, [], []⟩ (p + 1) (ops.toList.drop (p + 1)) c3 fun c' => endK ks c' K
/-- a region with two such calls -/
def evOps2 (P : Program) (T : Tab) (N : Nat) (dm : List (Nat × Bool)) (ks ps : List Nat) (ops : Array Oper) (p q : Nat) (c : Cfg) (K : Cfg → Prop) : Prop :=
  match ops[p]?, ops[q]? with
  | some o, some o' => match noGuard o && noGuard o' && Nat.blt p q with
    | false => False
    | true => evOps false P T N dm ops ⟨c, [], []⟩ 0 (ops.toList.take p) c fun c1 => ∃ c2, WkP ps c1 c2 ∧ callG P N ps o c2 fun c3 =>
        evOps false P T N dm ops ⟨c3, [], []⟩ (p + 1) ((ops.toList.drop (p + 1)).take (q - (p + 1))) c3 fun c4 => ∃ c5, WkP ps c4 c5 ∧ callG P N ps o' c5 fun c6 =>
          evOps false P T N dm ops ⟨c6, [], []⟩ (q + 1) (ops.toList.drop (q + 1)) c6 fun c' => endK ks c' K
  | _, _ => False
/-- a region of which less is said ahead of one operation -/
def evOpsW (P : Program) (T : Tab) (N : Nat) (dm : List (Nat × Bool)) (ks ps : List Nat) (ops : Array Oper) (p : Nat) (c : Cfg) (K : Cfg → Prop) : Prop :=
  Nat.ble p ops.size = true ∧ evOps false P T N dm ops ⟨c, [], []⟩ 0 (ops.toList.take p) c fun c1 => ∃ c2, WkP ps c1 c2 ∧ evOps false P T N dm ops ⟨c2, [], []⟩ p (ops.toList.drop p) c2 fun c' => endK ks c' K
/-- an operation that is shown over the machine: what may stand behind it -/
def OpX (P : Program) (N : Nat) (ps : List Nat) (ops : Array Oper) (p : Nat) (c : Cfg) (R : Cfg → Prop) : Prop :=
  ∀ (E : Env) (a : Act) (w : World) (Q : Exit → Act → World → Prop), E.N = N → (∀ b, memN b ps = false → E.pin b = none) → SR E c a w → wpOp P ops Q p (fun a' w' => ∃ c', R c' ∧ SR E c' a' w') a w
def evOpsX (P : Program) (T : Tab) (N : Nat) (dm : List (Nat × Bool)) (ks ps : List Nat) (ops : Array Oper) (p : Nat) (c : Cfg) (K : Cfg → Prop) : Prop :=
  Nat.blt p ops.size = true ∧ evOps false P T N dm ops ⟨c, [], []⟩ 0 (ops.toList.take p) c fun c1 => ∃ c2, WkP ps c1 c2 ∧ ∃ R, OpX P N ps ops p c2 R ∧ ∀ c3, R c3 →
    evOps false P T N dm ops ⟨c3, [], []⟩ (p + 1) (ops.toList.drop (p + 1)) c3 fun c' => endK ks c' K
def evOpsG (P : Program) (T : Tab) (N : Nat) (dm : List (Nat × Bool)) (ks ps : List Nat) (ops : Array Oper) (l : List Nat) (c : Cfg) (K : Cfg → Prop) : Prop :=
  match l with
  | [] => evOps false P T N dm ops ⟨c, [], []⟩ 0 ops.toList c fun c' => endK ks c' K
  | [p] => evOps1 P T N dm ks ps ops p c K
  | [p, q] => match Nat.beq p q with
    | true => evOpsW P T N dm ks ps ops p c K
    | false => evOps2 P T N dm ks ps ops p q c K
  | [p, _, _] => evOpsX P T N dm ks ps ops p c K
  | _ => False
/-- a region that draws its order, whose last operation is behind all others -/
def evRegL (P : Program) (T : Tab) (N : Nat) (ks ps : List Nat) (ops : Array Oper) (g : Bool) (c : Cfg) (K : Cfg → Prop) : Prop :=
  match ops.back? with
  | none => False
  | some o => (drawSt ops.pop && lastOK ops ops.pop.size && noGuards ops.pop && noGuard o) = true ∧ evOps true P T N [] ops.pop ⟨c, [], []⟩ 0 ops.pop.toList c fun c1 => ∃ c2, WkP ps c1 c2 ∧ match g with
    | true => callG P N ps o c2 fun c' => endK ks c' K
    | false => evOps false P T N [] ops ⟨c2, [], []⟩ ops.pop.size [o] c2 fun c' => endK ks c' K
/-- .. whose last operation but one is such a call -/
def evRegL2 (P : Program) (T : Tab) (N : Nat) (ks ps : List Nat) (ops : Array Oper) (c : Cfg) (K : Cfg → Prop) : Prop :=
  match ops.back?, ops.pop.back? with
  | some o2, some o1 => (drawSt ops.pop.pop && lastOK ops.pop ops.pop.pop.size && lastOK ops ops.pop.size && noGuards ops.pop.pop && noGuards ops.pop && noGuard o1) = true ∧
      evOps true P T N [] ops.pop.pop ⟨c, [], []⟩ 0 ops.pop.pop.toList c fun c1 => ∃ c2, WkP ps c1 c2 ∧ callG P N ps o1 c2 fun c3 => evOps false P T N [] ops ⟨c3, [], []⟩ ops.pop.size [o2] c3 fun c' => endK ks c' K
  | _, _ => False
def evReg (P : Program) (T : Tab) (N : Nat) (ks : List Nat) (l ps : List Nat) (ops : Array Oper) (dr : Bool) (c : Cfg) (K : Cfg → Prop) : Prop :=
  match dr with
  | true => match l with
    | [] => match hasGuard ops.toList with
      | false => evOps true P T N [] ops ⟨c, [], []⟩ 0 ops.toList c fun c' => endK ks c' K
      | true => ∃ dm, evOps true P T N dm ops ⟨c, [], []⟩ 0 ops.toList c fun c' => endK ks c' K
    | [_] => evRegL P T N ks ps ops true c K
    | [_, _, _] => evRegL2 P T N ks ps ops c K
    | _ => evRegL P T N ks ps ops false c K
  | false => match hasGuard ops.toList with
    | false => evOpsG P T N [] ks ps ops l c K
    | true => ∃ dm, evOpsG P T N dm ks ps ops l c K
def evG (P : Program) (T : Tab) (N : Nat) (ks : List Nat) (gs : List (Nat × List Nat)) (wk ps : List Nat) : Code → Cfg → (Ex → Cfg → Prop) → Prop
  | .skip, c, Q => Q .normal c
  | .region id ops dr, c, Q => match memN id wk with
    | true => ∃ c', WkP ps c c' ∧ evReg P T N ks (posG gs id) ps ops dr c' (Q .normal)
    | false => evReg P T N ks (posG gs id) ps ops dr c (Q .normal)
  | .seq x y, c, Q => evG P T N ks gs wk ps x c fun e c' => match e with
    | .normal => evG P T N ks gs wk ps y c' Q
    | e => Q e c'
  | .cond x thn els, c, Q => match opv c x with
    | .bool b => (b = true → evG P T N ks gs wk ps thn c Q) ∧ (b = false → evG P T N ks gs wk ps els c Q)
    | _ => False
  | .block id b, c, Q => evG P T N ks gs wk ps b c fun e c' => match e with
    | .exit id' => match Nat.beq id' id with | true => Q .normal c' | false => Q (.exit id') c'
    | e => Q e c'
  | .exit id, c, Q => Q (.exit id) c
  | .ret, c, Q => Q .ret c
  | .loop b, c, Q => ∃ (I : Nat → Cfg → Prop), (∃ n c', WkP ps c c' ∧ I n c') ∧ ∀ n c, I n c → evG P T N ks gs wk ps b c fun e c' => match e with
    | .normal => ∃ m c'', WkP ps c' c'' ∧ m < n ∧ I m c''
    | e => Q e c'
  | _, _, _ => False
section
variable {P : Program} {T : Tab} {E : Env} {N : Nat} {ks wk ps : List Nat} {gs : List (Nat × List Nat)}
theorem callG_sound (hN : E.N = N) (hp : ∀ b, memN b ps = false → E.pin b = none) {ops : Array Oper} {o : Oper} {Kk : Cfg → Prop} {K2 : Act → World → Prop} {Q : Exit → Act → World → Prop} {p : Nat} {c2 : Cfg} {a : Act} {w : World}
    (ho : ops[p]? = some o) (hg : noGuard o = true) (h : callG P N ps o c2 Kk) (hs : SR E c2 a w) (hk : ∀ c a w, Kk c → SR E c a w → K2 a w) : wpOp P ops Q p K2 a w := by
  obtain ⟨K, hs2⟩ := hs
  have hg' : o.guard = none := by unfold noGuard at hg; split at hg <;> first | assumption | cases hg
  unfold callG at h
  split at h
  · rename_i cl hop
    split at h
    · rename_i f hcal
      split at h
      · rename_i g caps hf
        obtain ⟨O', r, pins, hfn, hck, hk'⟩ := h
        simp only [Bool.and_eq_true] at hck
        obtain ⟨⟨⟨⟨k1, k2⟩, k3⟩, k4⟩, k5⟩ := hck
        obtain ⟨fr2, O2⟩ := c2
        obtain ⟨callee, args, ts⟩ := cl
        simp only at hcal
        subst hcal
        refine wpOp_callG (pins := pins) (O' := O') (r := r) ho hop (wanted_no' hg') hs2 hfn hf rfl k1 k2 k3 (fun b hb => hp b ?_) (by rw [hN]; exact k5) ?_
        · cases hq : memN b ps with
          | false => rfl
          | true => rw [subN_get k4 b hq] at hb; cases hb
        · intro K' v w' hs'
          exact hk _ _ w' hk' ⟨K', hs'⟩
      · exact h.elim
    · exact h.elim
  · exact h.elim
/-- some operations, then others -/
theorem wpOps_seg (hT : TabOK P T) (h1 : TabOne T = true) (hN : E.N = N) {ops : Array Oper} {dm : List (Nat × Bool)} {A : Acc} {i n : Nat} {l : List Oper} {c : Cfg} {a : Act} {w : World} {Kk : Cfg → Prop} {Q : Exit → Act → World → Prop} {is : List Nat}
    (hl : ∀ j, j < l.length → l[j]? = ops[i + j]?) (hn : l.length = n) (h : evOps false P T N dm ops A i l c Kk) (hQ : ∀ c a w, Kk c → SR E c a w → wpOps P ops Q is a w) (hs : SR E c a w) : wpOps P ops Q (List.range' i n ++ is) a w := by
  have := evOps_part (is := is) (Q := Q) hT h1 hN hQ l A i c a w hl h hs
  rw [hn] at this
  exact this
theorem evOpsG_sound (hT : TabOK P T) (h1 : TabOne T = true) (hN : E.N = N) (hp : ∀ b, memN b ps = false → E.pin b = none) {ops : Array Oper} {dm : List (Nat × Bool)} {Kk : Cfg → Prop} {Q : Exit → Act → World → Prop} (hQ : ∀ c a w, Kk c → SR E c a w → Q .normal a w)
    {l : List Nat} {c : Cfg} {a : Act} {w : World} (h : evOpsG P T N dm ks ps ops l c Kk) (hs : SR E c a w) : wpOps P ops Q (List.range ops.size) a w := by
  have hQ' : ∀ c a w, endK ks c Kk → SR E c a w → Q .normal a w := fun c a w hk hs => hQ _ a w (endK_iff.1 hk) hs.endK
  have hend : ∀ (c : Cfg) (a : Act) (w : World), endK ks c Kk → SR E c a w → wpOps P ops Q [] a w := fun c a w hk hs => hQ' c a w hk hs
  unfold evOpsG at h
  split at h
  · have := evOps_sound hT h1 hN hQ' ops.toList _ 0 c a w (fun j => by simp) h hs
    rw [show ops.toList.length = ops.size by simp, ← List.range_eq_range'] at this
    exact this
  · rename_i p
    unfold evOps1 at h
    split at h
    · exact h.elim
    · rename_i o ho
      have hps : p < ops.size := (Array.getElem?_eq_some_iff.1 ho).1
      split at h
      · exact h.elim
      · rename_i hg
        rw [List.range_eq_range', show List.range' 0 ops.size = List.range' 0 p ++ (p :: List.range' (p + 1) (ops.size - (p + 1))) from by
          rw [show (p :: List.range' (p + 1) (ops.size - (p + 1))) = List.range' p (ops.size - p) from by
            rw [show ops.size - p = (ops.size - (p + 1)) + 1 by omega, List.range'_succ]]
          rw [show List.range' p (ops.size - p) = List.range' (0 + 1 * p) (ops.size - p) from by simp, List.range'_append]
          congr 1; omega]
        refine wpOps_seg hT h1 hN (fun j hj => ?_) (by simp; omega) h (fun c1 a1 w1 hk hs1 => ?_) hs
        · rw [List.getElem?_take_of_lt (by simp at hj; omega)]; simp
        · obtain ⟨c2, hw, hc⟩ := hk
          rw [wpOps_cons]
          refine callG_sound hN hp ho hg hc (hw E a1 w1 hp hs1) fun c3 a3 w3 hk3 hs3 => ?_
          have := wpOps_seg (is := []) (n := ops.size - (p + 1)) hT h1 hN (fun j hj => by rw [List.getElem?_drop]; simp) (by simp) hk3 hend hs3
          rw [List.append_nil] at this
          exact this
  · rename_i p q
    split at h
    · unfold evOpsW at h
      obtain ⟨hle, h⟩ := h
      have hle := Nat.le_of_ble_eq_true hle
      rw [List.range_eq_range', show List.range' 0 ops.size = List.range' 0 p ++ List.range' p (ops.size - p) from by
        rw [show List.range' p (ops.size - p) = List.range' (0 + 1 * p) (ops.size - p) from by simp, List.range'_append]
        congr 1; omega]
      refine wpOps_seg hT h1 hN (fun j hj => ?_) (by simp; omega) h (fun c1 a1 w1 hk hs1 => ?_) hs
      · rw [List.getElem?_take_of_lt (by simp at hj; omega)]; simp
      · obtain ⟨c2, hw, hk2⟩ := hk
        have := wpOps_seg (is := []) (n := ops.size - p) hT h1 hN (fun j hj => by rw [List.getElem?_drop]; simp) (by simp) hk2 hend (hw E a1 w1 hp hs1)
        rw [List.append_nil] at this
        exact this
    unfold evOps2 at h
    split at h
    · rename_i o o' ho ho'
      have hqs : q < ops.size := (Array.getElem?_eq_some_iff.1 ho').1
      split at h
      · exact h.elim
      · rename_i hg
        simp only [Bool.and_eq_true] at hg
        obtain ⟨⟨hg1, hg2⟩, hg3⟩ := hg
        have hpq : p < q := by simpa [Nat.blt_eq] using hg3
        rw [List.range_eq_range', show List.range' 0 ops.size = List.range' 0 p ++ (p :: (List.range' (p + 1) (q - (p + 1)) ++ (q :: List.range' (q + 1) (ops.size - (q + 1))))) from by
          rw [show (q :: List.range' (q + 1) (ops.size - (q + 1))) = List.range' q (ops.size - q) from by
            rw [show ops.size - q = (ops.size - (q + 1)) + 1 by omega, List.range'_succ]]
          rw [show List.range' (p + 1) (q - (p + 1)) ++ List.range' q (ops.size - q) = List.range' (p + 1) (ops.size - (p + 1)) from by
            rw [show List.range' q (ops.size - q) = List.range' ((p + 1) + 1 * (q - (p + 1))) (ops.size - q) from by congr 1; omega, List.range'_append]
            congr 1; omega]
          rw [show (p :: List.range' (p + 1) (ops.size - (p + 1))) = List.range' p (ops.size - p) from by
            rw [show ops.size - p = (ops.size - (p + 1)) + 1 by omega, List.range'_succ]]
          rw [show List.range' p (ops.size - p) = List.range' (0 + 1 * p) (ops.size - p) from by simp, List.range'_append]
          congr 1; omega]
        refine wpOps_seg hT h1 hN (fun j hj => ?_) (by simp; omega) h (fun c1 a1 w1 hk hs1 => ?_) hs
        · rw [List.getElem?_take_of_lt (by simp at hj; omega)]; simp
        · obtain ⟨c2, hw, hc⟩ := hk
          rw [wpOps_cons]
          refine callG_sound hN hp ho hg1 hc (hw E a1 w1 hp hs1) fun c3 a3 w3 hk3 hs3 => ?_
          refine wpOps_seg hT h1 hN (fun j hj => ?_) (by simp; omega) hk3 (fun c4 a4 w4 hk4 hs4 => ?_) hs3
          · rw [List.getElem?_take_of_lt (by simp at hj; omega), List.getElem?_drop]; simp
          · obtain ⟨c5, hw5, hc5⟩ := hk4
            rw [wpOps_cons]
            refine callG_sound hN hp ho' hg2 hc5 (hw5 E a4 w4 hp hs4) fun c6 a6 w6 hk6 hs6 => ?_
            have := wpOps_seg (is := []) (n := ops.size - (q + 1)) hT h1 hN (fun j hj => by rw [List.getElem?_drop]; simp) (by simp) hk6 hend hs6
            rw [List.append_nil] at this
            exact this
    · exact h.elim
  · rename_i p _ _
    unfold evOpsX at h
    obtain ⟨hps, h⟩ := h
    have hps : p < ops.size := by simpa [Nat.blt_eq] using hps
    rw [List.range_eq_range', show List.range' 0 ops.size = List.range' 0 p ++ (p :: List.range' (p + 1) (ops.size - (p + 1))) from by
      rw [show (p :: List.range' (p + 1) (ops.size - (p + 1))) = List.range' p (ops.size - p) from by
        rw [show ops.size - p = (ops.size - (p + 1)) + 1 by omega, List.range'_succ]]
      rw [show List.range' p (ops.size - p) = List.range' (0 + 1 * p) (ops.size - p) from by simp, List.range'_append]
      congr 1; omega]
    refine wpOps_seg hT h1 hN (fun j hj => ?_) (by simp; omega) h (fun c1 a1 w1 hk hs1 => ?_) hs
    · rw [List.getElem?_take_of_lt (by simp at hj; omega)]; simp
    · obtain ⟨c2, hw, R, hX, hc⟩ := hk
      rw [wpOps_cons]
      refine wpOp_mono (fun a3 w3 h3 => ?_) (hX E a1 w1 Q hN hp (hw E a1 w1 hp hs1))
      obtain ⟨c3, hR, hs3⟩ := h3
      have := wpOps_seg (is := []) (n := ops.size - (p + 1)) hT h1 hN (fun j hj => by rw [List.getElem?_drop]; simp) (by simp) (hc c3 hR) hend hs3
      rw [List.append_nil] at this
      exact this
  · exact h.elim
theorem wp_region_last2 (hT : TabOK P T) (h1 : TabOne T = true) (hN : E.N = N) (hm : P.follows .mixedOrders = true) {opsA : Array Oper} {o1 o2 : Oper} (hst : drawSt opsA = true) (hok1 : lastOK (opsA.push o1) opsA.size = true)
    (hok2 : lastOK ((opsA.push o1).push o2) (opsA.push o1).size = true) (hg : noGuards opsA = true) (hg2 : noGuards (opsA.push o1) = true) {dm : List (Nat × Bool)} {Kk : Cfg → Prop} {Q : Exit → Act → World → Prop} {id : Nat} {c : Cfg} {a : Act} {w : World}
    (h : evOps true P T N dm opsA ⟨c, [], []⟩ 0 opsA.toList c Kk) (hs : SR E c a w)
    (hk : ∀ c a w, Kk c → SR E c a w → wpOp P (opsA.push o1) (fun e a w => e = .normal ∧ wpOp P ((opsA.push o1).push o2) Q (opsA.push o1).size (fun a w => Q .normal a w) a w) opsA.size (fun a w => wpOp P ((opsA.push o1).push o2) Q (opsA.push o1).size (fun a w => Q .normal a w) a w) a w) :
    (Code.region id ((opsA.push o1).push o2) true).wp P Q a w := by
  have hw : ∀ c a w, Kk c → SR E c a w → wpOp P (opsA.push o1) (fun e a w => e = .normal ∧ wpOp P ((opsA.push o1).push o2) Q (opsA.push o1).size (fun a w => Q .normal a w) a w) opsA.size (fun a w => (Exit.normal = .normal) ∧ wpOp P ((opsA.push o1).push o2) Q (opsA.push o1).size (fun a w => Q .normal a w) a w) a w :=
    fun c a w q s => wpOp_mono (fun _ _ h => ⟨rfl, h⟩) (hk c a w q s)
  have := draw_any (Q := fun e a w => e = .normal ∧ wpOp P (opsA.push o1) (fun e a w => e = .normal ∧ wpOp P ((opsA.push o1).push o2) Q (opsA.push o1).size (fun a w => Q .normal a w) a w) opsA.size (fun a w => (Exit.normal = .normal) ∧ wpOp P ((opsA.push o1).push o2) Q (opsA.push o1).size (fun a w => Q .normal a w) a w) a w)
    hT h1 hN hst (fun c a w q s => ⟨rfl, hw c a w q s⟩) h hs
  have hrep : ∀ (n k : Nat), (Array.replicate n false).getD k false = false := by
    intro n k
    rw [Array.getD_eq_getD_getElem?, Array.getElem?_replicate]
    split <;> rfl
  have hr : ∀ n, Array.replicate (n + 1) false = (Array.replicate n false).push false := fun n => by rw [Array.replicate_succ]
  have h2 := wpAny_last (Q := fun e a w => e = .normal ∧ wpOp P ((opsA.push o1).push o2) Q (opsA.push o1).size (fun a w => Q .normal a w) a w) (fun e a w ne q => absurd q.1 ne) hok1 hg (fun a w q => q.2) opsA.size (Array.replicate opsA.size false) a _ (by simp) (by simp) (fun j o ho hl => by rw [hrep] at hl; cases hl) this
  rw [← hr, show opsA.size + 1 = (opsA.push o1).size by simp] at h2
  have h3 := wpAny_last (Q := Q) (fun e a w ne q => absurd q.1 ne) hok2 hg2 (fun a w q => q.2) (opsA.push o1).size (Array.replicate (opsA.push o1).size false) a _ (by simp) (by simp) (fun j o ho hl => by rw [hrep] at hl; cases hl) h2
  refine wp_region_any hm ?_
  rw [← hr] at h3
  rw [show ((opsA.push o1).push o2).size = (opsA.push o1).size + 1 by simp]
  exact h3
theorem evReg_sound (hT : TabOK P T) (h1 : TabOne T = true) (hN : E.N = N) (hm : P.follows .mixedOrders = true) (hp : ∀ b, memN b ps = false → E.pin b = none) {id : Nat} {l : List Nat} {ops : Array Oper} {dr : Bool} {c : Cfg} {a : Act} {w : World} {Kk : Cfg → Prop} {Q : Exit → Act → World → Prop} (hd : drawsOK (.region id ops dr) = true)
    (h : evReg P T N ks l ps ops dr c Kk) (hQ : ∀ c a w, Kk c → SR E c a w → Q .normal a w) (hs : SR E c a w) : (Code.region id ops dr).wp P Q a w := by
  have hQ' : ∀ c a w, endK ks c Kk → SR E c a w → Q .normal a w := fun c a w hk hs => hQ _ a w (endK_iff.1 hk) hs.endK
  unfold evReg at h
  cases dr with
  | true =>
    have key : ∀ g, evRegL P T N ks ps ops g c Kk → (Code.region id ops true).wp P Q a w := by
      intro g h
      unfold evRegL at h
      split at h
      · exact h.elim
      · rename_i o hb
        obtain ⟨hck, h⟩ := h
        simp only [Bool.and_eq_true] at hck
        obtain ⟨⟨⟨k1, k2⟩, k3⟩, k4⟩ := hck
        have hb' : ops[ops.size - 1]? = some o := by rw [← Array.back?_eq_getElem?]; exact hb
        have hne : ops.size - 1 < ops.size := (Array.getElem?_eq_some_iff.1 hb').1
        have hlast : ops[ops.pop.size]? = some o := by rw [Array.size_pop]; exact hb'
        have e : ops = ops.pop.push o := by
          refine Array.ext (by rw [Array.size_push, Array.size_pop]; omega) fun i h1 h2 => ?_
          by_cases hi : i < ops.size - 1
          · rw [Array.getElem_push_lt (by rw [Array.size_pop]; exact hi), Array.getElem_pop]
          · have hi' : i = ops.pop.size := by rw [Array.size_pop]; omega
            subst hi'
            rw [Array.getElem_push_eq]
            have := hlast
            rw [Array.getElem?_eq_getElem h1] at this
            injection this
        have := wp_region_last (id := id) (o := o) (Q := Q) hT h1 hN hm k1 (by rw [← e]; exact k2) k3 h hs fun c1 a1 w1 hk hs1 => ?_
        · rwa [← e] at this
        · rw [← e]
          obtain ⟨c2, hw, hk⟩ := hk
          cases g with
          | true => exact callG_sound hN hp hlast k4 hk (hw E a1 w1 hp hs1) fun c3 a3 w3 hk3 hs3 => hQ' c3 a3 w3 hk3 hs3
          | false =>
            obtain ⟨r, hst, _, hrest⟩ := evOps_cons hk
            exact wpOp_mono (fun a' w' hs' => hQ' _ a' w' hrest hs') (step_sound hT h1 hN hlast hst (hw E a1 w1 hp hs1))
    simp only at h
    split at h
    · have h' : ∃ dm, evOps true P T N dm ops ⟨c, [], []⟩ 0 ops.toList c fun c' => endK ks c' Kk := by
        split at h
        · exact ⟨[], h⟩
        · exact h
      obtain ⟨dm, h'⟩ := h'
      exact draw_sound hT h1 hN hm hd hQ' h' hs
    · exact key _ h
    · unfold evRegL2 at h
      split at h
      · rename_i o2 o1 hb2 hb1
        obtain ⟨hck, h⟩ := h
        simp only [Bool.and_eq_true] at hck
        obtain ⟨⟨⟨⟨⟨k1, k2⟩, k3⟩, k4⟩, k5⟩, k6⟩ := hck
        have pp : ∀ (A : Array Oper) (o : Oper), A.back? = some o → A = A.pop.push o ∧ A[A.pop.size]? = some o := by
          intro A o hb
          have hb' : A[A.size - 1]? = some o := by rw [← Array.back?_eq_getElem?]; exact hb
          have hne : A.size - 1 < A.size := (Array.getElem?_eq_some_iff.1 hb').1
          have hlast : A[A.pop.size]? = some o := by rw [Array.size_pop]; exact hb'
          refine ⟨Array.ext (by rw [Array.size_push, Array.size_pop]; omega) fun i h1 h2 => ?_, hlast⟩
          by_cases hi : i < A.size - 1
          · rw [Array.getElem_push_lt (by rw [Array.size_pop]; exact hi), Array.getElem_pop]
          · have hi' : i = A.pop.size := by rw [Array.size_pop]; omega
            subst hi'
            rw [Array.getElem_push_eq]
            have := hlast
            rw [Array.getElem?_eq_getElem h1] at this
            injection this
        obtain ⟨e2, l2⟩ := pp _ _ hb2
        obtain ⟨e1, l1⟩ := pp _ _ hb1
        have := wp_region_last2 (id := id) (o1 := o1) (o2 := o2) (opsA := ops.pop.pop) (Q := Q) hT h1 hN hm k1 (by rw [← e1]; exact k2) (by rw [← e1, ← e2]; exact k3) k4 (by rw [← e1]; exact k5) h hs fun c1 a1 w1 hk hs1 => ?_
        · rwa [← e1, ← e2] at this
        · rw [← e1, ← e2]
          obtain ⟨c2, hw, hk⟩ := hk
          refine callG_sound hN hp l1 k6 hk (hw E a1 w1 hp hs1) fun c3 a3 w3 hk3 hs3 => ?_
          obtain ⟨r, hst, _, hrest⟩ := evOps_cons hk3
          exact wpOp_mono (fun a' w' hs' => hQ' _ a' w' hrest hs') (step_sound hT h1 hN l2 hst hs3)
      · exact h.elim
    · exact key _ h
  | false =>
    have h' : ∃ dm, evOpsG P T N dm ks ps ops l c Kk := by
      simp only at h
      split at h
      · exact ⟨[], h⟩
      · exact h
    obtain ⟨dm, h'⟩ := h'
    exact wp_region (evOpsG_sound hT h1 hN hp hQ h' hs)
theorem evG_sound (hT : TabOK P T) (h1 : TabOne T = true) (hN : E.N = N) (hm : P.follows .mixedOrders = true) (hp : ∀ b, memN b ps = false → E.pin b = none) :
    ∀ (code : Code) (c : Cfg) (Q : Ex → Cfg → Prop) (Q' : Exit → Act → World → Prop) (a : Act) (w : World), drawsOK code = true → evG P T N ks gs wk ps code c Q →
      (∀ e c a w, Q e c → SR E c a w → Q' e.toExit a w) → SR E c a w → code.wp P Q' a w
  | .skip, c, Q, Q', a, w, hd, h, hQ, hs => wp_skip (hQ .normal c a w h hs)
  | .region id ops dr, c, Q, Q', a, w, hd, h, hQ, hs => by
    simp only [evG] at h
    split at h
    · obtain ⟨c', hw, h⟩ := h
      exact evReg_sound hT h1 hN hm hp hd h (fun c a w hk hs => hQ .normal c a w hk hs) (hw E a w hp hs)
    · exact evReg_sound hT h1 hN hm hp hd h (fun c a w hk hs => hQ .normal c a w hk hs) hs
  | .seq x y, c, Q, Q', a, w, hd, h, hQ, hs => by
    simp only [drawsOK, Bool.and_eq_true] at hd
    refine wp_seq (evG_sound hT h1 hN hm hp x c _ _ a w hd.1 h (fun e c a w hq hs => ?_) hs)
    cases e with
    | normal => exact evG_sound hT h1 hN hm hp y c Q Q' a w hd.2 hq hQ hs
    | exit id => exact hQ _ c a w hq hs
    | ret => exact hQ _ c a w hq hs
  | .cond x t e, c, Q, Q', a, w, hd, h, hQ, hs => by
    simp only [drawsOK, Bool.and_eq_true] at hd
    simp only [evG] at h
    split at h
    · rename_i b hb
      exact wp_cond_split (opv_FV hs hb) (fun ht => evG_sound hT h1 hN hm hp t c Q Q' a w hd.1 (h.1 ht) hQ hs) (fun ht => evG_sound hT h1 hN hm hp e c Q Q' a w hd.2 (h.2 ht) hQ hs)
    · exact h.elim
  | .block id b, c, Q, Q', a, w, hd, h, hQ, hs => by
    refine wp_block (evG_sound hT h1 hN hm hp b c _ _ a w hd h (fun e c a w hq hs => ?_) hs)
    cases e with
    | normal => exact hQ _ c a w hq hs
    | exit id' =>
      simp only [Ex.toExit, Exit.inBlock]
      simp only at hq
      split at hq
      · rename_i he
        rw [if_pos (beq_true he)]
        exact hQ .normal c a w hq hs
      · rename_i he
        rw [if_neg (beq_false he)]
        exact hQ (.exit id') c a w hq hs
    | ret => exact hQ _ c a w hq hs
  | .exit id, c, Q, Q', a, w, hd, h, hQ, hs => wp_exit (hQ (.exit id) c a w h hs)
  | .ret, c, Q, Q', a, w, hd, h, hQ, hs => wp_ret (hQ .ret c a w h hs)
  | .loop b, c, Q, Q', a, w, hd, h, hQ, hs => by
    obtain ⟨I, ⟨n, c', hw, hI⟩, hr⟩ := h
    refine wp_loop_ghost (fun n a w => ∃ c, I n c ∧ SR E c a w) n ⟨c', hI, hw E a w hp hs⟩ ?_
    rintro n a w ⟨c, hI, hs⟩
    refine evG_sound hT h1 hN hm hp b c _ _ a w hd (hr n c hI) (fun e c a w hq hs => ?_) hs
    cases e with
    | normal =>
      obtain ⟨m, c'', hw, hlt, hI'⟩ := hq
      exact ⟨m, hlt, c'', hI', hw E a w hp hs⟩
    | exit id => exact hQ _ c a w hq hs
    | ret => exact hQ _ c a w hq hs
  | .rangeFunc _ _ _ _, c, Q, Q', a, w, hd, h, hQ, hs => h.elim
  | .scope _, c, Q, Q', a, w, hd, h, hQ, hs => h.elim
  | .label _, c, Q, Q', a, w, hd, h, hQ, hs => h.elim
  | .goto _, c, Q, Q', a, w, hd, h, hQ, hs => h.elim
  | .refuse _, c, Q, Q', a, w, hd, h, hQ, hs => h.elim
end
/-- a plain function's end: something weaker is handed back -/
def retQW (T : Tab) (rv : List ResultVar) (r : AV) : Ex → Cfg → Prop
  | .exit _, _ => False
  | _, c => ∃ c', WkP [] c c' ∧ retR T c' rv r
def retQGW (T : Tab) (ps : List Nat) (rv : List ResultVar) (r : AV) (O' : List (Nat × OBlk)) : Ex → Cfg → Prop
  | .exit _, _ => False
  | _, c => ∃ c', WkP ps c c' ∧ keepO c'.O (idsOf O') = O' ∧ retG T c' rv r
theorem fn_evG {P : Program} {N : Nat} {T : Tab} {ks wk : List Nat} {gs : List (Nat × List Nat)} (rv : List ResultVar) (hT : TabOK P T) (h1 : TabOne T = true) (hm : P.follows .mixedOrders = true) {f : FuncId} {fn : Func} {code : Code} {args : List AV} {r : AV}
    (hf : P.funcs[f]? = some fn) (hb : fn.body = some code) (hname : (fn.name == "runtime.NumGoroutine") = false) (hd : drawsOK code = true) (hn : Nat.ble args.length fn.ntmps = true) (hN : fn.ntmps = N) (hr : fn.results.toList = rv)
    (h : evG P T N ks gs wk [] code ⟨idx 0 args, []⟩ (retQW T rv r)) : Fn P f args r :=
  fn_ofW rv hT hf hb hname hn hN hr fun E K a w hEN hp hs =>
    evG_sound hT h1 hEN hm (fun b _ => hp b) code _ (retQW T rv r) _ a w hd h (fun e c' a' w' hq hs' => by
      cases e with
      | exit id => exact hq.elim
      | normal => obtain ⟨c2, h1, h2⟩ := hq; obtain ⟨K2, h3⟩ := h1 E a' w' (fun b _ => hp b) hs'; exact ⟨.inl rfl, K2, c2, h3, h2⟩
      | ret => obtain ⟨c2, h1, h2⟩ := hq; obtain ⟨K2, h3⟩ := h1 E a' w' (fun b _ => hp b) hs'; exact ⟨.inr rfl, K2, c2, h3, h2⟩) ⟨K, hs⟩
theorem fnG_evG {P : Program} {N : Nat} {T : Tab} {ks wk : List Nat} {gs : List (Nat × List Nat)} (rv : List ResultVar) (hT : TabOK P T) (h1 : TabOne T = true) (hm : P.follows .mixedOrders = true) {f : FuncId} {fn : Func} {code : Code} {args : List AV} {O O' : List (Nat × OBlk)} {pins : List Nat} {r : AV}
    (hf : P.funcs[f]? = some fn) (hb : fn.body = some code) (hname : (fn.name == "runtime.NumGoroutine") = false) (hd : drawsOK code = true) (hn : Nat.ble args.length fn.ntmps = true) (hN : fn.ntmps = N)
    (hr : fn.results.toList = rv) (hpins : ∀ b, memN b pins = true → Nat.ble 2 (b % 16) = true ∧ (olk O b).isSome = true)
    (h : evG P T N ks gs wk pins code ⟨idx 0 args, O⟩ (retQGW T pins rv r O')) : FnG P f args O pins O' r :=
  fnG_of hT rv hf hb hname hn hN hr hpins fun E K a w hEN hp hs =>
    evG_sound hT h1 hEN hm hp code _ (retQGW T pins rv r O') _ a w hd h (fun e c' a' w' hq hs' => by
      cases e with
      | exit id => exact hq.elim
      | normal => obtain ⟨c2, h1, h2, h3⟩ := hq; obtain ⟨K2, h4⟩ := h1 E a' w' hp hs'; exact ⟨.inl rfl, K2, c2, h4, h2, h3⟩
      | ret => obtain ⟨c2, h1, h2, h3⟩ := hq; obtain ⟨K2, h4⟩ := h1 E a' w' hp hs'; exact ⟨.inr rfl, K2, c2, h4, h2, h3⟩) ⟨K, hs⟩
end Go.Abs
end
section
namespace Go.Abs
open Go.RowKit
set_option linter.unusedVariables false
/-! ### other ids on the way; frames of such functions -/
def mapN : List (Nat × Nat) → Nat → Nat
  | [], b => b
  | (x, y) :: r, b => match Nat.beq x b with | true => y | false => mapN r b
def renOK (ps : List Nat) (m : List (Nat × Nat)) (ids : List Nat) : Bool := ids.all fun b => Nat.beq (mapN m b) b || !memN (mapN m b) ps
theorem WkP.kr {ps : List Nat} {c : Cfg} (ks ids : List Nat) (m : List (Nat × Nat)) (hf : inPF ids (keepF c.fr ks) = true) (hO : inPO ids (keepO c.O ids) = true) (hi : renInj (mapN m) ids = true) (hr : renOK ps m ids = true) :
    WkP ps c ⟨renF (mapN m) (keepF c.fr ks), renO (mapN m) (keepO c.O ids)⟩ := by
  intro E a w hp hs
  obtain ⟨K, h⟩ := Wk.keep ks ids E a w hs
  refine SRK.ren h (mapN m) ids hf hO hi fun b hb => ?_
  have := List.all_eq_true.1 hr b (memN_iff.1 hb)
  rw [Bool.or_eq_true] at this
  rcases this with h1 | h1
  · exact .inl (beq_true h1)
  · exact .inr (hp _ (by simpa using h1))
theorem WkP.keep {ps : List Nat} {c : Cfg} (ks ids : List Nat) : WkP ps c (c.only ks ids) := (Wk.keep ks ids).p
/-- all of one's own is looked at from now on -/
theorem WkP.viewAll {ps : List Nat} {c : Cfg} {fr' : List (Nat × AV)} (hf : ∀ t, lk fr' t = .top ∨ view1 (olk c.O) (lk c.fr t) = some (lk fr' t)) : WkP ps c ⟨fr', []⟩ := by
  rintro E a w _ ⟨K, h⟩
  obtain ⟨fr, O⟩ := c
  exact ⟨K, h.viewAll hf⟩
/-- some slots, looked at -/
def viewFr (O : List (Nat × OBlk)) (fr : List (Nat × AV)) : List Nat → Option (List (Nat × AV))
  | [] => some []
  | t :: ts => match view1 (olk O) (lk fr t), viewFr O fr ts with
    | some v, some r => some ((t, v) :: r)
    | _, _ => none
theorem viewFr_lk {O : List (Nat × OBlk)} {fr : List (Nat × AV)} : ∀ {ts : List Nat} {fr' : List (Nat × AV)}, viewFr O fr ts = some fr' → ∀ t, lk fr' t = .top ∨ view1 (olk O) (lk fr t) = some (lk fr' t)
  | [], fr', h, t => by simp [viewFr] at h; subst h; exact .inl rfl
  | s :: ts, fr', h, t => by
    simp only [viewFr] at h
    split at h
    · rename_i v r hv hr
      injection h with h; subst h
      simp only [lk_cons]
      split
      · rename_i e; subst e; exact .inr hv
      · exact viewFr_lk hr t
    · cases h
theorem WkP.see {ps : List Nat} {c : Cfg} (ts : List Nat) {fr' : List (Nat × AV)} (h : viewFr c.O c.fr ts = some fr') : WkP ps c ⟨fr', []⟩ := WkP.viewAll (viewFr_lk h)
/-! frames -/
def apartO (O R : List (Nat × OBlk)) : Bool := R.all fun x => !memN x.1 (idsOf O)
theorem olk_ids : ∀ {O : List (Nat × OBlk)} {b : Nat} {x : OBlk}, olk O b = some x → memN b (idsOf O) = true
  | [], b, x, h => by simp [olk] at h
  | (i, y) :: r, b, x, h => by
    rw [olk_cons] at h
    simp only [idsOf, memN]
    split at h
    · rename_i e; subst e; rw [show Nat.beq i i = true from Nat.beq_refl i]
    · split
      · rfl
      · exact olk_ids h
theorem apartO_get {O R : List (Nat × OBlk)} (h : apartO O R = true) : Apart O R := by
  intro b x hb
  have := List.all_eq_true.1 h _ (olk_mem hb)
  cases hO : olk O b with
  | none => rfl
  | some y => rw [olk_ids hO] at this; simp at this
/-- no id of these in it -/
def freeL (bs : List Nat) (us : List AV) : Bool := bs.all fun b => !AV.hasL b us
theorem freeL_get {bs : List Nat} {us : List AV} (h : freeL bs us = true) {b : Nat} (hb : memN b bs = true) : AV.hasL b us = false := by
  have := List.all_eq_true.1 h b (memN_iff.1 hb)
  simpa using this
def freeO (bs : List Nat) (O : List (Nat × OBlk)) : Bool := O.all fun x => match x.2.kd with | .any => x.2.rows.all (freeL bs) | _ => true
theorem freeO_get {bs : List Nat} {O : List (Nat × OBlk)} (h : freeO bs O = true) {b : Nat} {x : OBlk} (hb : olk O b = some x) (hk : x.kd = .any) : ∀ row ∈ x.rows, freeL bs row = true := by
  have := List.all_eq_true.1 h _ (olk_mem hb)
  simp only [hk] at this
  exact List.all_eq_true.1 this
theorem FnG.frame {P : Program} {f : FuncId} {us : List AV} {O O' R : List (Nat × OBlk)} {pins : List Nat} {r : AV} (h : FnG P f us O pins O' r) (h1 : apartO O R = true) (h2 : apartO O' R = true) (h3 : inPO (pins ++ idsOf R) R = true) (h4 : freeO (idsOf R) O' = true) (h5 : freeL (idsOf R) [r] = true) : FnG P f us (O ++ R) (pins ++ idsOf R) (O' ++ R) r := by
  refine ⟨h.1, fun XF w K vs hwi hxf hown hlen hargs => ?_⟩
  have ap := apartO_get h1
  have ap' := apartO_get h2
  have lO : ∀ g, Live K O g → Live K (O ++ R) g := by
    rintro g ⟨b, hb, hk⟩
    obtain ⟨x, hx⟩ := Option.isSome_iff_exists.1 hb
    exact ⟨b, by simp [olk_app_l hx], hk⟩
  have oR : ∀ b x, olk R b = some x → olk (O ++ R) b = some x := fun b x hb => by rw [olk_app_r (ap b x hb)]; exact hb
  have lR : ∀ g, Live K R g → Live K (O ++ R) g := by
    rintro g ⟨b, hb, hk⟩
    obtain ⟨x, hx⟩ := Option.isSome_iff_exists.1 hb
    exact ⟨b, by simp [oR b x hx], hk⟩
  have nOR : ∀ g, Live K R g → ¬ Live K O g := by
    rintro g ⟨b, hb, hk⟩ ⟨b', hb', hk'⟩
    obtain ⟨x, hx⟩ := Option.isSome_iff_exists.1 hb
    obtain ⟨y, hy⟩ := Option.isSome_iff_exists.1 hb'
    have := hown.inj b b' g (by simp [oR b x hx]) (by simp [olk_app_l hy]) hk hk'
    subst this
    rw [ap b x hx] at hy; cases hy
  have ltR : ∀ g, Live K R g → g < w.heap.size := by
    rintro g ⟨b, hb, hk⟩
    obtain ⟨x, hx⟩ := Option.isSome_iff_exists.1 hb
    rcases hown.own b x (oR b x hx) with ⟨q1, _⟩ | ⟨g', q1, cur, q2, _⟩
    · rw [show blkOf K b = none from by simp [blkOf, q1]] at hk; cases hk
    · rw [blkOf_of q1] at hk; injection hk with hk; subst hk; exact q2.lt
  have sub : ∀ g, g < w.heap.size → (Live K O g ∨ (XF g ∨ Live K R g)) → (Live K (O ++ R) g ∨ XF g) := by
    rintro g _ (q | q | q)
    · exact .inl (lO g q)
    · exact .inr q
    · exact .inl (lR g q)
  have ext : ∀ w', Ext (Live K O) w w' → Ext (Live K (O ++ R)) w w' := fun w' hx => ⟨hx.os, hx.tape, hx.output, hx.size, fun g hg hn => hx.block g hg fun q => hn (lO g q), hx.shape⟩
  refine (h.2 (fun g => XF g ∨ Live K R g) w K vs (fun w' hx => hwi w' (ext w' hx)) ?_ ⟨fun b x hb => hown.rows b x (olk_app_l hb), fun b x hb => ?_, fun b b' g q1 q2 => ?_⟩ hlen (fun j u c hu hc => (hargs j u c hu hc).sub fun g hg q => sub g hg q)).mono ?_
  · rintro g (q | q)
    · exact ⟨fun q' => (hxf g q).1 (lO g q'), (hxf g q).2⟩
    · exact ⟨nOR g q, ltR g q⟩
  · rcases hown.own b x (olk_app_l hb) with q | ⟨g, q1, q2⟩
    · exact .inl q
    · exact .inr ⟨g, q1, q2.keep rfl (Keep.refl _ _) sub (fun _ _ _ _ _ _ => rfl)⟩
  · obtain ⟨x, hx⟩ := Option.isSome_iff_exists.1 q1
    obtain ⟨y, hy⟩ := Option.isSome_iff_exists.1 q2
    exact hown.inj b b' g (by simp [olk_app_l hx]) (by simp [olk_app_l hy])
  rintro e w' ⟨v, K', rfl, hv, hK, ho, hl, hx⟩
  let K2 : KM := fun b => if memN b (idsOf R) = true then K b else K' b
  have kR : ∀ b, memN b (idsOf R) = true → K2 b = K b := fun b hb => by simp only [K2, if_pos hb]
  have kO : ∀ b, memN b (idsOf R) = false → K2 b = K' b := fun b hb => by simp only [K2, hb]; simp
  have noO : ∀ b x, olk O' b = some x → memN b (idsOf R) = false := by
    intro b x hb
    cases hq : memN b (idsOf R) with
    | false => rfl
    | true =>
      have : ∀ (R : List (Nat × OBlk)), memN b (idsOf R) = true → ∃ z, olk R b = some z := by
        intro R
        induction R with
        | nil => intro q; cases q
        | cons p R ih =>
          obtain ⟨i, z⟩ := p
          intro q
          simp only [idsOf, memN] at q
          rw [olk_cons]
          split at q
          · rename_i e; have := beq_true e; subst this; exact ⟨z, by simp⟩
          · rename_i e
            by_cases e' : i = b
            · exact ⟨z, by simp [e']⟩
            · rw [if_neg e']; exact ih q
      obtain ⟨z, hz⟩ := this R hq
      rw [ap' b z hz] at hb; cases hb
  have bO : ∀ b x, olk O' b = some x → blkOf K2 b = blkOf K' b := fun b x hb => by simp only [blkOf, kO b (noO b x hb)]
  have bR : ∀ b x, olk R b = some x → blkOf K2 b = blkOf K b := fun b x hb => by simp only [blkOf, kR b (olk_ids hb)]
  have live2 : ∀ g, Live K2 (O' ++ R) g → Live K' O' g ∨ Live K R g := by
    rintro g ⟨b, hb, hk⟩
    obtain ⟨x, hx⟩ := Option.isSome_iff_exists.1 hb
    rcases olk_app_inv hx with q | ⟨_, q⟩
    · exact .inl ⟨b, by simp [q], by rw [← bO b x q]; exact hk⟩
    · exact .inr ⟨b, by simp [q], by rw [← bR b x q]; exact hk⟩
  have sub2 : ∀ g, g < w'.heap.size → (Live K2 (O' ++ R) g ∨ XF g) → (Live K' O' g ∨ (XF g ∨ Live K R g)) := by
    rintro g _ (q | q)
    · rcases live2 g q with q | q
      · exact .inl q
      · exact .inr (.inr q)
    · exact .inr (.inl q)
  have blkR' : ∀ g, Live K R g → w'.heap[g]? = w.heap[g]? := fun g hg => hx.block g (ltR g hg) (nOR g hg)
  refine ⟨v, K2, rfl, (hv.keep (Keep.refl _ _) sub2 fun b hb => kO b ?_), fun b hb => ?_, ⟨fun b x hb => ?_, fun b x hb => ?_, fun b b' g q1 q2 k1 k2 => ?_⟩, fun g hg => ?_, ext w' hx⟩
  · cases hq : memN b (idsOf R) with
    | false => rfl
    | true =>
      have := freeL_get h5 hq
      simp only [AV.hasL, hb, Bool.true_or] at this
      cases this
  · by_cases hq : memN b (idsOf R) = true
    · exact kR b hq
    · have hq' : memN b (idsOf R) = false := by simpa using hq
      rw [kO b hq']
      refine hK b ?_
      have hm := memN_iff.1 hb
      rcases List.mem_append.1 hm with q | q
      · exact memN_iff.2 q
      · exact absurd (memN_iff.2 q) hq
  · rcases olk_app_inv hb with q | ⟨_, q⟩
    · exact ho.rows b x q
    · exact hown.rows b x (oR b x q)
  · rcases olk_app_inv hb with q | ⟨_, q⟩
    · rw [kO b (noO b x q)]
      rcases ho.own b x q with q1 | ⟨g, q1, q2⟩
      · exact .inl q1
      · refine .inr ⟨g, q1, q2.keep rfl (Keep.refl _ _) sub2 fun hk j u b' hu hb' => kO b' ?_⟩
        cases hq : memN b' (idsOf R) with
        | false => rfl
        | true =>
          obtain ⟨row, hrow, hur⟩ := List.mem_flatten.1 (List.mem_of_getElem? hu)
          have hL := hasL_mem hur hb'
          rw [freeL_get (freeO_get h4 q hk row hrow) hq] at hL; cases hL
    · rw [kR b (olk_ids q)]
      rcases hown.own b x (oR b x q) with q1 | ⟨g, q1, q2⟩
      · exact .inl q1
      · have hlv : Live K R g := ⟨b, by simp [q], blkOf_of q1⟩
        have hkeep : Keep (fun g => Live K (O ++ R) g ∨ XF g) w w' := ⟨hx.size, fun g hg hn => hx.block g hg fun hL => hn (.inl (lO g hL)), hx.shape⟩
        refine .inr ⟨g, q1, q2.keep (blkR' g hlv) hkeep (fun g hg q => ?_) fun hk j u b' hu hb' => ?_⟩
        · rcases q with q | q
          · rcases live2 g q with q | q
            · rcases hl g q with q | q
              · exact .inl (lO g q)
              · omega
            · exact .inl (lR g q)
          · exact .inr q
        · obtain ⟨row, hrow, hur⟩ := List.mem_flatten.1 (List.mem_of_getElem? hu)
          have hp := (inPO_get h3 b x q).2 hk row hrow
          have hm := hasL_inP row hp (hasL_mem hur hb')
          by_cases hq : memN b' (idsOf R) = true
          · exact kR b' hq
          · have hq' : memN b' (idsOf R) = false := by simpa using hq
            rw [kO b' hq']
            refine hK b' ?_
            rcases List.mem_append.1 (memN_iff.1 hm) with q | q
            · exact memN_iff.2 q
            · exact absurd (memN_iff.2 q) hq
  · obtain ⟨x, hx1⟩ := Option.isSome_iff_exists.1 q1
    obtain ⟨y, hy1⟩ := Option.isSome_iff_exists.1 q2
    have cross : ∀ b b' x y, olk O' b = some x → olk R b' = some y → blkOf K2 b = some g → blkOf K2 b' = some g → False := by
      intro b b' x y q q' k k'
      rw [bO b x q] at k
      rw [bR b' y q'] at k'
      have l1 : Live K R g := ⟨b', by simp [q'], k'⟩
      rcases hl g ⟨b, by simp [q], k⟩ with l2 | l2
      · exact nOR g l1 l2
      · have := ltR g l1; omega
    rcases olk_app_inv hx1 with q | ⟨_, q⟩ <;> rcases olk_app_inv hy1 with q' | ⟨_, q'⟩
    · rw [bO b x q] at k1; rw [bO b' y q'] at k2
      exact ho.inj b b' g (by simp [q]) (by simp [q']) k1 k2
    · exact (cross b b' x y q q' k1 k2).elim
    · exact (cross b' b y x q' q k2 k1).elim
    · rw [bR b x q] at k1; rw [bR b' y q'] at k2
      exact hown.inj b b' g (by simp [oR b x q]) (by simp [oR b' y q']) k1 k2
  · rcases live2 g hg with q | q
    · rcases hl g q with q | q
      · exact .inl (lO g q)
      · exact .inr q
    · exact .inl (lR g q)
/-! weaker arguments, weaker results -/
/-- v is said by u wherever it is said by u' -/
def Imp (u' u : AV) : Prop := ∀ w X K v, VR w X K u' v → VR w X K u v
theorem Imp.nil (sz : Nat) : Imp .nilsl (.rsl sz 0 []) := by
  intro w X K v h
  have := VR.nilsl_inv h
  subst this
  exact .rsl (cs := []) (by simp) (by simp) (Nat.le_refl _) (fun _ => rfl) (by simp) (by simp) (by simp) (by simp)
theorem Imp.refl (u : AV) : Imp u u := fun _ _ _ _ h => h
theorem Imp.agg {xs ys : List AV} (hl : xs.length = ys.length) (h : ∀ (j : Nat) x y, xs[j]? = some x → ys[j]? = some y → Imp x y) : Imp (.agg xs) (.agg ys) := by
  intro w X K v hv
  obtain ⟨vs, rfl, l1, h1, v1⟩ := VR.agg_inv hv
  refine .agg (by rw [← hl, l1]) h1 fun j u c hu hc => ?_
  have hj : j < xs.length := by rw [hl]; exact (List.getElem?_eq_some_iff.1 hu).1
  exact h j _ u (List.getElem?_eq_getElem hj) hu w X K c (v1 j _ c (List.getElem?_eq_getElem hj) hc)
def ImpL : List AV → List AV → Prop
  | [], [] => True
  | x :: xs, y :: ys => Imp x y ∧ ImpL xs ys
  | _, _ => False
theorem ImpL.len : ∀ {xs ys : List AV}, ImpL xs ys → xs.length = ys.length
  | [], [], _ => rfl
  | x :: xs, y :: ys, h => by simp [ImpL.len h.2]
  | [], _ :: _, h => h.elim
  | _ :: _, [], h => h.elim
theorem ImpL.get : ∀ {xs ys : List AV}, ImpL xs ys → ∀ (j : Nat) x y, xs[j]? = some x → ys[j]? = some y → Imp x y
  | [], [], _, j, x, y, hx, _ => by simp at hx
  | x :: xs, y :: ys, h, 0, a, b, ha, hb => by simp at ha hb; subst ha hb; exact h.1
  | x :: xs, y :: ys, h, j + 1, a, b, ha, hb => by simp at ha hb; exact ImpL.get h.2 j a b ha hb
  | [], _ :: _, h, _, _, _, _, _ => h.elim
  | _ :: _, [], h, _, _, _, _, _ => h.elim
theorem Imp.aggL {xs ys : List AV} (h : ImpL xs ys) : Imp (.agg xs) (.agg ys) := .agg h.len h.get
theorem Fn.args_weak {P : Program} {f : FuncId} {us us' : List AV} {r : AV} (h : Fn P f us r) (hi : ImpL us' us) : Fn P f us' r := by
  refine ⟨h.1, fun X w vs hw hl ha => h.2 X w vs hw (by rw [← hi.len]; exact hl) fun j u c hu hc => ?_⟩
  have hj : j < us'.length := by rw [hi.len]; exact (List.getElem?_eq_some_iff.1 hu).1
  exact hi.get j _ u (List.getElem?_eq_getElem hj) hu _ _ _ _ (ha j _ c (List.getElem?_eq_getElem hj) hc)
def notFsl : AV → Bool
  | .fsl _ _ _ _ _ => false
  | .tup _ => false
  | _ => true
theorem RR1.vr {w : World} {B : Nat} {X : Nat → Prop} {r : AV} {v : Value} (hn : notFsl r = true) : RR1 w B X r v ↔ VR w X K0 r v := by
  cases r <;> first | rfl | (cases hn)
/-- a result of which less is said -/
theorem Fn.res_weak {P : Program} {f : FuncId} {us : List AV} {r r' : AV} {xs : List AV} (h : Fn P f us (.tup (r :: xs))) (h1 : notFsl r = true) (h2 : notFsl r' = true) (hi : Imp r r') : Fn P f us (.tup (r' :: xs)) := by
  refine ⟨h.1, fun X w vs hw hl ha => (h.2 X w vs hw hl ha).mono ?_⟩
  rintro e w' ⟨v, rfl, ⟨ws, rfl, k1, ⟨c, k2, k3⟩, k4⟩, hb⟩
  exact ⟨_, rfl, ⟨ws, rfl, k1, ⟨c, k2, (RR1.vr h2).2 (hi _ _ _ _ ((RR1.vr h1).1 k3))⟩, k4⟩, hb⟩
end Go.Abs
end
