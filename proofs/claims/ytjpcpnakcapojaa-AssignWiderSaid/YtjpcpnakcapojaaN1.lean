import Derived.Test.YtjpcpnakcapojaaA3
import Derived.MapKept
namespace Go.Abs
open Go.RowKit
set_option linter.unusedVariables false
/-! ### an evaluation in parts -/
/-- what an evaluation comes to, of the machine -/
def SemA (P : Program) (N : Nat) (code : Code) (c : Cfg) (Q : Ex → Cfg → Prop) : Prop :=
  ∀ (E : Env), E.N = N → ∀ (Q' : Exit → Act → World → Prop) (a : Act) (w : World), (∀ e c a w, Q e c → SR E c a w → Q' e.toExit a w) → SR E c a w → code.wp P Q' a w
section
variable {P : Program} {T : Tab} {N : Nat} {ks : List Nat}
theorem SemA.ev (hT : TabOK P T) (h1 : TabOne T = true) (hm : P.follows .mixedOrders = true) {code : Code} {c : Cfg} {Q : Ex → Cfg → Prop} (hd : drawsOK code = true) (h : ev P T N ks code c Q) : SemA P N code c Q :=
  fun E hN Q' a w hQ hs => ev_sound hT h1 hN hm code c Q Q' a w hd h hQ hs
theorem SemA.seq {x y : Code} {c : Cfg} {Q : Ex → Cfg → Prop} (R : Cfg → Prop) (hx : SemA P N x c fun e c' => match e with | .normal => R c' | e => Q e c') (hy : ∀ c', R c' → SemA P N y c' Q) : SemA P N (.seq x y) c Q := by
  intro E hN Q' a w hQ hs
  refine wp_seq (hx E hN _ a w (fun e c a w hq hs => ?_) hs)
  cases e with
  | normal => exact hy c hq E hN Q' a w hQ hs
  | exit id => exact hQ _ c a w hq hs
  | ret => exact hQ _ c a w hq hs
theorem SemA.cond {x : Operand} {t e : Code} {c : Cfg} {Q : Ex → Cfg → Prop} {b : Bool} (hb : opv c x = .bool b) (ht : b = true → SemA P N t c Q) (he : b = false → SemA P N e c Q) : SemA P N (.cond x t e) c Q := by
  intro E hN Q' a w hQ hs
  exact wp_cond_split (opv_FV hs hb) (fun h => ht h E hN Q' a w hQ hs) (fun h => he h E hN Q' a w hQ hs)
/-- the rule of a function, from an evaluation in parts -/
theorem fn_ofS {T : Tab} {f : FuncId} {fn : Func} {code : Code} {args : List AV} {r : AV} (rv : List ResultVar) (hT : TabOK P T)
    (hf : P.funcs[f]? = some fn) (hb : fn.body = some code) (hname : (fn.name == "runtime.NumGoroutine") = false) (hn : Nat.ble args.length fn.ntmps = true) (hN : fn.ntmps = N)
    (hr : fn.results.toList = rv) (h : SemA P N code ⟨idx 0 args, []⟩ (retQ T rv r)) : Fn P f args r := by
  refine ⟨⟨fn, hf, hname, by rw [hb]; rfl⟩, fun X w vs hwi hlen hargs => ?_⟩
  refine calls_of_wp hf hb ?_
  have hn' := Nat.le_of_ble_eq_true hn
  subst hN
  refine h (Env0 (fun _ => False) X w fn.ntmps (fun w' hx => hwi.mono hx.size fun g hg => hx.block g hg id)) rfl _ _ _ (fun e c a w' hq hs => ?_) ⟨K0, ?_⟩
  · obtain ⟨K, hs⟩ := hs
    have key : retR T c rv r → a.defers = [] ∧ ∃ v, (results fn a.tmps).run P w' = .ok v w' ∧ ∃ v', Ending.returned v = .returned v' ∧ RR w' w.heap.size (fun g => X g ∧ g < w.heap.size) r v' ∧ Below w.heap.size w w' := by
      intro hq
      obtain ⟨vs, hl, ht, hR⟩ := retR_sound hT hs hq
      refine ⟨hs.defers, _, results_run hr _ _ hl ht, _, rfl, hR, ?_⟩
      exact ⟨hs.ext.os, hs.ext.tape, hs.ext.output, hs.ext.size, fun k hk => hs.ext.block k hk (fun h => h)⟩
    cases e with
    | normal => exact key hq
    | exit => exact hq.elim
    | ret => exact key hq
  · refine ⟨by simp; omega, rfl, ⟨rfl, rfl, rfl, Nat.le_refl _, fun _ _ _ => rfl, fun _ cur _ h => ⟨cur, h, rfl⟩⟩, fun t => ?_, fun b blk hb => by simp [olk] at hb, fun b blk hb => by simp [olk] at hb, fun b b' g hb => by simp [olk] at hb, fun b g hb => by simp [olk] at hb, fun b x hx => by cases hx⟩
    simp only [lk_idx, Nat.zero_le, if_true, Nat.sub_zero]
    cases hu : args[t]? with
    | none => rw [List.getD_eq_getElem?_getD, hu]; exact FV.top
    | some u =>
      rw [List.getD_eq_getElem?_getD, hu]
      have ht : t < vs.size := by rw [← hlen]; exact (List.getElem?_eq_some_iff.1 hu).1
      have hv : vs[t]? = some vs[t] := by simp [ht]
      have := hargs t u _ hu hv
      rw [show (vs ++ Array.replicate (fn.ntmps - vs.size) undef).getD t undef = vs[t] by
        rw [Array.getD_eq_getD_getElem?, Array.getElem?_append_left ht, hv]; rfl]
      refine FV.of (this.sub fun g hg hX => ?_)
      rcases hX with ⟨b, hb, _⟩ | hX
      · simp [olk] at hb
      · exact hX.1.1
end
end Go.Abs
namespace Go.Abs
open Go.RowKit
set_option linter.unusedVariables false
/-! ### a piece of code beside blocks that it does not know of -/
theorem olk_cat : ∀ (V Tl : List (Nat × OBlk)) (b : Nat), olk (V ++ Tl) b = (olk V b).or (olk Tl b)
  | [], Tl, b => by simp [olk]
  | (i, x) :: V, Tl, b => by
    rw [List.cons_append, olk_cons, olk_cons, olk_cat V Tl b]
    split <;> simp
theorem olk_app_l {V Tl : List (Nat × OBlk)} {b : Nat} {x : OBlk} (h : olk V b = some x) : olk (V ++ Tl) b = some x := by rw [olk_cat, h]; rfl
theorem olk_app_r {V Tl : List (Nat × OBlk)} {b : Nat} (h : olk V b = none) : olk (V ++ Tl) b = olk Tl b := by rw [olk_cat, h]; simp
theorem olk_app_inv {V Tl : List (Nat × OBlk)} {b : Nat} {x : OBlk} (h : olk (V ++ Tl) b = some x) : olk V b = some x ∨ (olk V b = none ∧ olk Tl b = some x) := by
  rw [olk_cat] at h
  cases hV : olk V b with
  | some y => rw [hV] at h; left; simpa using h
  | none => rw [hV] at h; right; exact ⟨rfl, by simpa using h⟩
theorem Live_app {K : KM} {V Tl : List (Nat × OBlk)} {g : Nat} (h : Live K (V ++ Tl) g) : Live K V g ∨ Live K Tl g := by
  obtain ⟨b, hb, hk⟩ := h
  obtain ⟨x, hx⟩ := Option.isSome_iff_exists.1 hb
  rcases olk_app_inv hx with h | ⟨_, h⟩
  · exact .inl ⟨b, by simp [h], hk⟩
  · exact .inr ⟨b, by simp [h], hk⟩
/-- blocks of plain values under ids that stay bound -/
def TailOK (Tl : List (Nat × OBlk)) : Prop := ∀ b x, olk Tl b = some x → x.kd = .pure ∧ Nat.ble 2 (b % 16) = true
theorem TailOK.nil : TailOK [] := fun b x h => by simp [olk] at h
/-- nothing of the first is an id of the second -/
def Apart (V Tl : List (Nat × OBlk)) : Prop := ∀ b x, olk Tl b = some x → olk V b = none
theorem Apart.nil (V : List (Nat × OBlk)) : Apart V [] := fun b x h => by simp [olk] at h
/-- what a piece of code that knows of V alone leaves of the rest -/
structure Left (K : KM) (V : List (Nat × OBlk)) (w : World) (K' : KM) (w' : World) : Prop where
  size : w.heap.size ≤ w'.heap.size
  block : ∀ g, g < w.heap.size → ¬ Live K V g → w'.heap[g]? = w.heap[g]?
  pin : ∀ b x, Nat.ble 2 (b % 16) = true → K b = some x → K' b = some x
  shape : ∀ (g : Nat) (cur : Array Value) (e : TypeId), w.heap[g]? = some (Obj.cells cur e (0, 0)) → ∃ cur' : Array Value, w'.heap[g]? = some (Obj.cells cur' e (0, 0)) ∧ cur'.size = cur.size
theorem frame {E : Env} {K : KM} {fr : List (Nat × AV)} {V Tl : List (Nat × OBlk)} {a : Act} {w : World} (hT : TailOK Tl) (hd : Apart V Tl) (hs : SRK E K ⟨fr, V ++ Tl⟩ a w) :
    ∃ E1 : Env, E1.N = E.N ∧ SRK E1 K ⟨fr, V⟩ a w ∧ ∀ K' c' a' w', SRK E1 K' c' a' w' → SRK E K' ⟨c'.fr, c'.O ++ Tl⟩ a' w' ∧ Left K V w K' w' ∧ (∀ g, Live K' c'.O g → Live K V g ∨ w.heap.size ≤ g) := by
  have hlV : ∀ g, Live K V g → Live K (V ++ Tl) g := by
    rintro g ⟨b, hb, hk⟩
    obtain ⟨x, hx⟩ := Option.isSome_iff_exists.1 hb
    exact ⟨b, by simp [olk_app_l hx], hk⟩
  have hlT : ∀ b x, olk Tl b = some x → olk (V ++ Tl) b = some x := fun b x h => by rw [olk_app_r (hd b x h)]; exact h
  have hlT' : ∀ g, Live K Tl g → Live K (V ++ Tl) g := by
    rintro g ⟨b, hb, hk⟩
    obtain ⟨x, hx⟩ := Option.isSome_iff_exists.1 hb
    exact ⟨b, by simp [hlT b x hx], hk⟩
  have hmine : ∀ g, Live K (V ++ Tl) g → E.X0 g ∨ E.w0.heap.size ≤ g := fun g ⟨b, hb, hk⟩ => hs.mine b g hb hk
  have hlt : ∀ g, Live K (V ++ Tl) g → g < w.heap.size := fun g ⟨b, hb, hk⟩ => hs.live_lt hb hk
  have hext : ∀ w', Ext (Live K V) w w' → Ext E.X0 E.w0 w' := by
    intro w' hx
    refine ⟨hx.os.trans hs.ext.os, hx.tape.trans hs.ext.tape, hx.output.trans hs.ext.output, Nat.le_trans hs.ext.size hx.size, fun g hg hX => ?_, fun g cur e hc => ?_⟩
    · rw [hx.block g (Nat.lt_of_lt_of_le hg hs.ext.size) fun ho => ?_]
      · exact hs.ext.block g hg hX
      · rcases hmine g (hlV g ho) with h | h
        · exact hX h
        · omega
    · obtain ⟨c1, h1, s1⟩ := hs.ext.shape g cur e hc
      obtain ⟨c2, h2, s2⟩ := hx.shape g c1 e h1
      exact ⟨c2, h2, s2.trans s1⟩
  refine ⟨⟨Live K V, fun g => XX E K (V ++ Tl) g ∧ ¬ Live K V g, w, E.N, fun w' hx => E.hwi w' (hext w' hx), fun b => if Nat.ble 2 (b % 16) = true then K b else none, fun b x hx => by
    by_cases h : Nat.ble 2 (b % 16) = true
    · exact h
    · rw [if_neg h] at hx; exact (by cases hx), fun g h => h.2⟩, rfl, ?_, ?_⟩
  · have hX : ∀ g, g < w.heap.size → (Live K V g ∨ ((XX E K (V ++ Tl) g ∧ ¬ Live K V g) ∧ g < w.heap.size)) → XX E K (V ++ Tl) g := by
      rintro g _ (h | h)
      · exact .inl (hlV g h)
      · exact h.1.1
    refine ⟨hs.size, hs.defers, ⟨rfl, rfl, rfl, Nat.le_refl _, fun _ _ _ => rfl, fun _ cur _ h => ⟨cur, h, rfl⟩⟩, fun t => (hs.fr t).sub hX, fun b x hb => hs.rows b x (olk_app_l hb), fun b x hb => ?_,
      fun b b' g h1 h2 => ?_, fun b g h1 h2 => .inl ⟨b, h1, h2⟩, fun b x hx => ?_⟩
    · rcases hs.own b x (olk_app_l hb) with h | ⟨g, h1, h2⟩
      · exact .inl h
      · exact .inr ⟨g, h1, h2.keep rfl (Keep.refl _ _) hX (fun _ _ _ _ _ _ => rfl)⟩
    · obtain ⟨x, hx⟩ := Option.isSome_iff_exists.1 h1
      obtain ⟨y, hy⟩ := Option.isSome_iff_exists.1 h2
      exact hs.inj b b' g (by simp [olk_app_l hx]) (by simp [olk_app_l hy])
    · dsimp only at hx
      by_cases h : Nat.ble 2 (b % 16) = true
      · rw [if_pos h] at hx; exact hx
      · rw [if_neg h] at hx; cases hx
  · intro K' c' a' w' h
    have hpin : ∀ b x, Nat.ble 2 (b % 16) = true → K b = some x → K' b = some x := fun b x hb hx => h.pin b x (by dsimp only; rw [if_pos hb]; exact hx)
    have hnew : ∀ g, Live K' c'.O g → Live K V g ∨ w.heap.size ≤ g := fun g ⟨b, hb, hk⟩ => h.mine b g hb hk
    have hTK : ∀ b x, olk Tl b = some x → K' b = K b := by
      intro b x hb
      rcases hs.own b x (hlT b x hb) with ⟨k, _⟩ | ⟨g, k, _⟩
      · rw [k]; exact hpin b _ (hT b x hb).2 k
      · rw [k]; exact hpin b _ (hT b x hb).2 k
    have hTl : ∀ g, Live K' Tl g → Live K Tl g := by
      rintro g ⟨b, hb, hk⟩
      obtain ⟨x, hx⟩ := Option.isSome_iff_exists.1 hb
      exact ⟨b, hb, by rw [← blkOf_eq (hTK b x hx)]; exact hk⟩
    have hnV : ∀ b x g, olk Tl b = some x → blkOf K b = some g → ¬ Live K V g := by
      rintro b x g hb hk ⟨b', hb', hk'⟩
      obtain ⟨y, hy⟩ := Option.isSome_iff_exists.1 hb'
      have := hs.inj b' b g (by simp [olk_app_l hy]) (by simp [hlT b x hb]) hk' hk
      subst this
      rw [hd b' x hb] at hy; cases hy
    have hX' : ∀ g, XX E K' (c'.O ++ Tl) g → Live K' c'.O g ∨ ((XX E K (V ++ Tl) g ∧ ¬ Live K V g) ∧ g < w.heap.size) := by
      rintro g (hg | hg)
      · rcases Live_app hg with hg | hg
        · exact .inl hg
        · obtain ⟨b, hb, hk⟩ := hTl g hg
          obtain ⟨x, hx⟩ := Option.isSome_iff_exists.1 hb
          exact .inr ⟨⟨.inl (hlT' g ⟨b, hb, hk⟩), hnV b x g hx hk⟩, hlt g (hlT' g ⟨b, hb, hk⟩)⟩
      · refine .inr ⟨⟨.inr hg, fun hl => ?_⟩, Nat.lt_of_lt_of_le hg.2 hs.ext.size⟩
        rcases hmine g (hlV g hl) with h | h
        · exact E.hxf g hg.1 h
        · have := hg.2; omega
    have hkeep : Keep (XX E K (V ++ Tl)) w w' := ⟨h.ext.size, fun g hg hx => h.ext.block g hg fun hl => hx (.inl (hlV g hl)), h.ext.shape⟩
    have hX2 : ∀ g, g < w.heap.size → XX E K' (c'.O ++ Tl) g → XX E K (V ++ Tl) g := by
      intro g hg hx
      rcases hX' g hx with hl | hl
      · rcases hnew g hl with hl | hl
        · exact .inl (hlV g hl)
        · omega
      · exact hl.1.1
    refine ⟨⟨h.size, h.defers, hext w' h.ext, fun t => (h.fr t).sub fun g _ => hX' g, fun b x hb => ?_, fun b x hb => ?_, fun b b' g h1 h2 k1 k2 => ?_, fun b g h1 k1 => ?_, fun b x hx => ?_⟩, ⟨h.ext.size, h.ext.block, hpin, h.ext.shape⟩, hnew⟩
    · rcases olk_app_inv hb with hb | ⟨_, hb⟩
      · exact h.rows b x hb
      · exact hs.rows b x (hlT b x hb)
    · rcases olk_app_inv hb with hb | ⟨_, hb⟩
      · rcases h.own b x hb with k | ⟨g, k, k2⟩
        · exact .inl k
        · exact .inr ⟨g, k, k2.keep rfl (Keep.refl _ _) (fun g _ => hX' g) (fun _ _ _ _ _ _ => rfl)⟩
      · rcases hs.own b x (hlT b x hb) with k | ⟨g, k, k2⟩
        · exact .inl ⟨by rw [hTK b x hb]; exact k.1, k.2⟩
        · refine .inr ⟨g, by rw [hTK b x hb]; exact k, k2.keep (h.ext.block g (hlt g (hlT' g ⟨b, by simp [hb], blkOf_of k⟩)) (hnV b x g hb (blkOf_of k))) hkeep hX2 fun hk => ?_⟩
          rw [(hT b x hb).1] at hk; cases hk
    · obtain ⟨x, hx⟩ := Option.isSome_iff_exists.1 h1
      obtain ⟨y, hy⟩ := Option.isSome_iff_exists.1 h2
      have cross : ∀ {i j : Nat} {x y : OBlk}, olk c'.O i = some x → olk Tl j = some y → blkOf K' i = some g → blkOf K' j = some g → i = j := by
        intro i j x y hi hj ki kj
        rw [blkOf_eq (hTK j y hj)] at kj
        rcases hnew g ⟨i, by simp [hi], ki⟩ with hl | hl
        · exact (hnV j y g hj kj hl).elim
        · have := hlt g (hlT' g ⟨j, by simp [hj], kj⟩); omega
      rcases olk_app_inv hx with hx | ⟨_, hx⟩ <;> rcases olk_app_inv hy with hy | ⟨_, hy⟩
      · exact h.inj b b' g (by simp [hx]) (by simp [hy]) k1 k2
      · exact cross hx hy k1 k2
      · exact (cross hy hx k2 k1).symm
      · rw [blkOf_eq (hTK b x hx)] at k1
        rw [blkOf_eq (hTK b' y hy)] at k2
        exact hs.inj b b' g (by simp [hlT b x hx]) (by simp [hlT b' y hy]) k1 k2
    · obtain ⟨x, hx⟩ := Option.isSome_iff_exists.1 h1
      rcases olk_app_inv hx with hx | ⟨_, hx⟩
      · rcases hnew g ⟨b, by simp [hx], k1⟩ with hl | hl
        · exact hmine g (hlV g hl)
        · exact .inr (Nat.le_trans hs.ext.size hl)
      · rw [blkOf_eq (hTK b x hx)] at k1
        exact hmine g (hlT' g ⟨b, by simp [hx], k1⟩)
    · exact hpin b x (E.hpin b x hx) (hs.pin b x hx)
section
variable {P : Program} {T : Tab} {E : Env} {N : Nat} {ks : List Nat} {K : KM} {fr : List (Nat × AV)} {V Tl : List (Nat × OBlk)} {a : Act} {w : World}
/-- code by the evaluator, beside other blocks -/
theorem wp_ev (hT : TabOK P T) (h1 : TabOne T = true) (hm : P.follows .mixedOrders = true) (hN : E.N = N) (htl : TailOK Tl) (hap : Apart V Tl) {code : Code} {Q : Ex → Cfg → Prop} {Q' : Exit → Act → World → Prop} (hd : drawsOK code = true)
    (h : ev P T N ks code ⟨fr, V⟩ Q) (hs : SRK E K ⟨fr, V ++ Tl⟩ a w)
    (hQ : ∀ e c' K' a' w', Q e c' → SRK E K' ⟨c'.fr, c'.O ++ Tl⟩ a' w' → Left K V w K' w' → Q' e.toExit a' w') : code.wp P Q' a w := by
  obtain ⟨E1, hN1, hs1, hout⟩ := frame htl hap hs
  refine ev_sound (E := E1) hT h1 (hN1.trans hN) hm code _ Q Q' a w hd h (fun e c' a' w' hq hs' => ?_) ⟨K, hs1⟩
  obtain ⟨K', hs'⟩ := hs'
  obtain ⟨k1, k2, _⟩ := hout K' c' a' w' hs'
  exact hQ e c' K' a' w' hq k1 k2
/-- some operations of a region in the text's order -/
theorem evOps_part {ops : Array Oper} {dr : Bool} {dm : List (Nat × Bool)} (hT : TabOK P T) (h1 : TabOne T = true) (hN : E.N = N) {Kk : Cfg → Prop} {Q : Exit → Act → World → Prop} {is : List Nat} (hQ : ∀ c a w, Kk c → SR E c a w → wpOps P ops Q is a w) :
    ∀ (l : List Oper) (A : Acc) (i : Nat) (c : Cfg) (a : Act) (w : World), (∀ j, j < l.length → l[j]? = ops[i + j]?) → evOps dr P T N dm ops A i l c Kk → SR E c a w → wpOps P ops Q (List.range' i l.length ++ is) a w
  | [], A, i, c, a, w, _, h, hs => hQ c a w h hs
  | o :: rest, A, i, c, a, w, hl, h, hs => by
    obtain ⟨r, hst, _, hrest⟩ := evOps_cons h
    have ho : ops[i]? = some o := by have := hl 0 (by simp); simpa using this.symm
    rw [List.length_cons, List.range'_succ, List.cons_append, wpOps_cons]
    refine wpOp_mono (fun a' w' hs' => ?_) (step_sound hT h1 hN ho hst hs)
    exact evOps_part hT h1 hN hQ rest _ (i + 1) _ a' w' (fun j hj => by have := hl (j + 1) (by simp; omega); rw [List.getElem?_cons_succ] at this; rw [this]; congr 1; omega) hrest hs'
theorem wp_evOps {ops : Array Oper} {dr : Bool} {dm : List (Nat × Bool)} (hT : TabOK P T) (h1 : TabOne T = true) (hN : E.N = N) (htl : TailOK Tl) (hap : Apart V Tl) {Kk : Cfg → Prop} {Q : Exit → Act → World → Prop} {is : List Nat} {l : List Oper} {A : Acc} {i : Nat}
    (hl : ∀ j, j < l.length → l[j]? = ops[i + j]?) (h : evOps dr P T N dm ops A i l ⟨fr, V⟩ Kk) (hs : SRK E K ⟨fr, V ++ Tl⟩ a w)
    (hQ : ∀ c' K' a' w', Kk c' → SRK E K' ⟨c'.fr, c'.O ++ Tl⟩ a' w' → Left K V w K' w' → wpOps P ops Q is a' w') : wpOps P ops Q (List.range' i l.length ++ is) a w := by
  obtain ⟨E1, hN1, hs1, hout⟩ := frame htl hap hs
  refine evOps_part (E := E1) hT h1 (hN1.trans hN) (fun c' a' w' hk hs' => ?_) l A i _ a w hl h ⟨K, hs1⟩
  obtain ⟨K', hs'⟩ := hs'
  obtain ⟨k1, k2, _⟩ := hout K' c' a' w' hs'
  exact hQ c' K' a' w' hk k1 k2
end
end Go.Abs
namespace Go.Abs
open Go.RowKit Go.MapKept
set_option linter.unusedVariables false
/-! ### a map from numbers to Booleans beside the evaluator -/
theorem VR.turn {w w' : World} (hsz : w.heap.size ≤ w'.heap.size) (hcell : ∀ a c, w.cell? a = some c → w'.cell? a = some c)
    (hsh : ∀ (g : Nat) (cur : Array Value) (e : TypeId), w.heap[g]? = some (Obj.cells cur e (0, 0)) → w'.heap[g]? = some (Obj.cells cur e (0, 0))) {X : Nat → Prop} {K : KM} {u : AV} {v : Value} (h : VR w X K u v) : VR w' X K u v := by
  induction h with
  | top => exact .top
  | bool => exact .bool
  | int => exact .int
  | str => exact .str
  | nilsl => exact .nilsl
  | nilfn => exact .nilfn
  | esl => exact .esl
  | und => exact .und
  | lit => exact .lit
  | agg hl h1 hv ih => exact .agg hl h1 fun j u c hu hc => ih j u c hu hc
  | tup hl hv ih => exact .tup hl fun j u c hu hc => ih j u c hu hc
  | func hl hv ih => exact .func hl fun j u c hu hc => ih j u c hu hc
  | rsl hn hz hcap hA hcs h1 hc hv ih =>
    refine .rsl hn hz hcap hA hcs h1 (fun hne => ?_) (fun j u c hu hc => ih j u c hu hc)
    obtain ⟨g, o, e, hg, hx, hc⟩ := hc hne
    exact ⟨g, o, e, Nat.lt_of_lt_of_le hg hsz, hx, fun j c hj => hcell _ _ (hc j c hj)⟩
  | rptr hcs h1 hg hx hc hv ih => exact .rptr hcs h1 (Nat.lt_of_lt_of_le hg hsz) hx (fun j c hj => hcell _ _ (hc j c hj)) (fun j u c hu hc => ih j u c hu hc)
  | osl hKb hnm hc hn hm hcap => exact .osl hKb hnm (hsh _ _ _ hc) hn hm hcap
  | oslnil hKb => exact .oslnil hKb
  | osuf hn => exact .osuf hn
  | ovar hKb => exact .ovar hKb
  | optr hKb => exact .optr hKb
/-- the world in which a map's block has turned -/
def World.setMap (w : World) (g : Nat) (es : Array MapEntry) (cl : Nat) : World := { w with heap := w.heap.setIfInBounds g (.map es cl) }
theorem SRK.setMap {E : Env} {K : KM} {c : Cfg} {a : Act} {w : World} {g cl cl' : Nat} {es es' : Array MapEntry} (h : SRK E K c a w) (hg : w.heap[g]? = some (.map es cl)) (hm : E.X0 g ∨ E.w0.heap.size ≤ g) : SRK E K c a (World.setMap w g es' cl') := by
  have hother : ∀ r, r ≠ g → (World.setMap w g es' cl').heap[r]? = w.heap[r]? := (heap_set (o' := .map es' cl') hg).2
  have hsz : (World.setMap w g es' cl').heap.size = w.heap.size := by simp [World.setMap]
  have hsh : ∀ (r : Nat) (cur : Array Value) (e : TypeId), w.heap[r]? = some (Obj.cells cur e (0, 0)) → (World.setMap w g es' cl').heap[r]? = some (Obj.cells cur e (0, 0)) := by
    intro r cur e hr
    rw [hother r (by rintro rfl; rw [hg] at hr; cases hr)]; exact hr
  have hcell : ∀ a c, w.cell? a = some c → (World.setMap w g es' cl').cell? a = some c := by
    intro a c hc
    have : a.block ≠ g := by rintro rfl; simp [World.cell?, hg] at hc
    simp only [World.cell?] at hc ⊢
    rw [hother _ this]; exact hc
  have hv : ∀ {X : Nat → Prop} {K : KM} {u : AV} {v : Value}, VR w X K u v → VR (World.setMap w g es' cl') X K u v := fun h => h.turn (by omega) hcell hsh
  refine ⟨h.size, h.defers, ⟨h.ext.os, h.ext.tape, h.ext.output, by rw [hsz]; exact h.ext.size, fun r hr hx => ?_, fun r cur e hc => ?_⟩, fun t => ?_, h.rows, fun b x hb => ?_, h.inj, h.mine, h.pin⟩
  · have hne : r ≠ g := fun e => by subst e; exact hm.elim hx (fun h => by omega)
    rw [hother r hne]
    exact h.ext.block r hr hx
  · obtain ⟨c1, h1, s1⟩ := h.ext.shape r cur e hc
    exact ⟨c1, hsh r c1 e h1, s1⟩
  · have := h.fr t
    cases hu : lk c.fr t with
    | opt d want u' => rw [hu] at this; exact this.imp (fun ⟨h1, h2⟩ => ⟨h1, hv h2⟩) id
    | _ => rw [hu] at this; exact hv this
  · rcases h.own b x hb with h1 | ⟨r, h1, cur, h2, h3⟩
    · exact .inl h1
    · refine .inr ⟨r, h1, cur, hsh _ _ _ h2, fun j u hj => ?_⟩
      obtain ⟨y, hy, h4, h5⟩ := h3 j u hj
      exact ⟨y, hy, h4, hv h5⟩
theorem SRK.notLive {E : Env} {K : KM} {c : Cfg} {a : Act} {w : World} {g cl : Nat} {es : Array MapEntry} (h : SRK E K c a w) (hg : w.heap[g]? = some (.map es cl)) : ¬ Live K c.O g := by
  rintro ⟨b, hb, hk⟩
  obtain ⟨x, hx⟩ := Option.isSome_iff_exists.1 hb
  rcases h.own b x hx with ⟨h1, _⟩ | ⟨g', h1, cur, hc, _⟩
  · rw [show blkOf K b = none from by simp [blkOf, h1]] at hk; cases hk
  · rw [blkOf_of h1] at hk; injection hk with hk; subst hk
    rw [hg] at hc; cases hc
/-- what a map from numbers to Booleans holds -/
abbrev ik (k : Int) : Value := .int .i64 k
abbrev fnow (k : Int) (l : List MapEntry) (i : Nat) : Option (Option (Nat × Value)) := Instr.findNow (.int .i64) (ik k) l i
structure MapB (es : Array MapEntry) (f : Int → Bool) : Prop where
  keys : ∀ x ∈ es.toList, IsKey (.int .i64) x.key
  look : ∀ k, (fnow k es.toList 0 = some none ∧ f k = false) ∨ ∃ j, fnow k es.toList 0 = some (some (j, .bool (f k)))
theorem MapB.empty : MapB #[] (fun _ => false) := ⟨by simp, fun k => .inl ⟨rfl, rfl⟩⟩
theorem isKey_int {v : Value} (h : IsKey (.int .i64) v) : ∃ k, v = ik k := by
  cases v <;> simp [IsKey] at h
  subst h; exact ⟨_, rfl⟩
theorem fnow_cons (k a : Int) (v : Value) (b : Nat) (l : List MapEntry) (i : Nat) : fnow k (⟨ik a, v, b⟩ :: l) i = if k = a then some (some (i, v)) else fnow k l (i + 1) := by
  by_cases h : k = a
  · subst h; simp [fnow, Instr.findNow, Instr.sameNow]
  · rw [if_neg h]
    have : (k == a) = false := by simp [h]
    simp only [fnow, Instr.findNow, Instr.sameNow, if_true, this]
theorem fnow_push (k a : Int) (v : Value) (b : Nat) : ∀ (l : List MapEntry) (i : Nat), (∀ x ∈ l, IsKey (.int .i64) x.key) → fnow a l i = some none → ∃ j, fnow k (l ++ [⟨ik a, v, b⟩]) i = if k = a then some (some (j, v)) else fnow k l i
  | [], i, _, _ => ⟨i, by rw [List.nil_append, fnow_cons]; rfl⟩
  | ⟨key, val, bo⟩ :: l, i, hk, h => by
    obtain ⟨x, hx⟩ := isKey_int (hk _ (.head _))
    dsimp only at hx
    subst hx
    rw [fnow_cons] at h
    split at h
    · cases h
    · rename_i hax
      obtain ⟨j, hj⟩ := fnow_push k a v b l (i + 1) (fun y hy => hk y (.tail _ hy)) h
      refine ⟨j, ?_⟩
      rw [List.cons_append, fnow_cons, hj, fnow_cons]
      by_cases e : k = a
      · subst e; rw [if_pos rfl, if_neg hax, if_pos rfl]
      · rw [if_neg e, if_neg e]
theorem fnow_modify (k a : Int) (v : Value) : ∀ (l : List MapEntry) (i j : Nat) (v0 : Value), (∀ x ∈ l, IsKey (.int .i64) x.key) → fnow a l i = some (some (i + j, v0)) → fnow k (l.modify j fun e => { e with key := ik a, val := v }) i = if k = a then some (some (i + j, v)) else fnow k l i
  | [], i, j, v0, _, h => by simp [fnow, Instr.findNow] at h
  | ⟨key, val, bo⟩ :: l, i, j, v0, hk, h => by
    obtain ⟨x, hx⟩ := isKey_int (hk _ (.head _))
    dsimp only at hx
    subst hx
    rw [fnow_cons] at h
    split at h
    · rename_i e
      subst e
      have : j = 0 := by simp at h; omega
      subst this
      rw [List.modify_zero_cons, fnow_cons, fnow_cons]
      by_cases e : k = a
      · rw [if_pos e, if_pos e]; rfl
      · rw [if_neg e, if_neg e, if_neg e]
    · rename_i hax
      cases j with
      | zero =>
        exfalso
        have key : ∀ (l : List MapEntry) (i m : Nat) (v : Value), (∀ x ∈ l, IsKey (.int .i64) x.key) → fnow a l i = some (some (m, v)) → i ≤ m := by
          intro l
          induction l with
          | nil => intro i m v _ h; simp [fnow, Instr.findNow] at h
          | cons y l ih =>
            intro i m v hk h
            obtain ⟨key, val, bo⟩ := y
            obtain ⟨x, hx⟩ := isKey_int (hk _ (.head _))
            dsimp only at hx
            subst hx
            rw [fnow_cons] at h
            split at h
            · simp at h; omega
            · have := ih (i + 1) m v (fun y hy => hk y (.tail _ hy)) h; omega
        have := key l (i + 1) _ _ (fun y hy => hk y (.tail _ hy)) h
        omega
      | succ j =>
        rw [List.modify_succ_cons, fnow_cons, fnow_cons, fnow_modify k a v l (i + 1) j v0 (fun y hy => hk y (.tail _ hy)) (by rw [h]; congr 3; omega)]
        by_cases e : k = a
        · subst e; rw [if_neg hax, if_pos rfl, if_pos rfl]; congr 3; omega
        · rw [if_neg e, if_neg e]
section
variable {P : Program} {w : World} {mt kt et g cl : Nat} {es : Array MapEntry} {f : Int → Bool}
theorem run_lookup (hm : P.underlying mt = some (.map kt et)) (hd : P.underlying kt = some (.int .i64)) (hz : (zeroValue et).run P w = .ok (.bool false) w) (hg : w.heap[g]? = some (.map es cl)) (h : MapB es f) (k : Int) :
    (Instr.lookup mt (.map (some g)) (ik k) false).run P w = .ok (.bool (f k)) w := by
  have hk : IsKey (.int .i64) (ik k) := rfl
  rcases h.look k with ⟨h1, h2⟩ | ⟨j, h1⟩
  · simp [Instr.lookup, run_underlying hm, Go.MapKept.run_getObj_map hg, Go.MapKept.run_checkKey hd hk, Go.MapKept.run_findKey hd h1, Result.andThen, hz, h2]
  · simp [Instr.lookup, run_underlying hm, Go.MapKept.run_getObj_map hg, Go.MapKept.run_checkKey hd hk, Go.MapKept.run_findKey hd h1, Result.andThen]
theorem run_mapUpdate (hm : P.underlying mt = some (.map kt et)) (hd : P.underlying kt = some (.int .i64)) (hg : w.heap[g]? = some (.map es cl)) (h : MapB es f) (k : Int) (b : Bool) :
    ∃ es' cl', (Instr.mapUpdate mt (.map (some g)) (ik k) (.bool b)).run P w = .ok () (World.setMap w g es' cl') ∧ MapB es' (fun i => if i = k then b else f i) := by
  have hk : IsKey (.int .i64) (ik k) := rfl
  rcases h.look k with ⟨h1, h2⟩ | ⟨j, h1⟩
  · refine ⟨es.push { key := ik k, val := .bool b, born := cl }, cl + 1, ?_, ?_, fun i => ?_⟩
    · simp [Instr.mapUpdate, run_underlying hm, Go.MapKept.run_getObj_map hg, Go.MapKept.run_checkKey hd hk, Go.MapKept.run_findKey hd h1, Go.MapKept.run_setObj_map _ hg, Result.andThen, World.setMap]
    · intro x hx
      simp only [Array.toList_push, List.mem_append, List.mem_singleton] at hx
      rcases hx with hx | rfl
      · exact h.keys x hx
      · exact hk
    · obtain ⟨j, hj⟩ := fnow_push i k (.bool b) cl es.toList 0 h.keys h1
      rw [Array.toList_push, hj]
      by_cases e : i = k
      · simp only [if_pos e]; exact .inr ⟨_, rfl⟩
      · simp only [if_neg e]; exact h.look i
  · have hsp := findNow_spec hk es.toList 0 h.keys
    obtain ⟨e, he, hek⟩ : ∃ e, es[j]? = some e ∧ e.key = ik k := by
      rcases hsp with ⟨h3, _⟩ | ⟨j', e, h3, h4, h5⟩ <;> change fnow k es.toList 0 = _ at h3
      · rw [h1] at h3; cases h3
      · rw [h1] at h3
        simp at h3
        rw [h3.1]
        exact ⟨e, by simpa using h4, h5⟩
    refine ⟨es.modify j fun e => { e with key := ik k, val := .bool b }, cl, ?_, ?_, fun i => ?_⟩
    · simp [Instr.mapUpdate, run_underlying hm, Go.MapKept.run_getObj_map hg, Go.MapKept.run_checkKey hd hk, Go.MapKept.run_findKey hd h1, he, hek, Go.MapKept.run_keyThatStays hk, Go.MapKept.run_setObj_map _ hg, Result.andThen, World.setMap]
    · exact isKey_modify h.keys _ _ fun e' he' => by rw [he] at he'; cases he'; exact hek.symm
    · have := fnow_modify i k (.bool b) es.toList 0 j (.bool (f k)) h.keys (by rw [h1]; congr 3; omega)
      rw [Array.toList_modify, this]
      by_cases e : i = k
      · simp only [if_pos e]; exact .inr ⟨_, rfl⟩
      · simp only [if_neg e]; exact h.look i
end
section
variable {P : Program} {T : Tab} {E : Env} {N : Nat} {K : KM} {c : Cfg} {a : Act} {w : World} {ops : Array Oper} {o : Oper} {Q : Exit → Act → World → Prop} {K' : Act → World → Prop}
/-- an operation that yields a value -/
theorem wpOp_value {i : Nat} {v : Value} {w' : World} (ho : ops[i]? = some o) (hw : Region.wanted o (yielded ops a.tmps) = true) (hrun : (execOp a.eval o).run P w = .ok (.value v) w') (hk : K' (a.put o.dst v) w') : wpOp P ops Q i K' a w := by
  unfold wpOp
  rw [ho]
  simp only
  rw [if_pos hw]
  left
  unfold Oper.wp
  rw [hrun]
  exact hk
/-- an operation that yields none -/
theorem wpOp_skip {i : Nat} {w' : World} (ho : ops[i]? = some o) (hw : Region.wanted o (yielded ops a.tmps) = true) (hrun : (execOp a.eval o).run P w = .ok .skip w') (hk : K' (a.put o.dst undef) w') : wpOp P ops Q i K' a w := by
  unfold wpOp
  rw [ho]
  simp only
  rw [if_pos hw]
  left
  unfold Oper.wp
  rw [hrun]
  exact hk
theorem wpOp_lookup {i t : Nat} {x k : Operand} {v : Value} (ho : ops[i]? = some o) (hop : o.op = .lookup t x k false) (hw : Region.wanted o (yielded ops a.tmps) = true) (hrun : (Instr.lookup t (a.eval x) (a.eval k) false).run P w = .ok v w) (hk : K' (a.put o.dst v) w) : wpOp P ops Q i K' a w :=
  wpOp_value ho hw (by simp only [execOp, hop, Sem.run_bind, hrun, Result.andThen_ok, Sem.run_pure]) hk
theorem wpOp_mapUpdate {i t : Nat} {x k y : Operand} {w' : World} (ho : ops[i]? = some o) (hop : o.op = .mapUpdate t x k y) (hw : Region.wanted o (yielded ops a.tmps) = true) (hrun : (Instr.mapUpdate t (a.eval x) (a.eval k) (a.eval y)).run P w = .ok () w') (hk : K' (a.put o.dst undef) w') : wpOp P ops Q i K' a w :=
  wpOp_skip ho hw (by simp only [execOp, hop, Sem.run_bind, hrun, Result.andThen_ok, Sem.run_pure]) hk
theorem wpOp_makeMap {i t : Nat} (ho : ops[i]? = some o) (hop : o.op = .makeMap t none) (hw : Region.wanted o (yielded ops a.tmps) = true) (hk : K' (a.put o.dst (.map (some w.heap.size))) (w.alloc (.map #[] 0))) : wpOp P ops Q i K' a w :=
  wpOp_value ho hw (by simp [execOp, hop, Instr.makeMap, Result.andThen]) hk
end
/-! ### evaluations in parts: blocks and loops -/
section
variable {P : Program} {T : Tab} {N : Nat} {ks : List Nat}
theorem SemA.mono {code : Code} {c : Cfg} {Q Q1 : Ex → Cfg → Prop} (h : SemA P N code c Q) (hq : ∀ e c, Q e c → Q1 e c) : SemA P N code c Q1 :=
  fun E hN Q' a w hQ hs => h E hN Q' a w (fun e c a w hc hs => hQ e c a w (hq e c hc) hs) hs
theorem SemA.wk {code : Code} {c c' : Cfg} {Q : Ex → Cfg → Prop} (hw : Wk c c') (h : SemA P N code c' Q) : SemA P N code c Q :=
  fun E hN Q' a w hQ hs => h E hN Q' a w hQ (hw E a w hs)
theorem SemA.block {id : Nat} {b : Code} {c : Cfg} {Q : Ex → Cfg → Prop} (h : SemA P N b c fun e c' => match e with | .exit id' => if id' = id then Q .normal c' else Q (.exit id') c' | e => Q e c') : SemA P N (.block id b) c Q := by
  intro E hN Q' a w hQ hs
  refine wp_block (h E hN _ a w (fun e c a w hq hs => ?_) hs)
  cases e with
  | normal => exact hQ _ c a w hq hs
  | exit id' =>
    simp only [Ex.toExit, Exit.inBlock]
    dsimp only at hq
    split at hq
    · rename_i he; rw [if_pos he]; exact hQ .normal c a w hq hs
    · rename_i he; rw [if_neg he]; exact hQ (.exit id') c a w hq hs
  | ret => exact hQ _ c a w hq hs
theorem SemA.loop {b : Code} {c : Cfg} {Q : Ex → Cfg → Prop} (I : Nat → Cfg → Prop) (h0 : ∃ n c', Wk c c' ∧ I n c') (hr : ∀ n c, I n c → SemA P N b c fun e c' => match e with | .normal => ∃ m c'', Wk c' c'' ∧ m < n ∧ I m c'' | e => Q e c') : SemA P N (.loop b) c Q := by
  intro E hN Q' a w hQ hs
  obtain ⟨n, c', hw, hI⟩ := h0
  refine wp_loop_ghost (fun n a w => ∃ c, I n c ∧ SR E c a w) n ⟨c', hI, hw E a w hs⟩ ?_
  rintro n a w ⟨c, hI, hs⟩
  refine hr n c hI E hN _ a w (fun e c a w hq hs => ?_) hs
  cases e with
  | normal =>
    obtain ⟨m, c'', hw, hlt, hI'⟩ := hq
    exact ⟨m, hlt, c'', hI', hw E a w hs⟩
  | exit id => exact hQ _ c a w hq hs
  | ret => exact hQ _ c a w hq hs
end
end Go.Abs
namespace Go.Abs
open Go.RowKit
set_option linter.unusedVariables false
/-! ### a block of one's own is written no more -/
theorem SRK.freeze {E : Env} {K : KM} {c : Cfg} {a : Act} {w : World} (hs : SRK E K c a w) {b n : Nat} {blk : OBlk} {v : Value} (hb : olk c.O b = some blk) (hkd : blk.kd = .pure) (hv : VR w (XX E K c.O) K (.osl b blk.sz n) v) :
    VR w (XX E K (delO b c.O)) K0 (.rsl blk.sz n (blk.rows.take n)) v := by
  have hsrc : srcRows (olk c.O) blk.sz (.osl b blk.sz n) = some (n, blk.rows.take n, blk.kd) := by
    simp only [srcRows, hb]
    rw [show Nat.beq blk.sz blk.sz = true from Nat.beq_refl _]
  obtain ⟨hl, hu, A, cp, news, e0, hnl, hcell, hone, hvn⟩ := src_sound hs hsrc hv
  have hcs : news.length = (blk.rows.take n).flatten.length := by rw [hnl, flat_len hu, ← hl]
  have hvn' : ∀ (j : Nat) u x, (blk.rows.take n).flatten[j]? = some u → news[j]? = some x → VR w (XX E K (delO b c.O)) K0 u x := by
    intro j u x hj hx
    have := hvn j u x hj hx
    rw [hkd] at this
    exact this.sub fun _ _ _ => trivial
  rcases VR.osl_inv hv with ⟨hK, hz, e1⟩ | ⟨g, cap, cur, e', mm, hK, hnm, e1, hc, hnc, hm, hcur⟩
  · subst hz e1
    exact .rsl (cs := []) (by simp) (by simp) (Nat.le_refl _) (fun _ => rfl) (by simp) (by simp) (by simp) (by simp)
  · rw [e1] at e0
    injection e0 with e2 e3 e4
    subst e1
    refine .rsl hl hu hnc (fun h => by cases h) hcs hone (fun hne => ?_) hvn'
    have hpos : 0 < n := by
      rcases Nat.eq_zero_or_pos n with h | h
      · subst h; simp at hne
      · exact h
    obtain ⟨g', o', e5, hc'⟩ := hcell hpos
    rw [← e2] at e5
    injection e5 with e5; injection e5 with e5 e6; subst e5 e6
    refine ⟨g, 0, rfl, (Array.getElem?_eq_some_iff.1 hc).1, ?_, hc'⟩
    rintro (⟨i, hi, hk⟩ | ⟨hx1, hx2⟩)
    · have hne : b ≠ i := by
        rintro rfl
        rw [olk_delO, if_pos rfl] at hi; cases hi
      rw [olk_delO, if_neg hne] at hi
      exact hne (hs.inj b i g (by simp [hb]) hi (blkOf_of hK) hk)
    · rcases hs.mine b g (by simp [hb]) (blkOf_of hK) with h | h
      · exact E.hxf g hx1 h
      · omega
theorem SRK.del {E : Env} {K : KM} {c : Cfg} {a : Act} {w : World} (hs : SRK E K c a w) (b : Nat) : SRK E K ⟨c.fr, delO b c.O⟩ a w :=
  hs.weak (fun t => .inl rfl) fun i x hi => by
    simp only [olk_delO] at hi
    split at hi
    · cases hi
    · exact hi
theorem Wk.freeze {c : Cfg} (t b n : Nat) (blk : OBlk) (ht : lk c.fr t = .osl b blk.sz n) (hb : olk c.O b = some blk) (hk : blk.kd = .pure) : Wk c ⟨(t, .rsl blk.sz n (blk.rows.take n)) :: c.fr, delO b c.O⟩ := by
  rintro E a w ⟨K, h⟩
  have h' := h.del b
  refine ⟨K, h'.size, h'.defers, h'.ext, fun s => ?_, h'.rows, h'.own, h'.inj, h'.mine, h'.pin⟩
  show FV w _ K _ (lk ((t, _) :: c.fr) s) _
  rw [lk_cons]
  split
  · rename_i e
    subst e
    have hv := h.fr t
    rw [ht] at hv
    exact (h.freeze hb hk hv).any K
  · exact h'.fr s
theorem Wk.freezeKeep {c : Cfg} (t b n : Nat) (blk : OBlk) (ks ids : List Nat) (ht : lk c.fr t = .osl b blk.sz n) (hb : olk c.O b = some blk) (hk : blk.kd = .pure) : Wk c (Cfg.only ⟨(t, .rsl blk.sz n (blk.rows.take n)) :: c.fr, delO b c.O⟩ ks ids) :=
  (Wk.freeze t b n blk ht hb hk).trans (Wk.keep ks ids)
end Go.Abs
