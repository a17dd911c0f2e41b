import Derived.Test.YtnmpnlhlbjemeaaSem
namespace Go.Abs
open Go.RowKit
set_option linter.unusedVariables false
/-! ### a piece of code beside blocks that it does not know of -/
theorem olk_cat : ∀ (V Tl : List (Nat × OBlk)) (b : Nat), olk (V ++ Tl) b = (olk V b).or (olk Tl b)
  | [], Tl, b => by simp [olk]
  | (i, x) :: V, Tl, b => by
    rw [List.cons_append, olk_cons, olk_cons, olk_cat V Tl b]
    split <;> simp
theorem olk_app_l {V Tl : List (Nat × OBlk)} {b : Nat} {x : OBlk} (h : olk V b = some x) : olk (V ++ Tl) b = some x := by rw [olk_cat, h]; rfl
theorem olk_app_r {V Tl : List (Nat × OBlk)} {b : Nat} (h : olk V b = none) : olk (V ++ Tl) b = olk Tl b := by rw [olk_cat, h]; simp
theorem olk_app_inv {V Tl : List (Nat × OBlk)} {b : Nat} {x : OBlk} (h : olk (V ++ Tl) b = some x) : olk V b = some x ∨ (olk V b = none ∧ olk Tl b = some x) := by
  rw [olk_cat] at h
  cases hV : olk V b with
  | some y => rw [hV] at h; left; simpa using h
  | none => rw [hV] at h; right; exact ⟨rfl, by simpa using h⟩
theorem Live_app {K : KM} {V Tl : List (Nat × OBlk)} {g : Nat} (h : Live K (V ++ Tl) g) : Live K V g ∨ Live K Tl g := by
  obtain ⟨b, hb, hk⟩ := h
  obtain ⟨x, hx⟩ := Option.isSome_iff_exists.1 hb
  rcases olk_app_inv hx with h | ⟨_, h⟩
  · exact .inl ⟨b, by simp [h], hk⟩
  · exact .inr ⟨b, by simp [h], hk⟩
/-- blocks of plain values under ids that stay bound -/
def TailOK (Tl : List (Nat × OBlk)) : Prop := ∀ b x, olk Tl b = some x → x.kd = .pure ∧ Nat.ble 2 (b % 16) = true
theorem TailOK.nil : TailOK [] := fun b x h => by simp [olk] at h
/-- nothing of the first is an id of the second -/
def Apart (V Tl : List (Nat × OBlk)) : Prop := ∀ b x, olk Tl b = some x → olk V b = none
theorem Apart.nil (V : List (Nat × OBlk)) : Apart V [] := fun b x h => by simp [olk] at h
/-- what a piece of code that knows of V alone leaves of the rest -/
structure Left (K : KM) (V : List (Nat × OBlk)) (w : World) (K' : KM) (w' : World) : Prop where
  size : w.heap.size ≤ w'.heap.size
  block : ∀ g, g < w.heap.size → ¬ Live K V g → w'.heap[g]? = w.heap[g]?
  pin : ∀ b x, Nat.ble 2 (b % 16) = true → K b = some x → K' b = some x
  shape : ∀ (g : Nat) (cur : Array Value) (e : TypeId), w.heap[g]? = some (Obj.cells cur e (0, 0)) → ∃ cur' : Array Value, w'.heap[g]? = some (Obj.cells cur' e (0, 0)) ∧ cur'.size = cur.size
theorem frame {E : Env} {K : KM} {fr : List (Nat × AV)} {V Tl : List (Nat × OBlk)} {a : Act} {w : World} (hT : TailOK Tl) (hd : Apart V Tl) (hs : SRK E K ⟨fr, V ++ Tl⟩ a w) :
    ∃ E1 : Env, E1.N = E.N ∧ SRK E1 K ⟨fr, V⟩ a w ∧ ∀ K' c' a' w', SRK E1 K' c' a' w' → SRK E K' ⟨c'.fr, c'.O ++ Tl⟩ a' w' ∧ Left K V w K' w' ∧ (∀ g, Live K' c'.O g → Live K V g ∨ w.heap.size ≤ g) := by
  have hlV : ∀ g, Live K V g → Live K (V ++ Tl) g := by
    rintro g ⟨b, hb, hk⟩
    obtain ⟨x, hx⟩ := Option.isSome_iff_exists.1 hb
    exact ⟨b, by simp [olk_app_l hx], hk⟩
  have hlT : ∀ b x, olk Tl b = some x → olk (V ++ Tl) b = some x := fun b x h => by rw [olk_app_r (hd b x h)]; exact h
  have hlT' : ∀ g, Live K Tl g → Live K (V ++ Tl) g := by
    rintro g ⟨b, hb, hk⟩
    obtain ⟨x, hx⟩ := Option.isSome_iff_exists.1 hb
    exact ⟨b, by simp [hlT b x hx], hk⟩
  have hmine : ∀ g, Live K (V ++ Tl) g → E.X0 g ∨ E.w0.heap.size ≤ g := fun g ⟨b, hb, hk⟩ => hs.mine b g hb hk
  have hlt : ∀ g, Live K (V ++ Tl) g → g < w.heap.size := fun g ⟨b, hb, hk⟩ => hs.live_lt hb hk
  have hext : ∀ w', Ext (Live K V) w w' → Ext E.X0 E.w0 w' := by
    intro w' hx
    refine ⟨hx.os.trans hs.ext.os, hx.tape.trans hs.ext.tape, hx.output.trans hs.ext.output, Nat.le_trans hs.ext.size hx.size, fun g hg hX => ?_, fun g cur e hc => ?_⟩
    · rw [hx.block g (Nat.lt_of_lt_of_le hg hs.ext.size) fun ho => ?_]
      · exact hs.ext.block g hg hX
      · rcases hmine g (hlV g ho) with h | h
        · exact hX h
        · omega
    · obtain ⟨c1, h1, s1⟩ := hs.ext.shape g cur e hc
      obtain ⟨c2, h2, s2⟩ := hx.shape g c1 e h1
      exact ⟨c2, h2, s2.trans s1⟩
  refine ⟨⟨Live K V, fun g => XX E K (V ++ Tl) g ∧ ¬ Live K V g, w, E.N, fun w' hx => E.hwi w' (hext w' hx), fun b => if Nat.ble 2 (b % 16) = true then K b else none, fun b x hx => by
    by_cases h : Nat.ble 2 (b % 16) = true
    · exact h
    · rw [if_neg h] at hx; exact (by cases hx), fun g h => h.2⟩, rfl, ?_, ?_⟩
  · have hX : ∀ g, g < w.heap.size → (Live K V g ∨ ((XX E K (V ++ Tl) g ∧ ¬ Live K V g) ∧ g < w.heap.size)) → XX E K (V ++ Tl) g := by
      rintro g _ (h | h)
      · exact .inl (hlV g h)
      · exact h.1.1
    refine ⟨hs.size, hs.defers, ⟨rfl, rfl, rfl, Nat.le_refl _, fun _ _ _ => rfl, fun _ cur _ h => ⟨cur, h, rfl⟩⟩, fun t => (hs.fr t).sub hX, fun b x hb => hs.rows b x (olk_app_l hb), fun b x hb => ?_,
      fun b b' g h1 h2 => ?_, fun b g h1 h2 => .inl ⟨b, h1, h2⟩, fun b x hx => ?_⟩
    · rcases hs.own b x (olk_app_l hb) with h | ⟨g, h1, h2⟩
      · exact .inl h
      · exact .inr ⟨g, h1, h2.keep rfl (Keep.refl _ _) hX (fun _ _ _ _ _ _ => rfl)⟩
    · obtain ⟨x, hx⟩ := Option.isSome_iff_exists.1 h1
      obtain ⟨y, hy⟩ := Option.isSome_iff_exists.1 h2
      exact hs.inj b b' g (by simp [olk_app_l hx]) (by simp [olk_app_l hy])
    · dsimp only at hx
      by_cases h : Nat.ble 2 (b % 16) = true
      · rw [if_pos h] at hx; exact hx
      · rw [if_neg h] at hx; cases hx
  · intro K' c' a' w' h
    have hpin : ∀ b x, Nat.ble 2 (b % 16) = true → K b = some x → K' b = some x := fun b x hb hx => h.pin b x (by dsimp only; rw [if_pos hb]; exact hx)
    have hnew : ∀ g, Live K' c'.O g → Live K V g ∨ w.heap.size ≤ g := fun g ⟨b, hb, hk⟩ => h.mine b g hb hk
    have hTK : ∀ b x, olk Tl b = some x → K' b = K b := by
      intro b x hb
      rcases hs.own b x (hlT b x hb) with ⟨k, _⟩ | ⟨g, k, _⟩
      · rw [k]; exact hpin b _ (hT b x hb).2 k
      · rw [k]; exact hpin b _ (hT b x hb).2 k
    have hTl : ∀ g, Live K' Tl g → Live K Tl g := by
      rintro g ⟨b, hb, hk⟩
      obtain ⟨x, hx⟩ := Option.isSome_iff_exists.1 hb
      exact ⟨b, hb, by rw [← blkOf_eq (hTK b x hx)]; exact hk⟩
    have hnV : ∀ b x g, olk Tl b = some x → blkOf K b = some g → ¬ Live K V g := by
      rintro b x g hb hk ⟨b', hb', hk'⟩
      obtain ⟨y, hy⟩ := Option.isSome_iff_exists.1 hb'
      have := hs.inj b' b g (by simp [olk_app_l hy]) (by simp [hlT b x hb]) hk' hk
      subst this
      rw [hd b' x hb] at hy; cases hy
    have hX' : ∀ g, XX E K' (c'.O ++ Tl) g → Live K' c'.O g ∨ ((XX E K (V ++ Tl) g ∧ ¬ Live K V g) ∧ g < w.heap.size) := by
      rintro g (hg | hg)
      · rcases Live_app hg with hg | hg
        · exact .inl hg
        · obtain ⟨b, hb, hk⟩ := hTl g hg
          obtain ⟨x, hx⟩ := Option.isSome_iff_exists.1 hb
          exact .inr ⟨⟨.inl (hlT' g ⟨b, hb, hk⟩), hnV b x g hx hk⟩, hlt g (hlT' g ⟨b, hb, hk⟩)⟩
      · refine .inr ⟨⟨.inr hg, fun hl => ?_⟩, Nat.lt_of_lt_of_le hg.2 hs.ext.size⟩
        rcases hmine g (hlV g hl) with h | h
        · exact E.hxf g hg.1 h
        · have := hg.2; omega
    have hkeep : Keep (XX E K (V ++ Tl)) w w' := ⟨h.ext.size, fun g hg hx => h.ext.block g hg fun hl => hx (.inl (hlV g hl)), h.ext.shape⟩
    have hX2 : ∀ g, g < w.heap.size → XX E K' (c'.O ++ Tl) g → XX E K (V ++ Tl) g := by
      intro g hg hx
      rcases hX' g hx with hl | hl
      · rcases hnew g hl with hl | hl
        · exact .inl (hlV g hl)
        · omega
      · exact hl.1.1
    refine ⟨⟨h.size, h.defers, hext w' h.ext, fun t => (h.fr t).sub fun g _ => hX' g, fun b x hb => ?_, fun b x hb => ?_, fun b b' g h1 h2 k1 k2 => ?_, fun b g h1 k1 => ?_, fun b x hx => ?_⟩, ⟨h.ext.size, h.ext.block, hpin, h.ext.shape⟩, hnew⟩
    · rcases olk_app_inv hb with hb | ⟨_, hb⟩
      · exact h.rows b x hb
      · exact hs.rows b x (hlT b x hb)
    · rcases olk_app_inv hb with hb | ⟨_, hb⟩
      · rcases h.own b x hb with k | ⟨g, k, k2⟩
        · exact .inl k
        · exact .inr ⟨g, k, k2.keep rfl (Keep.refl _ _) (fun g _ => hX' g) (fun _ _ _ _ _ _ => rfl)⟩
      · rcases hs.own b x (hlT b x hb) with k | ⟨g, k, k2⟩
        · exact .inl ⟨by rw [hTK b x hb]; exact k.1, k.2⟩
        · refine .inr ⟨g, by rw [hTK b x hb]; exact k, k2.keep (h.ext.block g (hlt g (hlT' g ⟨b, by simp [hb], blkOf_of k⟩)) (hnV b x g hb (blkOf_of k))) hkeep hX2 fun hk => ?_⟩
          rw [(hT b x hb).1] at hk; cases hk
    · obtain ⟨x, hx⟩ := Option.isSome_iff_exists.1 h1
      obtain ⟨y, hy⟩ := Option.isSome_iff_exists.1 h2
      have cross : ∀ {i j : Nat} {x y : OBlk}, olk c'.O i = some x → olk Tl j = some y → blkOf K' i = some g → blkOf K' j = some g → i = j := by
        intro i j x y hi hj ki kj
        rw [blkOf_eq (hTK j y hj)] at kj
        rcases hnew g ⟨i, by simp [hi], ki⟩ with hl | hl
        · exact (hnV j y g hj kj hl).elim
        · have := hlt g (hlT' g ⟨j, by simp [hj], kj⟩); omega
      rcases olk_app_inv hx with hx | ⟨_, hx⟩ <;> rcases olk_app_inv hy with hy | ⟨_, hy⟩
      · exact h.inj b b' g (by simp [hx]) (by simp [hy]) k1 k2
      · exact cross hx hy k1 k2
      · exact (cross hy hx k2 k1).symm
      · rw [blkOf_eq (hTK b x hx)] at k1
        rw [blkOf_eq (hTK b' y hy)] at k2
        exact hs.inj b b' g (by simp [hlT b x hx]) (by simp [hlT b' y hy]) k1 k2
    · obtain ⟨x, hx⟩ := Option.isSome_iff_exists.1 h1
      rcases olk_app_inv hx with hx | ⟨_, hx⟩
      · rcases hnew g ⟨b, by simp [hx], k1⟩ with hl | hl
        · exact hmine g (hlV g hl)
        · exact .inr (Nat.le_trans hs.ext.size hl)
      · rw [blkOf_eq (hTK b x hx)] at k1
        exact hmine g (hlT' g ⟨b, by simp [hx], k1⟩)
    · exact hpin b x (E.hpin b x hx) (hs.pin b x hx)
section
variable {P : Program} {T : Tab} {E : Env} {N : Nat} {ks : List Nat} {K : KM} {fr : List (Nat × AV)} {V Tl : List (Nat × OBlk)} {a : Act} {w : World}
/-- code by the evaluator, beside other blocks -/
theorem wp_ev (hT : TabOK P T) (h1 : TabOne T = true) (hm : P.follows .mixedOrders = true) (hN : E.N = N) (htl : TailOK Tl) (hap : Apart V Tl) {code : Code} {Q : Ex → Cfg → Prop} {Q' : Exit → Act → World → Prop} (hd : drawsOK code = true)
    (h : ev P T N ks code ⟨fr, V⟩ Q) (hs : SRK E K ⟨fr, V ++ Tl⟩ a w)
    (hQ : ∀ e c' K' a' w', Q e c' → SRK E K' ⟨c'.fr, c'.O ++ Tl⟩ a' w' → Left K V w K' w' → Q' e.toExit a' w') : code.wp P Q' a w := by
  obtain ⟨E1, hN1, hs1, hout⟩ := frame htl hap hs
  refine ev_sound (E := E1) hT h1 (hN1.trans hN) hm code _ Q Q' a w hd h (fun e c' a' w' hq hs' => ?_) ⟨K, hs1⟩
  obtain ⟨K', hs'⟩ := hs'
  obtain ⟨k1, k2, _⟩ := hout K' c' a' w' hs'
  exact hQ e c' K' a' w' hq k1 k2
/-- some operations of a region in the text's order -/
theorem evOps_part {ops : Array Oper} {dr : Bool} {dm : List (Nat × Bool)} (hT : TabOK P T) (h1 : TabOne T = true) (hN : E.N = N) {Kk : Cfg → Prop} {Q : Exit → Act → World → Prop} {is : List Nat} (hQ : ∀ c a w, Kk c → SR E c a w → wpOps P ops Q is a w) :
    ∀ (l : List Oper) (A : Acc) (i : Nat) (c : Cfg) (a : Act) (w : World), (∀ j, j < l.length → l[j]? = ops[i + j]?) → evOps dr P T N dm ops A i l c Kk → SR E c a w → wpOps P ops Q (List.range' i l.length ++ is) a w
  | [], A, i, c, a, w, _, h, hs => hQ c a w h hs
  | o :: rest, A, i, c, a, w, hl, h, hs => by
    obtain ⟨r, hst, _, hrest⟩ := evOps_cons h
    have ho : ops[i]? = some o := by have := hl 0 (by simp); simpa using this.symm
    rw [List.length_cons, List.range'_succ, List.cons_append, wpOps_cons]
    refine wpOp_mono (fun a' w' hs' => ?_) (step_sound hT h1 hN ho hst hs)
    exact evOps_part hT h1 hN hQ rest _ (i + 1) _ a' w' (fun j hj => by have := hl (j + 1) (by simp; omega); rw [List.getElem?_cons_succ] at this; rw [this]; congr 1; omega) hrest hs'
theorem wp_evOps {ops : Array Oper} {dr : Bool} {dm : List (Nat × Bool)} (hT : TabOK P T) (h1 : TabOne T = true) (hN : E.N = N) (htl : TailOK Tl) (hap : Apart V Tl) {Kk : Cfg → Prop} {Q : Exit → Act → World → Prop} {is : List Nat} {l : List Oper} {A : Acc} {i : Nat}
    (hl : ∀ j, j < l.length → l[j]? = ops[i + j]?) (h : evOps dr P T N dm ops A i l ⟨fr, V⟩ Kk) (hs : SRK E K ⟨fr, V ++ Tl⟩ a w)
    (hQ : ∀ c' K' a' w', Kk c' → SRK E K' ⟨c'.fr, c'.O ++ Tl⟩ a' w' → Left K V w K' w' → wpOps P ops Q is a' w') : wpOps P ops Q (List.range' i l.length ++ is) a w := by
  obtain ⟨E1, hN1, hs1, hout⟩ := frame htl hap hs
  refine evOps_part (E := E1) hT h1 (hN1.trans hN) (fun c' a' w' hk hs' => ?_) l A i _ a w hl h ⟨K, hs1⟩
  obtain ⟨K', hs'⟩ := hs'
  obtain ⟨k1, k2, _⟩ := hout K' c' a' w' hs'
  exact hQ c' K' a' w' hk k1 k2
end
end Go.Abs
