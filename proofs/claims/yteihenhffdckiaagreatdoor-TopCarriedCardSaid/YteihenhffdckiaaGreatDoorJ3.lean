import Derived.MapKept
import Derived.Test.YteihenhffdckiaaGreatDoorJ2
section
namespace Go.Abs
open Go.RowKit
set_option linter.unusedVariables false

structure Step (Y : Nat → Prop) (w w' : World) : Prop where
  keep : Keep Y w w'
  os : w'.os = w.os
  tape : w'.tape = w.tape
  output : w'.output = w.output
theorem Step.refl (Y : Nat → Prop) (w : World) : Step Y w w := ⟨Keep.refl _ _, rfl, rfl, rfl⟩
theorem Keep.mono {Y X : Nat → Prop} {w w' : World} (h : Keep Y w w') (hY : ∀ g, g < w.heap.size → Y g → X g) : Keep X w w' :=
  ⟨h.size, fun g hg hx => h.block g hg (fun hy => hx (hY g hg hy)), h.shape⟩
theorem Step.mono {Y X : Nat → Prop} {w w' : World} (h : Step Y w w') (hY : ∀ g, g < w.heap.size → Y g → X g) : Step X w w' :=
  ⟨h.keep.mono hY, h.os, h.tape, h.output⟩
theorem Step.trans {Y : Nat → Prop} {a b c : World} (h : Step Y a b) (k : Step Y b c) : Step Y a c :=
  ⟨h.keep.trans k.keep (fun _ _ h => h), k.os.trans h.os, k.tape.trans h.tape, k.output.trans h.output⟩
theorem Ext.step {X0 Y : Nat → Prop} {w0 w w' : World} (h : Ext X0 w0 w) (s : Step Y w w') (hY : ∀ g, Y g → X0 g ∨ w0.heap.size ≤ g) : Ext X0 w0 w' :=
  ⟨s.os.trans h.os, s.tape.trans h.tape, s.output.trans h.output, Nat.le_trans h.size s.keep.size, fun g hg hx =>
    (s.keep.block g (Nat.lt_of_lt_of_le hg h.size) (fun hy => (hY g hy).elim hx (fun h => by omega))).trans (h.block g hg hx),
   fun g cur e hc => by
    obtain ⟨c1, h1, s1⟩ := h.shape g cur e hc
    obtain ⟨c2, h2, s2⟩ := s.keep.shape g c1 e h1
    exact ⟨c2, h2, s2.trans s1⟩⟩
theorem Step.alloc (Y : Nat → Prop) (w : World) (o : Obj) : Step Y w (w.alloc o) :=
  ⟨⟨by simp, fun g hg _ => Below.heap_alloc w o g hg, fun g cur e h => ⟨cur, by
    have hg : g < w.heap.size := (Array.getElem?_eq_some_iff.1 h).1
    rw [Below.heap_alloc w o g hg]; exact h, rfl⟩⟩, rfl, rfl, rfl⟩
theorem Step.drawn (Y : Nat → Prop) (w : World) (n : Nat) : Step Y w { w with drawn := n } := ⟨⟨Nat.le_refl _, fun _ _ _ => rfl, fun _ cur _ h => ⟨cur, h, rfl⟩⟩, rfl, rfl, rfl⟩

theorem FV.keep {X X' : Nat → Prop} {w w' : World} {K K' : KM} {tm : Array Value} {u : AV} {v : Value} (h : FV w X K tm u v)
    (hk : Keep X w w') (hX : ∀ g, g < w.heap.size → X' g → X g) (hK : ∀ b, u.has b = true → K' b = K b) : FV w' X' K' tm u v := by
  cases u with
  | opt d want u' =>
    simp only [FV] at h ⊢
    rcases h with ⟨h1, h2⟩ | h
    · exact .inl ⟨h1, h2.keep hk hX hK⟩
    · exact .inr h
  | _ => exact VR.keep h hk hX hK
theorem FV.sub {X X' : Nat → Prop} {w : World} {K : KM} {tm : Array Value} {u : AV} {v : Value} (h : FV w X K tm u v) (hX : ∀ g, g < w.heap.size → X' g → X g) : FV w X' K tm u v :=
  h.keep (Keep.refl _ _) hX (fun _ _ => rfl)
theorem FV.top {X : Nat → Prop} {w : World} {K : KM} {tm : Array Value} {v : Value} : FV w X K tm .top v := VR.top
theorem FV.vr {X : Nat → Prop} {w : World} {K : KM} {tm : Array Value} {u : AV} {v : Value} (h : FV w X K tm u v) (hu : ∀ d want u', u ≠ .opt d want u') : VR w X K u v := by
  cases u with
  | opt d want u' => exact absurd rfl (hu d want u')
  | _ => exact h
theorem FV.of {X : Nat → Prop} {w : World} {K : KM} {tm : Array Value} {u : AV} {v : Value} (h : VR w X K u v) : FV w X K tm u v := by
  cases u with
  | opt d want u' => cases h
  | _ => exact h
theorem FV.noopt {X : Nat → Prop} {w : World} {K : KM} {tm : Array Value} {u : AV} {v : Value} (h : FV w X K tm u v) : VR w X K u.noopt v := by
  cases u with
  | opt d want u' => exact .top
  | _ => exact h

theorem MapR.keep {w w' : World} {X X' : Nat → Prop} {g sz : Nat} {ag st : Bool} {rows : List (List AV)} {es : Array MapEntry} (h : MapR w X g ag st sz rows es) (e : w'.heap[g]? = w.heap[g]?) (hk : Keep X w w') (hX : ∀ g, g < w.heap.size → X' g → X g) : MapR w' X' g ag st sz rows es :=
  ⟨e.trans h.obj, h.born, h.agg, h.key, h.size, fun i row en hi he => by
    obtain ⟨h1, h2, h3, h4, h5⟩ := h.ent i row en hi he
    exact ⟨h1, h2, h3, h4, fun j u c hu hc => (h5 j u c hu hc).keep hk hX fun _ _ => rfl⟩⟩
theorem HoldsObj.keep {w w' : World} {X X' : Nat → Prop} {g : Nat} {blk : OBlk} {cur : Array Value} (h : HoldsObj w X g blk cur) (e : w'.heap[g]? = w.heap[g]?) (hk : Keep X w w') (hX : ∀ g, g < w.heap.size → X' g → X g) : HoldsObj w' X' g blk cur := by
  unfold HoldsObj at h ⊢
  cases hk' : blk.kd <;> rw [hk'] at h <;> simp only at h ⊢
  · exact e.trans h
  · exact e.trans h
  · exact e.trans h
  · obtain ⟨h1, h0, es, h2⟩ := h
    exact ⟨h1, h0, es, h2.keep e hk hX⟩
theorem HoldsObj.cells {w : World} {X : Nat → Prop} {g : Nat} {blk : OBlk} {cur : Array Value} (h : HoldsObj w X g blk cur) (hk : ∀ ag st, blk.kd ≠ .map ag st) : w.heap[g]? = some (.cells cur blk.e (0, 0)) := by
  unfold HoldsObj at h
  cases hkd : blk.kd <;> rw [hkd] at h
  · exact h
  · exact h
  · exact h
  · exact absurd hkd (hk _ _)
theorem HoldsObj.mk {w : World} {X : Nat → Prop} {g : Nat} {blk : OBlk} {cur : Array Value} (hk : ∀ ag st, blk.kd ≠ .map ag st) (h : w.heap[g]? = some (.cells cur blk.e (0, 0))) : HoldsObj w X g blk cur := by
  unfold HoldsObj
  cases hkd : blk.kd
  · exact h
  · exact h
  · exact h
  · exact absurd hkd (hk _ _)
theorem HoldsObj.lt {w : World} {X : Nat → Prop} {g : Nat} {blk : OBlk} {cur : Array Value} (h : HoldsObj w X g blk cur) : g < w.heap.size := by
  unfold HoldsObj at h
  cases hkd : blk.kd <;> rw [hkd] at h
  · exact (Array.getElem?_eq_some_iff.1 h).1
  · exact (Array.getElem?_eq_some_iff.1 h).1
  · exact (Array.getElem?_eq_some_iff.1 h).1
  · obtain ⟨_, _, es, h1⟩ := h
    exact (Array.getElem?_eq_some_iff.1 h1.obj).1
/-- a block that is one of cells -/
theorem HoldsObj.kd_ne {w : World} {X : Nat → Prop} {g : Nat} {blk : OBlk} {cur cur' : Array Value} {e : TypeId} {z : Nat × Nat} (h : HoldsObj w X g blk cur) (hc : w.heap[g]? = some (.cells cur' e z)) : ∀ ag st, blk.kd ≠ .map ag st := by
  intro ag st hk
  unfold HoldsObj at h
  rw [hk] at h
  obtain ⟨_, _, es, h1⟩ := h
  have := h1.obj
  rw [this] at hc; cases hc
theorem HoldsObj.of_obj {w : World} {X : Nat → Prop} {g : Nat} {blk : OBlk} {cur cur' : Array Value} {e : TypeId} {z : Nat × Nat} (h : HoldsObj w X g blk cur) (hc : w.heap[g]? = some (.cells cur' e z)) : w.heap[g]? = some (.cells cur blk.e (0, 0)) :=
  h.cells (h.kd_ne hc)
theorem cellsOnly_some {own : Nat → Option OBlk} {b : Nat} {blk : OBlk} (h : cellsOnly own b = some blk) : own b = some blk ∧ ∀ ag st, blk.kd ≠ .map ag st := by
  unfold cellsOnly at h
  split at h
  · rename_i x hx
    split at h
    · cases h
    · rename_i hk
      injection h with h
      subst h
      exact ⟨hx, fun ag st e => hk ag st e⟩
  · cases h
theorem KdX_sub {kd : Kd} {X X' : Nat → Prop} {w : World} (hX : ∀ g, g < w.heap.size → X' g → X g) : ∀ g, g < w.heap.size → KdX kd X' g → KdX kd X g := by
  intro g hg h
  cases kd
  · trivial
  · exact hX g hg h
  · exact hX g hg h
  · exact hX g hg h
theorem KdX_keep {kd : Kd} {X : Nat → Prop} {w w' : World} (h : Keep X w w') : Keep (KdX kd X) w w' :=
  h.mono fun g _ hx => by cases kd; · trivial
                          · exact hx
                          · exact hx
                          · exact hx

theorem BlkR.keep {X X' : Nat → Prop} {w w' : World} {K K' : KM} {g : Nat} {blk : OBlk} (h : BlkR w X K g blk) (hb : w'.heap[g]? = w.heap[g]?)
    (hk : Keep X w w') (hX : ∀ g, g < w.heap.size → X' g → X g) (hK : blk.kd = .any → ∀ (j : Nat) u b, blk.rows.flatten[j]? = some u → u.has b = true → K' b = K b) : BlkR w' X' K' g blk := by
  obtain ⟨cur, hc, hu⟩ := h
  refine ⟨cur, hc.keep hb hk hX, fun j u hj => ?_⟩
  obtain ⟨x, hx, h1, hv⟩ := hu j u hj
  refine ⟨x, hx, h1, hv.keep (KdX_keep hk) (KdX_sub hX) fun b hbu => ?_⟩
  cases hkd : blk.kd
  · rfl
  · rfl
  · exact hK hkd j u b hj hbu
  · rfl

theorem XX.sub {E : Env} {K : KM} {O O' : List (Nat × OBlk)} (h : ∀ b x, olk O' b = some x → ∃ y, olk O b = some y) : ∀ g, XX E K O' g → XX E K O g := by
  rintro g (⟨b, hb, hg⟩ | hg)
  · obtain ⟨x, hx⟩ := Option.isSome_iff_exists.1 hb
    obtain ⟨y, hy⟩ := h b x hx
    exact .inl ⟨b, by simp [hy], hg⟩
  · exact .inr hg

theorem SRK.live_lt {E : Env} {K : KM} {c : Cfg} {a : Act} {w : World} (h : SRK E K c a w) {b g : Nat} (hb : (olk c.O b).isSome = true) (hK : blkOf K b = some g) : g < w.heap.size := by
  obtain ⟨x, hx⟩ := Option.isSome_iff_exists.1 hb
  rcases h.own b x hx with ⟨h1, _⟩ | ⟨g', h1, cur, hc, _⟩
  · rw [show blkOf K b = none from by simp [blkOf, h1]] at hK; cases hK
  · rw [blkOf_of h1] at hK; injection hK with hK; subst hK
    exact hc.lt

theorem SRK.weak {E : Env} {K : KM} {c c' : Cfg} {a : Act} {w : World} (h : SRK E K c a w) (hf : ∀ t, lk c'.fr t = lk c.fr t ∨ lk c'.fr t = .top)
    (hO : ∀ b x, olk c'.O b = some x → olk c.O b = some x) : SRK E K c' a w := by
  have hX : ∀ g, g < w.heap.size → XX E K c'.O g → XX E K c.O g := fun g _ hg => XX.sub (fun b x hb => ⟨x, hO b x hb⟩) g hg
  have hs : ∀ b, (olk c'.O b).isSome = true → (olk c.O b).isSome = true := by
    intro b hb
    obtain ⟨x, hx⟩ := Option.isSome_iff_exists.1 hb
    simp [hO b x hx]
  refine ⟨h.size, h.defers, h.ext, fun t => ?_, fun b x hb => h.rows b x (hO b x hb), fun b x hb => ?_, fun b b' g h1 h2 => h.inj b b' g (hs b h1) (hs b' h2), fun b g h1 => h.mine b g (hs b h1), h.pin⟩
  · rcases hf t with e | e <;> rw [e]
    · exact (h.fr t).sub hX
    · exact FV.top
  · rcases h.own b x (hO b x hb) with h1 | ⟨g, h1, h2⟩
    · exact .inl h1
    · exact .inr ⟨g, h1, h2.keep rfl (Keep.refl _ _) hX (fun _ _ _ _ _ _ => rfl)⟩

theorem SRK.purge {E : Env} {K : KM} {c : Cfg} {a : Act} {w : World} (h : SRK E K c a w) (b : Nat) : SRK E K ⟨purgeF b c.fr, purgeO b c.O⟩ a w := by
  have he : ∀ i x, olk (purgeO b c.O) i = some x → ∃ y, olk c.O i = some y ∧ x = (match y.kd with | .any => { y with rows := purgeR b y.rows } | _ => y) := by
    intro i x hx
    rw [olk_purge] at hx
    cases hy : olk c.O i with
    | none => rw [hy] at hx; cases hx
    | some y => rw [hy] at hx; injection hx with hx; exact ⟨y, rfl, hx.symm⟩
  have hX : ∀ g, g < w.heap.size → XX E K (purgeO b c.O) g → XX E K c.O g := fun g _ hg => XX.sub (fun i x hi => let ⟨y, hy, _⟩ := he i x hi; ⟨y, hy⟩) g hg
  have hs : ∀ i, (olk (purgeO b c.O) i).isSome = true → (olk c.O i).isSome = true := by
    intro i hi
    obtain ⟨x, hx⟩ := Option.isSome_iff_exists.1 hi
    obtain ⟨y, hy, _⟩ := he i x hx
    simp [hy]
  refine ⟨h.size, h.defers, h.ext, fun t => ?_, fun i x hi => ?_, fun i x hi => ?_, fun b b' g h1 h2 => h.inj b b' g (hs b h1) (hs b' h2), fun b g h1 => h.mine b g (hs b h1), h.pin⟩
  · show FV w (XX E K (purgeO b c.O)) K a.tmps (lk (purgeF b c.fr) t) _
    rw [lk_purge]
    split
    · exact FV.top
    · exact (h.fr t).sub hX
  · obtain ⟨y, hy, rfl⟩ := he i x hi
    have hr := h.rows i y hy
    cases hk : y.kd <;> simp only
    · exact hr
    · exact hr
    · exact purgeR_mem hr
    · exact hr
  · obtain ⟨y, hy, rfl⟩ := he i x hi
    rcases h.own i y hy with ⟨h1, h2⟩ | ⟨g, h1, h2⟩
    · left
      cases hk : y.kd <;> simp only
      · exact ⟨h1, h2⟩
      · exact ⟨h1, h2⟩
      · refine ⟨h1, ?_⟩; rw [h2]; rfl
      · exact ⟨h1, h2⟩
    · right
      have hlen : ∀ rows : List (List AV), (purgeR b rows).length = rows.length := by
        intro rows
        induction rows with
        | nil => rfl
        | cons r rs ih => simp [purgeR, ih]
      refine ⟨g, by cases hk : y.kd <;> simp only [hlen] <;> exact h1, ?_⟩
      have h3 : BlkR w (XX E K (purgeO b c.O)) K g y := h2.keep rfl (Keep.refl _ _) hX (fun _ _ _ _ _ _ => rfl)
      cases hk : y.kd <;> simp only
      · exact h3
      · exact h3
      rotate_left
      · exact h3
      · obtain ⟨cur, hc, hu⟩ := h3
        refine ⟨cur, HoldsObj.mk (fun _ _ e => by cases e) (hc.cells fun _ _ e => by rw [hk] at e; cases e), fun j u hj => ?_⟩
        simp only [purgeR_flatten] at hj
        obtain ⟨u', hu', e⟩ := purgeL_get hj
        obtain ⟨x, hx, h1, hv⟩ := hu j u' hu'
        refine ⟨x, hx, h1, ?_⟩
        rw [e]
        split
        · exact .top
        · rw [hk] at hv; exact hv

def upd (K : KM) (b : Nat) (x : Option Nat × Nat) : KM := fun i => if i = b then some x else K i
theorem upd_same (K : KM) (b : Nat) (x : Option Nat × Nat) : upd K b x b = some x := by simp [upd]
theorem upd_blk (K : KM) (b g m : Nat) : blkOf (upd K b (some g, m)) b = some g := by simp [blkOf, upd]
theorem upd_blk_nil (K : KM) (b m : Nat) : blkOf (upd K b (none, m)) b = none := by simp [blkOf, upd]
theorem upd_blk_other (K : KM) {b i : Nat} (x : Option Nat × Nat) (h : i ≠ b) : blkOf (upd K b x) i = blkOf K i := by simp [blkOf, upd, h]
theorem upd_other (K : KM) {b i : Nat} (x : Option Nat × Nat) (h : i ≠ b) : upd K b x i = K i := by simp [upd, h]
theorem pin_upd {E : Env} {K : KM} (h : ∀ b x, E.pin b = some x → K b = some x) {b : Nat} {x : Option Nat × Nat} (hb : Nat.ble (b % 16) 1 = true) : ∀ i y, E.pin i = some y → upd K b x i = some y := by
  intro i y hy
  have h1 := Nat.le_of_ble_eq_true (E.hpin i y hy)
  have h2 := Nat.le_of_ble_eq_true hb
  rw [upd_other _ _ (by rintro rfl; omega)]
  exact h i y hy

/-- Id b is bound anew: to a new block, or to the block that it had; nothing else speaks of it. -/
theorem SRK.rebind {E : Env} {K : KM} {c : Cfg} {a : Act} {w w' : World} {b g : Nat} {blk : OBlk} (h : SRK E K c a w) (hpn : Nat.ble (b % 16) 1 = true)
    (hs : Step (fun r => (olk c.O b).isSome = true ∧ blkOf K b = some r) w w')
    (hfr : ∀ t, (lk c.fr t).has b = false) (hO : ∀ i x, olk c.O i = some x → i ≠ b → x.kd = .any → hasRow b x.rows = false)
    (hg : w.heap.size ≤ g ∨ ((olk c.O b).isSome = true ∧ blkOf K b = some g)) (hrows : ∀ row ∈ blk.rows, row.length = blk.sz)
    (hblk : BlkR w' (XX E (upd K b (some g, blk.rows.length)) (setO b blk c.O)) (upd K b (some g, blk.rows.length)) g blk) : SRK E (upd K b (some g, blk.rows.length)) ⟨c.fr, setO b blk c.O⟩ a w' := by
  have hX : ∀ r, r < w.heap.size → XX E (upd K b (some g, blk.rows.length)) (setO b blk c.O) r → XX E K c.O r := by
    rintro r hr (⟨i, hi, hk⟩ | hx)
    · by_cases e : i = b
      · subst e
        rw [upd_blk] at hk
        injection hk with hk; subst hk
        rcases hg with hg | ⟨h1, h2⟩
        · omega
        · exact .inl ⟨i, h1, h2⟩
      · rw [upd_blk_other _ _ e] at hk
        rw [olk_setO, if_neg (fun e' => e e'.symm)] at hi
        exact .inl ⟨i, hi, hk⟩
    · exact .inr hx
  have hkeep : Keep (XX E K c.O) w w' := hs.keep.mono fun r _ ⟨h1, h2⟩ => .inl ⟨b, h1, h2⟩
  refine ⟨h.size, h.defers, h.ext.step hs (fun r ⟨h1, h2⟩ => h.mine b r h1 h2), fun t => (h.fr t).keep hkeep hX fun i hi => ?_, fun i x hi => ?_, fun i x hi => ?_, fun i i' r h1 h2 k1 k2 => ?_, fun i r h1 k1 => ?_, pin_upd h.pin hpn⟩
  · by_cases e : i = b
    · subst e; rw [hfr t] at hi; cases hi
    · exact upd_other _ _ e
  · simp only [olk_setO] at hi
    by_cases e : b = i
    · rw [if_pos e] at hi; injection hi with hi; subst hi; exact hrows
    · rw [if_neg e] at hi; exact h.rows i x hi
  · simp only [olk_setO] at hi
    by_cases e : b = i
    · rw [if_pos e] at hi; injection hi with hi; subst hi; subst e
      exact .inr ⟨g, upd_same _ _ _, hblk⟩
    · rw [if_neg e] at hi
      have hib : (olk c.O i).isSome = true := by simp [hi]
      rcases h.own i x hi with ⟨h1, h2⟩ | ⟨r, h1, h2⟩
      · exact .inl ⟨by rw [upd_other _ _ (fun e' => e e'.symm)]; exact h1, h2⟩
      · refine .inr ⟨r, by rw [upd_other _ _ (fun e' => e e'.symm)]; exact h1, h2.keep ?_ hkeep hX fun hk j u b' hj hu => ?_⟩
        · exact hs.keep.block r (h.live_lt hib (blkOf_of h1)) fun ⟨k1, k2⟩ => e (h.inj b i r k1 hib k2 (blkOf_of h1))
        · by_cases e' : b' = b
          · subst e'
            rw [hasRow_get (hO i x hi (fun e'' => e e''.symm) hk) hj] at hu; cases hu
          · exact upd_other _ _ e'
  · simp only [olk_setO] at h1 h2
    by_cases e : i = b <;> by_cases e' : i' = b
    · rw [e, e']
    · subst e
      rw [upd_blk] at k1; injection k1 with k1; subst k1
      rw [upd_blk_other _ _ e'] at k2
      rw [if_neg (fun e'' => e' e''.symm)] at h2
      rcases hg with hg | ⟨j1, j2⟩
      · have := h.live_lt h2 k2; omega
      · exact h.inj i i' g j1 h2 j2 k2
    · subst e'
      rw [upd_blk] at k2; injection k2 with k2; subst k2
      rw [upd_blk_other _ _ e] at k1
      rw [if_neg (fun e'' => e e''.symm)] at h1
      rcases hg with hg | ⟨j1, j2⟩
      · have := h.live_lt h1 k1; omega
      · exact h.inj i i' g h1 j1 k1 j2
    · rw [upd_blk_other _ _ e] at k1
      rw [upd_blk_other _ _ e'] at k2
      rw [if_neg (fun e'' => e e''.symm)] at h1
      rw [if_neg (fun e'' => e' e''.symm)] at h2
      exact h.inj i i' r h1 h2 k1 k2
  · simp only [olk_setO] at h1
    by_cases e : i = b
    · subst e
      rw [upd_blk] at k1; injection k1 with k1; subst k1
      rcases hg with hg | ⟨j1, j2⟩
      · exact .inr (Nat.le_trans h.ext.size hg)
      · exact h.mine i g j1 j2
    · rw [upd_blk_other _ _ e] at k1
      rw [if_neg (fun e'' => e e''.symm)] at h1
      exact h.mine i r h1 k1

/-- Id b is bound to no block: the nil slice stands for it. -/
theorem SRK.rebindNil {E : Env} {K : KM} {c : Cfg} {a : Act} {w : World} {b : Nat} {blk : OBlk} (h : SRK E K c a w) (hpn : Nat.ble (b % 16) 1 = true)
    (hfr : ∀ t, (lk c.fr t).has b = false) (hO : ∀ i x, olk c.O i = some x → i ≠ b → x.kd = .any → hasRow b x.rows = false)
    (hrows : blk.rows = []) : SRK E (upd K b (none, 0)) ⟨c.fr, setO b blk c.O⟩ a w := by
  have hX : ∀ r, r < w.heap.size → XX E (upd K b (none, 0)) (setO b blk c.O) r → XX E K c.O r := by
    rintro r hr (⟨i, hi, hk⟩ | hx)
    · by_cases e : i = b
      · subst e; rw [upd_blk_nil] at hk; cases hk
      · rw [upd_blk_other _ _ e] at hk
        rw [olk_setO, if_neg (fun e' => e e'.symm)] at hi
        exact .inl ⟨i, hi, hk⟩
    · exact .inr hx
  refine ⟨h.size, h.defers, h.ext, fun t => (h.fr t).keep (Keep.refl _ _) hX fun i hi => ?_, fun i x hi => ?_, fun i x hi => ?_, fun i i' r h1 h2 k1 k2 => ?_, fun i r h1 k1 => ?_, pin_upd h.pin hpn⟩
  · by_cases e : i = b
    · subst e; rw [hfr t] at hi; cases hi
    · exact upd_other _ _ e
  · simp only [olk_setO] at hi
    by_cases e : b = i
    · rw [if_pos e] at hi; injection hi with hi; subst hi; rw [hrows]; simp
    · rw [if_neg e] at hi; exact h.rows i x hi
  · simp only [olk_setO] at hi
    by_cases e : b = i
    · rw [if_pos e] at hi; injection hi with hi; subst hi; subst e
      exact .inl ⟨upd_same _ _ _, hrows⟩
    · rw [if_neg e] at hi
      rcases h.own i x hi with ⟨h1, h2⟩ | ⟨r, h1, h2⟩
      · exact .inl ⟨by rw [upd_other _ _ (fun e' => e e'.symm)]; exact h1, h2⟩
      · refine .inr ⟨r, by rw [upd_other _ _ (fun e' => e e'.symm)]; exact h1, h2.keep rfl (Keep.refl _ _) hX fun hk j u b' hj hu => ?_⟩
        by_cases e' : b' = b
        · subst e'
          rw [hasRow_get (hO i x hi (fun e'' => e e''.symm) hk) hj] at hu; cases hu
        · exact upd_other _ _ e'
  · simp only [olk_setO] at h1 h2
    have e : i ≠ b := by rintro rfl; rw [upd_blk_nil] at k1; cases k1
    have e' : i' ≠ b := by rintro rfl; rw [upd_blk_nil] at k2; cases k2
    rw [upd_blk_other _ _ e] at k1
    rw [upd_blk_other _ _ e'] at k2
    rw [if_neg (fun e'' => e e''.symm)] at h1
    rw [if_neg (fun e'' => e' e''.symm)] at h2
    exact h.inj i i' r h1 h2 k1 k2
  · simp only [olk_setO] at h1
    have e : i ≠ b := by rintro rfl; rw [upd_blk_nil] at k1; cases k1
    rw [upd_blk_other _ _ e] at k1
    rw [if_neg (fun e'' => e e''.symm)] at h1
    exact h.mine i r h1 k1

/-- A block of one's own is written. -/
theorem SRK.write {E : Env} {K : KM} {c : Cfg} {a : Act} {w w' : World} {b g : Nat} {blk blk0 : OBlk} (h : SRK E K c a w) (hb : olk c.O b = some blk0) (hK : blkOf K b = some g) (hlen : blk.rows.length = blk0.rows.length)
    (hs : Step (fun r => r = g) w w') (hrows : ∀ row ∈ blk.rows, row.length = blk.sz)
    (hblk : BlkR w' (XX E K c.O) K g blk) : SRK E K ⟨c.fr, setO b blk c.O⟩ a w' := by
  have hbs : (olk c.O b).isSome = true := by simp [hb]
  have hX : ∀ r, XX E K (setO b blk c.O) r → XX E K c.O r := by
    rintro r (⟨i, hi, hk⟩ | hx)
    · by_cases e : i = b
      · subst e; exact .inl ⟨i, hbs, hk⟩
      · rw [olk_setO, if_neg (fun e' => e e'.symm)] at hi
        exact .inl ⟨i, hi, hk⟩
    · exact .inr hx
  have hkeep : Keep (XX E K c.O) w w' := hs.keep.mono fun r _ hr => .inl ⟨b, hbs, by rw [hr]; exact hK⟩
  have hsome : ∀ i, (olk (setO b blk c.O) i).isSome = true → (olk c.O i).isSome = true := by
    intro i hi
    rw [olk_setO] at hi
    by_cases e : b = i
    · subst e; exact hbs
    · rw [if_neg e] at hi; exact hi
  refine ⟨h.size, h.defers, h.ext.step hs (fun r hr => by subst hr; exact h.mine b r hbs hK), fun t => (h.fr t).keep hkeep (fun r _ => hX r) fun i hi => rfl, fun i x hi => ?_, fun i x hi => ?_,
    fun i i' r h1 h2 k1 k2 => h.inj i i' r (hsome i h1) (hsome i' h2) k1 k2, fun i r h1 k1 => h.mine i r (hsome i h1) k1, h.pin⟩
  · simp only [olk_setO] at hi
    by_cases e : b = i
    · rw [if_pos e] at hi; injection hi with hi; subst hi; exact hrows
    · rw [if_neg e] at hi; exact h.rows i x hi
  · simp only [olk_setO] at hi
    by_cases e : b = i
    · rw [if_pos e] at hi; injection hi with hi; subst hi; subst e
      have hKr : K b = some (some g, blk.rows.length) := by
        rcases h.own b blk0 hb with ⟨h1, _⟩ | ⟨g', h1, _⟩
        · rw [show blkOf K b = none from by simp [blkOf, h1]] at hK; cases hK
        · rw [blkOf_of h1] at hK; injection hK with hK; subst hK; rw [hlen]; exact h1
      exact .inr ⟨g, hKr, hblk.keep rfl (Keep.refl _ _) (fun r _ => hX r) (fun _ _ _ _ _ _ => rfl)⟩
    · rw [if_neg e] at hi
      rcases h.own i x hi with h1 | ⟨r, h1, h2⟩
      · exact .inl h1
      · exact .inr ⟨r, h1, h2.keep (hs.keep.block r (h.live_lt (by simp [hi]) (blkOf_of h1)) fun hr => e (h.inj b i g hbs (by simp [hi]) hK (by rw [← hr]; exact blkOf_of h1))) hkeep (fun r _ => hX r) (fun _ _ _ _ _ _ => rfl)⟩

/-- The world moves on and nothing of ours turns. -/
theorem SRK.move {E : Env} {K : KM} {c : Cfg} {a : Act} {w w' : World} (h : SRK E K c a w) (hs : Step (fun _ => False) w w') : SRK E K c a w' := by
  have hkeep : Keep (XX E K c.O) w w' := hs.keep.mono fun _ _ hr => hr.elim
  refine ⟨h.size, h.defers, h.ext.step hs (fun r hr => hr.elim), fun t => (h.fr t).keep hkeep (fun _ _ h => h) fun _ _ => rfl, h.rows, fun i x hi => ?_, h.inj, h.mine, h.pin⟩
  rcases h.own i x hi with h1 | ⟨r, h1, h2⟩
  · exact .inl h1
  · exact .inr ⟨r, h1, h2.keep (hs.keep.block r (h.live_lt (by simp [hi]) (blkOf_of h1)) (fun h => h)) hkeep (fun _ _ h => h) (fun _ _ _ _ _ _ => rfl)⟩

theorem noOpt_lk {d : Nat} : ∀ {fr : List (Nat × AV)} {t d' : Nat} {want : Bool} {v : AV}, noOpt d fr = true → lk fr t = .opt d' want v → d' ≠ d
  | [], t, d', want, v, _, h => by simp [lk] at h
  | (i, u) :: r, t, d', want, v, h, hl => by
    rw [lk_cons] at hl
    unfold noOpt at h
    by_cases e : i = t
    · rw [if_pos e] at hl
      subst hl
      simp only at h
      split at h
      · cases h
      · rename_i hb; exact fun e' => beq_false hb e'.symm
    · rw [if_neg e] at hl
      refine noOpt_lk ?_ hl
      cases u <;> simp only at h <;> first | exact h | skip
      split at h
      · cases h
      · exact h

/-- A slot is set. -/
theorem SRK.put {E : Env} {K : KM} {c : Cfg} {a : Act} {w : World} (h : SRK E K c a w) {dst : Option Nat} (hd : dstOK E.N c dst = true) {u : AV} {v : Value}
    (hu : ∀ d, dst = some d → FV w (XX E K c.O) K (a.put dst v).tmps u v) : SRK E K ⟨putF dst u c.fr, c.O⟩ (a.put dst v) w := by
  cases dst with
  | none => exact h
  | some d =>
    simp only [dstOK, Bool.and_eq_true] at hd
    have hlt : d < a.tmps.size := by rw [h.size]; exact Nat.le_of_ble_eq_true hd.1
    have hu := hu d rfl
    refine ⟨by simp [Act.put, h.size], h.defers, h.ext, fun t => ?_, h.rows, h.own, h.inj, h.mine, h.pin⟩
    show FV w (XX E K c.O) K (a.tmps.setIfInBounds d v) (lk ((d, u) :: c.fr) t) ((a.tmps.setIfInBounds d v).getD t undef)
    rw [lk_cons]
    by_cases e : d = t
    · subst e
      rw [if_pos rfl]
      have : (a.tmps.setIfInBounds d v).getD d undef = v := by simp [Array.getD, hlt]
      rw [this]; exact hu
    · rw [if_neg e]
      have hget : ∀ s, s ≠ d → (a.tmps.setIfInBounds d v).getD s undef = a.tmps.getD s undef := by
        intro s hs
        simp [Array.getD_eq_getD_getElem?, Ne.symm hs]
      rw [hget t (fun e' => e e'.symm)]
      have hf := h.fr t
      cases hl : lk c.fr t with
      | opt d' want u' =>
        have hne := noOpt_lk hd.2 hl
        rw [hl] at hf
        simp only [FV] at hf ⊢
        rw [hget d' hne]
        exact hf
      | _ => rw [hl] at hf; exact hf
end Go.Abs
end
section
namespace Go.Abs
open Go.RowKit
set_option linter.unusedVariables false

def AV.toV : AV → Value
  | .int k n => .int k n
  | .bool b => .bool b
  | .str s => .string s
  | _ => undef
/-- '==' and '!=' at a struct type are reckoned cell by cell -/
def EqSpec (P : Program) (t : Nat) (cks : List CK) : Prop :=
  P.eqGuardType P.depth t = false ∧ ∀ (w : World) (us vs : List AV), fitsCK cks us = true → fitsCK cks vs = true →
    (Op.equalIn 10000 t (.agg (us.map AV.toV).toArray) (.agg (vs.map AV.toV).toArray)).run P w = .ok (eqL us vs) w
def TabOK (P : Program) : Tab → Prop
  | [] => True
  | (t, i) :: r => ((P.underlying t).map TyK.of = some i.k ∧ (P.info? t).map (fun j => (j.zero, j.size, j.bytes)) = some (some i.zero, i.size, i.bytes) ∧ (i.eq ≠ [] → EqSpec P t i.eq)) ∧ TabOK P r
theorem TabOK.get {P : Program} : ∀ {T : Tab} {t : Nat} {i : TyI}, TabOK P T → T.get t = some i →
    (∃ d, P.underlying t = some d ∧ TyK.of d = i.k) ∧ (∃ j, P.info? t = some j ∧ j.zero = some i.zero ∧ j.size = i.size ∧ j.bytes = i.bytes) ∧ (i.eq ≠ [] → EqSpec P t i.eq)
  | [], _, _, _, h => by simp [Tab.get] at h
  | (s, x) :: r, t, i, ⟨⟨h1, h2, h3⟩, hr⟩, h => by
    unfold Tab.get at h
    split at h
    · rename_i e
      have := beq_true e
      subst this
      injection h with h
      subst h
      refine ⟨?_, ?_, h3⟩
      · cases hu : P.underlying s with
        | none => rw [hu] at h1; cases h1
        | some d => rw [hu] at h1; injection h1 with h1; exact ⟨d, rfl, h1⟩
      · cases hu : P.info? s with
        | none => rw [hu] at h2; cases h2
        | some d => rw [hu] at h2; simp at h2; exact ⟨d, rfl, h2⟩
    · exact TabOK.get hr h

def Cfg.eff (c : Cfg) (r : Res) : Cfg :=
  match r.pg, r.nw with
  | none, _ => ⟨c.fr, setD r.D c.O⟩
  | some b, false => ⟨purgeF b c.fr, setD r.D (purgeO b c.O)⟩
  | some b, true => ⟨c.fr, setD r.D (delO b c.O)⟩
theorem Cfg.app_eq (c : Cfg) (dst : Option Nat) (r : Res) : c.app dst r = ⟨putF dst r.v (c.eff r).fr, (c.eff r).O⟩ := by
  unfold Cfg.app Cfg.eff
  cases r.pg <;> cases r.nw <;> rfl

def OpPost (E : Env) (c : Cfg) (r : Res) (a : Act) (dst : Option Nat) (a' : Act) (w' : World) : Prop :=
  ∃ K' vv, a' = a.put dst vv ∧ SRK E K' (c.eff r) a w' ∧ VR w' (XX E K' (c.eff r).O) K' r.v vv
def NoQ : Exit → Act → World → Prop := fun _ _ _ => False

section
variable {w : World} {X : Nat → Prop} {K : KM} {v : Value}
theorem VR.int_inv {k : IntKind} {n : Int} (h : VR w X K (.int k n) v) : v = .int k n := by cases h; rfl
theorem VR.bool_inv {b : Bool} (h : VR w X K (.bool b) v) : v = .bool b := by cases h; rfl
theorem VR.str_inv {s : ByteArray} (h : VR w X K (.str s) v) : v = .string s := by cases h; rfl
theorem VR.und_inv (h : VR w X K .und v) : v = undef := by cases h; rfl
theorem VR.esl_inv (h : VR w X K .esl v) : ∃ A cap, v = .slice (some A) 0 cap := by cases h; exact ⟨_, _, rfl⟩
theorem VR.nilsl_inv (h : VR w X K .nilsl v) : v = .slice none 0 0 := by cases h; rfl
theorem VR.agg_inv {xs : List AV} (h : VR w X K (.agg xs) v) : ∃ vs : Array Value, v = .agg vs ∧ xs.length = vs.size ∧ (∀ (j : Nat) c, vs[j]? = some c → c.oneCell' = true) ∧ ∀ (j : Nat) u c, xs[j]? = some u → vs[j]? = some c → VR w X K u c := by
  cases h with | agg h1 h2 h3 => exact ⟨_, rfl, h1, h2, h3⟩
theorem VR.tup_inv {xs : List AV} (h : VR w X K (.tup xs) v) : ∃ vs : Array Value, v = .tuple vs ∧ xs.length = vs.size ∧ ∀ (j : Nat) u c, xs[j]? = some u → vs[j]? = some c → VR w X K u c := by
  cases h with | tup h1 h2 => exact ⟨_, rfl, h1, h2⟩
theorem VR.func_inv {f : FuncId} {xs : List AV} (h : VR w X K (.func f xs) v) : ∃ vs : Array Value, v = .func (.func f) #[] vs ∧ xs.length = vs.size ∧ ∀ (j : Nat) u c, xs[j]? = some u → vs[j]? = some c → VR w X K u c := by
  cases h with | func h1 h2 => exact ⟨_, rfl, h1, h2⟩
theorem VR.rsl_inv {sz n : Nat} {rows : List (List AV)} (h : VR w X K (.rsl sz n rows) v) : ∃ A cap, v = .slice A n cap ∧ n = rows.length ∧ (∀ row ∈ rows, row.length = sz) ∧ n ≤ cap ∧ (A = none → cap = 0) ∧
    ∃ cs : List Value, cs.length = rows.flatten.length ∧ (∀ c ∈ cs, c.oneCell' = true) ∧ (rows ≠ [] → ∃ g o, A = some ⟨g, o, none⟩ ∧ g < w.heap.size ∧ ¬ X g ∧ ∀ (j : Nat) c, cs[j]? = some c → w.cell? ⟨g, o + j, none⟩ = some c) ∧
      (∀ (j : Nat) u c, rows.flatten[j]? = some u → cs[j]? = some c → VR w X K0 u c) := by
  cases h with | rsl h1 h2 h3 h4 h5 h6 h7 h8 => exact ⟨_, _, rfl, h1, h2, h3, h4, _, h5, h6, h7, h8⟩
theorem VR.rptr_inv {xs : List AV} {off : Nat} (h : VR w X K (.rptr xs off) v) : ∃ g o, v = .pointer (some ⟨g, o + off, none⟩) ∧ g < w.heap.size ∧ ¬ X g ∧
    ∃ cs : List Value, cs.length = xs.length ∧ (∀ c ∈ cs, c.oneCell' = true) ∧ (∀ (j : Nat) c, cs[j]? = some c → w.cell? ⟨g, o + j, none⟩ = some c) ∧ (∀ (j : Nat) u c, xs[j]? = some u → cs[j]? = some c → VR w X K0 u c) := by
  cases h with | rptr h1 h2 h3 h4 h5 h6 => exact ⟨_, _, rfl, h3, h4, _, h1, h2, h5, h6⟩
theorem VR.osl_inv {b sz n : Nat} (h : VR w X K (.osl b sz n) v) : (K b = some (none, 0) ∧ n = 0 ∧ v = .slice none 0 0) ∨
    ∃ (g cap : Nat) (cur : Array Value) (e m : Nat), K b = some (some g, m) ∧ n ≤ m ∧ v = .slice (some ⟨g, 0, none⟩) n cap ∧ w.heap[g]? = some (.cells cur e (0, 0)) ∧ n ≤ cap ∧ cap ≤ maxLen ∧ cap * sz = cur.size := by
  cases h with
  | osl h1 h0 h2 h3 h4 h5 => exact .inr ⟨_, _, _, _, _, h1, h0, rfl, h2, h3, h4, h5⟩
  | oslnil h1 => exact .inl ⟨h1, rfl, rfl⟩
theorem VR.osuf_inv {b sz lo n : Nat} (h : VR w X K (.osuf b sz lo n) v) : ∃ A cap, v = .slice A n cap ∧ (0 < n → ∃ g m, K b = some (some g, m) ∧ lo + n ≤ m ∧ A = some ⟨g, lo * sz, none⟩) := by
  cases h with | osuf h1 _ => exact ⟨_, _, rfl, h1⟩
theorem VR.osuf_inv2 {b sz lo n : Nat} (h : VR w X K (.osuf b sz lo n) v) : ∃ A cap, v = .slice A n cap ∧ (0 < n → ∃ g m, K b = some (some g, m) ∧ lo + n ≤ m ∧ A = some ⟨g, lo * sz, none⟩) ∧
    (0 < n → n ≤ cap ∧ cap ≤ maxLen ∧ ∃ g o cur e, A = some ⟨g, o, none⟩ ∧ w.heap[g]? = some (.cells cur e (0, 0)) ∧ o + cap * sz = cur.size) := by
  cases h with | osuf h1 h2 => exact ⟨_, _, rfl, h1, h2⟩
theorem VR.ovar_inv {b off : Nat} (h : VR w X K (.ovar b off) v) : ∃ g, blkOf K b = some g ∧ v = .pointer (some ⟨g, off, none⟩) := by
  cases h with | ovar h1 => exact ⟨_, h1, rfl⟩
theorem VR.optr_inv {b sz i off : Nat} (h : VR w X K (.optr b sz i off) v) : ∃ g, blkOf K b = some g ∧ v = .pointer (some ⟨g, i * sz + off, none⟩) := by
  cases h with | optr h1 => exact ⟨_, h1, rfl⟩
theorem VR.omap_inv {b : Nat} (h : VR w X K (.omap b) v) : ∃ g, blkOf K b = some g ∧ v = .map (some g) := by
  cases h with | omap h1 => exact ⟨_, h1, rfl⟩
theorem VR.rmap_inv {ag st : Bool} {sz : Nat} {rows : List (List AV)} (h : VR w X K (.rmap ag st sz rows) v) : ∃ g, v = .map (some g) ∧ g < w.heap.size ∧ ¬ X g ∧ (∀ row ∈ rows, row.length = sz ∧ keyRow st row = true) ∧ ∃ cs, MapObj w g ag st sz cs ∧ cs.length = rows.flatten.length ∧ (∀ c ∈ cs, c.oneCell' = true) ∧ ∀ (j : Nat) u c, rows.flatten[j]? = some u → cs[j]? = some c → VR w X K0 u c := by
  cases h with | rmap h1 h2 h3 h4 h5 h6 h7 => exact ⟨_, rfl, h2, h3, h4, _, h1, h5, h6, h7⟩
end

section
variable {P : Program} {T : Tab} {E : Env} {K : KM} {c : Cfg} {a : Act} {w : World} {o : Oper} {r : Res} {val : Operand → AV}

theorem wp_val (hs : SRK E K c a w) {vv : Value} {v : AV} (hrun : (execOp a.eval o).run P w = .ok (.value vv) w) (hr : { v := v } = r) (hv : VR w (XX E K c.O) K v vv) :
    o.wp P a w (OpPost E c r a o.dst) NoQ := by
  subst hr
  unfold Oper.wp
  rw [hrun]
  exact ⟨K, vv, rfl, hs, hv⟩

theorem ret_get {v : AV} {r : Res} (h : (retV v).holds P (· = r)) : { v := v } = r := h
theorem wrap_get {k : IntKind} {n : Int} {f : Int → AV} {r : Res} (h : (wrapI k n fun m => retV (f m)).holds P (· = r)) : { v := f (k.wrap n) } = r := by
  obtain ⟨m, rfl, h⟩ := h
  exact h

/-- what is known of the operands -/
def Vals (E : Env) (K : KM) (c : Cfg) (a : Act) (w : World) (val : Operand → AV) : Prop := ∀ x, FV w (XX E K c.O) K a.tmps (val x) (a.eval x)


theorem Vals.at (hval : Vals E K c a w val) {x : Operand} {u : AV} (h : val x = u) : FV w (XX E K c.O) K a.tmps u (a.eval x) := by rw [← h]; exact hval x
theorem Vals.int (hval : Vals E K c a w val) {x : Operand} {k : IntKind} {n : Int} (h : val x = .int k n) : a.eval x = .int k n := VR.int_inv (hval.at h)
theorem Vals.bool (hval : Vals E K c a w val) {x : Operand} {b : Bool} (h : val x = .bool b) : a.eval x = .bool b := VR.bool_inv (hval.at h)

theorem strip_sound (hval : Vals E K c a w val) {d : Nat} {want : Bool} {x : Operand} (hd : a.tmps.getD d undef = .bool want) : FV w (XX E K c.O) K a.tmps ((val x).strip d want) (a.eval x) := by
  cases hx : val x with
  | opt d' w' v =>
    have h := hval.at hx
    unfold AV.strip
    simp only
    split
    · rename_i h1
      have := beq_true h1; subst this
      rcases h with ⟨_, h⟩ | ⟨h, _⟩
      · exact FV.of h
      · exact absurd hd h
    · rename_i h1
      have := beq_true h1; subst this
      rcases h with ⟨_, h⟩ | ⟨h, _⟩
      · exact FV.of h
      · exact absurd hd h
    · exact h
  | _ => exact hval.at hx

theorem s_move (hs : SRK E K c a w) (hval : Vals E K c a w val) {x : Operand} (ho : o.op = .move x ∨ o.op = .assign x) (h : (retV (val x).noopt).holds P (· = r)) : o.wp P a w (OpPost E c r a o.dst) NoQ :=
  wp_val hs (vv := a.eval x) (by rcases ho with ho | ho <;> simp [execOp, ho]) (ret_get h) (hval x).noopt

theorem s_and (hs : SRK E K c a w) (hval : Vals E K c a w val) {d : Nat} {x : Operand} (ho : o.op = .pick (.tmp d) x (.const (.bool false)))
    (h : Ans.holds P (match val (.tmp d), (val x).strip d true with
      | .bool t, .bool x => retV (.bool (t && x))
      | .bool false, _ => retV (.bool false)
      | _, _ => .no) (· = r)) : o.wp P a w (OpPost E c r a o.dst) NoQ := by
  split at h
  · rename_i t xb h1 h2
    have e1 := hval.bool h1
    refine wp_val hs (vv := .bool (t && xb)) ?_ (ret_get h) .bool
    cases t
    · simp only [execOp, ho, e1]; simp [asBool, Act.eval]
    · have := strip_sound hval (x := x) (d := d) (want := true) e1
      rw [h2] at this
      have e2 := VR.bool_inv this
      simp only [execOp, ho, e1, e2]; simp [asBool]
  · rename_i h1 h2
    have e1 := hval.bool h1
    refine wp_val hs (vv := .bool false) ?_ (ret_get h) .bool
    simp only [execOp, ho, e1]; simp [asBool, Act.eval]
  · exact h.elim
theorem s_or (hs : SRK E K c a w) (hval : Vals E K c a w val) {d : Nat} {x : Operand} (ho : o.op = .pick (.tmp d) (.const (.bool true)) x)
    (h : Ans.holds P (match val (.tmp d), (val x).strip d false with
      | .bool t, .bool x => retV (.bool (t || x))
      | .bool true, _ => retV (.bool true)
      | _, _ => .no) (· = r)) : o.wp P a w (OpPost E c r a o.dst) NoQ := by
  split at h
  · rename_i t xb h1 h2
    have e1 := hval.bool h1
    refine wp_val hs (vv := .bool (t || xb)) ?_ (ret_get h) .bool
    cases t
    · have := strip_sound hval (x := x) (d := d) (want := false) e1
      rw [h2] at this
      have e2 := VR.bool_inv this
      simp only [execOp, ho, e1, e2]; simp [asBool]
    · simp only [execOp, ho, e1]; simp [asBool, Act.eval]
  · rename_i h1 h2
    have e1 := hval.bool h1
    refine wp_val hs (vv := .bool true) ?_ (ret_get h) .bool
    simp only [execOp, ho, e1]; simp [asBool, Act.eval]
  · exact h.elim

theorem s_not (hs : SRK E K c a w) (hval : Vals E K c a w val) {t : TypeId} {x : Operand} (ho : o.op = .unOp .not t x) (h : Ans.holds P (match val x with | .bool b => retV (.bool !b) | _ => .no) (· = r)) : o.wp P a w (OpPost E c r a o.dst) NoQ := by
  split at h
  · rename_i b h1
    have e1 := hval.bool h1
    exact wp_val hs (vv := .bool !b) (by simp only [execOp, ho, e1]; simp [Op.unary]) (ret_get h) .bool
  · exact h.elim
theorem s_neg (hs : SRK E K c a w) (hval : Vals E K c a w val) {t : TypeId} {x : Operand} (ho : o.op = .unOp .neg t x) (h : Ans.holds P (match val x with | .int k n => wrapI k (0 - n) fun m => retV (.int k m) | _ => .no) (· = r)) : o.wp P a w (OpPost E c r a o.dst) NoQ := by
  split at h
  · rename_i k n h1
    have e1 := hval.int h1
    exact wp_val hs (vv := .int k (k.wrap (0 - n))) (by simp only [execOp, ho, e1]; simp [Op.unary, Op.intArith]) (wrap_get (f := fun m => .int k m) h) .int
  · exact h.elim

theorem binInt_sound (hs : SRK E K c a w) {op : BinOp} {t t' : TypeId} {x y : Operand} (ho : o.op = .binOp op t x y t') {k : IntKind} {m n : Int} (h1 : a.eval x = .int k m) (h2 : a.eval y = .int k n)
    (h : (binInt op k m n).holds P (· = r)) : o.wp P a w (OpPost E c r a o.dst) NoQ := by
  have key : ∀ (vv : Value), (binOp op t (.int k m) (.int k n)).run P w = .ok vv w → (execOp a.eval o).run P w = .ok (.value vv) w := by
    intro vv hb
    have hg : (eqGuard op t x y (.int k m) (.int k n)).run P w = .ok () w := by
      unfold eqGuard
      split <;> rfl
    simp only [execOp, ho, h1, h2, Sem.run_bind, hg, hb, Result.andThen_ok, Sem.run_pure]
  cases op <;> simp only [binInt] at h
  case add => exact wp_val hs (vv := .int k (k.wrap (m + n))) (key _ (by simp [binOp, Op.intArith])) (wrap_get (f := fun m => .int k m) h) .int
  case sub => exact wp_val hs (vv := .int k (k.wrap (m - n))) (key _ (by simp [binOp, Op.intArith])) (wrap_get (f := fun m => .int k m) h) .int
  case mul => exact wp_val hs (vv := .int k (k.wrap (m * n))) (key _ (by simp [binOp, Op.intArith])) (wrap_get (f := fun m => .int k m) h) .int
  case quo =>
    obtain ⟨h0, h⟩ := h
    exact wp_val hs (vv := .int k (k.wrap (m.tdiv n))) (key _ (by simp [binOp, Op.intDiv, h0])) (wrap_get (f := fun m => .int k m) h) .int
  case rem =>
    obtain ⟨h0, h⟩ := h
    exact wp_val hs (vv := .int k (m.tmod n)) (key _ (by simp [binOp, Op.intDiv, h0])) (ret_get h) .int
  case eql => exact wp_val hs (vv := .bool (m == n)) (key _ (by simp [binOp, Op.intCmp])) (ret_get h) .bool
  case neq => exact wp_val hs (vv := .bool (m != n)) (key _ (by simp [binOp, Op.intCmp])) (ret_get h) .bool
  case lss => exact wp_val hs (vv := .bool (decide (m < n))) (key _ (by simp [binOp, Op.intCmp])) (ret_get h) .bool
  case leq => exact wp_val hs (vv := .bool (decide (m ≤ n))) (key _ (by simp [binOp, Op.intCmp])) (ret_get h) .bool
  case gtr => exact wp_val hs (vv := .bool (decide (m > n))) (key _ (by simp [binOp, Op.intCmp])) (ret_get h) .bool
  case geq => exact wp_val hs (vv := .bool (decide (m ≥ n))) (key _ (by simp [binOp, Op.intCmp])) (ret_get h) .bool
  case shl =>
    obtain ⟨⟨h0, h1⟩, h⟩ := h
    exact wp_val hs (vv := .int k (k.wrap (m * 2 ^ n.toNat))) (key _ (by simp only [binOp]; rw [shift_shl k k m n h0 h1]; rfl)) (wrap_get (f := fun m => .int k m) h) .int
  case shr =>
    obtain ⟨⟨h0, h1⟩, h⟩ := h
    exact wp_val hs (vv := .int k (m / 2 ^ n.toNat)) (key _ (by simp only [binOp]; rw [shift_shr k k m n h0 h1]; rfl)) (ret_get h) .int
  case and =>
    obtain ⟨x, rfl, h⟩ := h
    exact wp_val hs (vv := .int k (bits .and k m n)) (key _ (by simp [binOp, intBits_and])) (ret_get h) .int
  case or =>
    obtain ⟨x, rfl, h⟩ := h
    exact wp_val hs (vv := .int k (bits .or k m n)) (key _ (by simp [binOp, intBits_or])) (ret_get h) .int
  case xor =>
    obtain ⟨x, rfl, h⟩ := h
    exact wp_val hs (vv := .int k (bits .xor k m n)) (key _ (by simp [binOp, intBits_xor])) (ret_get h) .int
  case andNot =>
    obtain ⟨x, rfl, h⟩ := h
    exact wp_val hs (vv := .int k (bits .andNot k m n)) (key _ (by simp [binOp, intBits_andNot])) (ret_get h) .int

theorem shiftI_sound (hs : SRK E K c a w) {op : BinOp} {t t' : TypeId} {x y : Operand} (ho : o.op = .binOp op t x y t') {k k' : IntKind} {m n : Int} (h1 : a.eval x = .int k m) (h2 : a.eval y = .int k' n)
    (h : (shiftI op k m n).holds P (· = r)) : o.wp P a w (OpPost E c r a o.dst) NoQ := by
  have key : ∀ (vv : Value), (binOp op t (.int k m) (.int k' n)).run P w = .ok vv w → (execOp a.eval o).run P w = .ok (.value vv) w := by
    intro vv hb
    have hg : (eqGuard op t x y (.int k m) (.int k' n)).run P w = .ok () w := by
      unfold eqGuard
      split <;> rfl
    simp only [execOp, ho, h1, h2, Sem.run_bind, hg, hb, Result.andThen_ok, Sem.run_pure]
  cases op <;> simp only [shiftI] at h
  case shl =>
    obtain ⟨⟨h0, h1⟩, h⟩ := h
    exact wp_val hs (vv := .int k (k.wrap (m * 2 ^ n.toNat))) (key _ (by simp only [binOp]; rw [shift_shl k k' m n h0 h1]; rfl)) (wrap_get (f := fun m => .int k m) h) .int
  case shr =>
    obtain ⟨⟨h0, h1⟩, h⟩ := h
    exact wp_val hs (vv := .int k (m / 2 ^ n.toNat)) (key _ (by simp only [binOp]; rw [shift_shr k k' m n h0 h1]; rfl)) (ret_get h) .int
  all_goals exact h.elim

theorem fits_toV : ∀ {cks : List CK} {xs : List AV} {vs : List Value}, fitsCK cks xs = true → xs.length = vs.length → (∀ (j : Nat) u v, xs[j]? = some u → vs[j]? = some v → VR w (XX E K c.O) K u v) → vs = xs.map AV.toV
  | [], [], [], _, _, _ => rfl
  | ck :: cks, u :: us, v :: vs, hf, hl, hv => by
    simp only [fitsCK, Bool.and_eq_true] at hf
    have h0 := hv 0 u v (by simp) (by simp)
    have ih := fits_toV hf.2 (by simpa using hl) (fun j u' v' h1 h2 => hv (j + 1) u' v' (by simpa using h1) (by simpa using h2))
    rw [ih, List.map_cons]
    congr 1
    cases ck <;> cases u <;> simp [CK.fits] at hf
    · exact VR.int_inv h0
    · exact VR.bool_inv h0
    · exact VR.str_inv h0
  | [], _ :: _, _, h, _, _ => by simp [fitsCK] at h
  | _ :: _, [], _, h, _, _ => by simp [fitsCK] at h
  | [], [], _ :: _, _, h, _ => by simp at h
  | _ :: _, _ :: _, [], _, h, _ => by simp at h
end
end Go.Abs
end
section
namespace Go.Abs
open Go.RowKit Go.MapKept
set_option linter.unusedVariables false
/-! ### maps -/
theorem vflat_len {α : Type} {sz : Nat} : ∀ {rows : List (List α)}, (∀ r ∈ rows, r.length = sz) → rows.flatten.length = rows.length * sz
  | [], _ => by simp
  | r :: rs, h => by
    simp only [List.flatten_cons, List.length_append, List.length_cons]
    rw [vflat_len (sz := sz) fun x hx => h x (by simp [hx]), h r (by simp), Nat.add_mul]; omega
theorem vflat_get {α : Type} {sz : Nat} : ∀ {rows : List (List α)} {i : Nat} {row : List α}, (∀ r ∈ rows, r.length = sz) → rows[i]? = some row → ∀ j, j < sz → rows.flatten[i * sz + j]? = row[j]?
  | [], i, row, _, h, _, _ => by simp at h
  | r :: rs, 0, row, hr, h, j, hj => by
    simp at h; subst h
    simp only [List.flatten_cons, Nat.zero_mul, Nat.zero_add]
    rw [List.getElem?_append_left (by rw [hr r (by simp)]; exact hj)]
  | r :: rs, i + 1, row, hr, h, j, hj => by
    simp only [List.flatten_cons]
    have h1 := hr r (by simp)
    rw [List.getElem?_append_right (by rw [h1, Nat.add_mul]; omega), ← vflat_get (rows := rs) (fun x hx => hr x (List.mem_cons_of_mem _ hx)) (by simpa using h) j hj]
    congr 1
    rw [h1, Nat.add_mul]; omega
section
variable {w : World} {X : Nat → Prop} {K : KM}
theorem keyRow_pos {st : Bool} {row : List AV} (h : keyRow st row = true) : 0 < row.length := by
  cases row with
  | nil => cases h
  | cons _ _ => simp
theorem MapR.of {g sz : Nat} {ag st : Bool} {rows : List (List AV)} {cs : List Value} (h : MapObj w g ag st sz cs) (hrow : ∀ row ∈ rows, row.length = sz ∧ keyRow st row = true) (hl : cs.length = rows.flatten.length) (h1 : ∀ c ∈ cs, c.oneCell' = true)
    (hv : ∀ (j : Nat) u c, rows.flatten[j]? = some u → cs[j]? = some c → VR w X K0 u c) : ∃ es, MapR w X g ag st sz rows es := by
  obtain ⟨es, hg, hm⟩ := h
  have hlen : ∀ r ∈ es.toList.map entC, r.length = sz := by
    intro r hr
    obtain ⟨e, he, rfl⟩ := List.mem_map.1 hr
    exact hm.len e he
  have hsz : es.size * sz = rows.length * sz := by
    have a1 := vflat_len hlen
    have a2 := vflat_len (fun r hr => (hrow r hr).1)
    rw [← hm.cells, hl, a2] at a1
    simpa using a1.symm
  have hcell : ∀ e ∈ es.toList, ∀ c ∈ entC e, c.oneCell' = true := fun e he c hc => h1 c (by rw [hm.cells]; exact List.mem_flatten.2 ⟨_, List.mem_map.2 ⟨e, he, rfl⟩, hc⟩)
  have hs : es.size = rows.length := by
    by_cases h0 : sz = 0
    · subst h0
      have hr0 : rows = [] := by
        cases rows with
        | nil => rfl
        | cons r rs => have := hrow r (by simp); have := keyRow_pos this.2; omega
      have : es.toList = [] := by
        cases hes : es.toList with
        | nil => rfl
        | cons e r => have := hm.len e (by rw [hes]; simp); simp [entC] at this
      subst hr0
      have := congrArg List.length this
      simpa using this
    · exact Nat.eq_of_mul_eq_mul_right (by omega) hsz
  refine ⟨es, hg, hm.born, hm.agg, hm.key, hs, fun i row e hi he => ?_⟩
  have hmr := List.mem_of_getElem? hi
  have hme : e ∈ es.toList := Array.mem_toList_iff.2 (Array.mem_of_getElem? he)
  refine ⟨(hrow row hmr).1, (hrow row hmr).2, hm.len e hme, hcell e hme, fun j u c hu hc => ?_⟩
  have hj : j < sz := by have := (List.getElem?_eq_some_iff.1 hu).1; rw [(hrow row hmr).1] at this; exact this
  refine hv (i * sz + j) u c ?_ ?_
  · rw [vflat_get (fun r hr => (hrow r hr).1) hi j hj]; exact hu
  · rw [hm.cells, vflat_get (row := entC e) hlen (by simp [he]) j hj]; exact hc
theorem MapR.back {g sz : Nat} {ag st : Bool} {rows : List (List AV)} {es : Array MapEntry} (h : MapR w X g ag st sz rows es) :
    ∃ cs, MapObj w g ag st sz cs ∧ (∀ row ∈ rows, row.length = sz ∧ keyRow st row = true) ∧ cs.length = rows.flatten.length ∧ (∀ c ∈ cs, c.oneCell' = true) ∧ ∀ (j : Nat) u, rows.flatten[j]? = some u → ∃ c, cs[j]? = some c ∧ c.oneCell' = true ∧ VR w X K0 u c := by
  have hE : ∀ e ∈ es.toList, ∃ (i : Nat) (row : List AV), rows[i]? = some row ∧ es[i]? = some e := by
    intro e he
    obtain ⟨i, hi⟩ := List.getElem?_of_mem he
    have hi' : es[i]? = some e := by simpa using hi
    have hlt : i < rows.length := by rw [← h.size]; exact (Array.getElem?_eq_some_iff.1 hi').1
    exact ⟨i, rows[i], List.getElem?_eq_getElem hlt, hi'⟩
  have hR : ∀ row ∈ rows, ∃ (i : Nat) (e : MapEntry), rows[i]? = some row ∧ es[i]? = some e := by
    intro row hr
    obtain ⟨i, hi⟩ := List.getElem?_of_mem hr
    have hlt : i < es.size := by rw [h.size]; exact (List.getElem?_eq_some_iff.1 hi).1
    exact ⟨i, es[i], hi, Array.getElem?_eq_getElem hlt⟩
  have hlen : ∀ r ∈ es.toList.map entC, r.length = sz := by
    intro r hr
    obtain ⟨e, he, rfl⟩ := List.mem_map.1 hr
    obtain ⟨i, row, h1, h2⟩ := hE e he
    exact (h.ent i row e h1 h2).2.2.1
  have hrow : ∀ row ∈ rows, row.length = sz ∧ keyRow st row = true := by
    intro row hr
    obtain ⟨i, e, h1, h2⟩ := hR row hr
    have := h.ent i row e h1 h2
    exact ⟨this.1, this.2.1⟩
  have hone : ∀ c ∈ (es.toList.map entC).flatten, c.oneCell' = true := by
    intro c hc
    obtain ⟨r, hr, hc⟩ := List.mem_flatten.1 hc
    obtain ⟨e, he, rfl⟩ := List.mem_map.1 hr
    obtain ⟨i, row, h1, h2⟩ := hE e he
    exact (h.ent i row e h1 h2).2.2.2.1 c hc
  have hfl : (es.toList.map entC).flatten.length = rows.flatten.length := by
    rw [vflat_len hlen, vflat_len (fun r hr => (hrow r hr).1)]
    simp [h.size]
  refine ⟨_, ⟨es, h.obj, h.born, h.agg, h.key, fun e he => hlen _ (List.mem_map.2 ⟨e, he, rfl⟩), rfl⟩, hrow, hfl, hone, fun j u hj => ?_⟩
  have hlt : j < rows.flatten.length := (List.getElem?_eq_some_iff.1 hj).1
  have hc : (es.toList.map entC).flatten[j]? = some ((es.toList.map entC).flatten[j]'(by omega)) := List.getElem?_eq_getElem _
  refine ⟨_, hc, hone _ (List.getElem_mem _), ?_⟩
  rw [vflat_len (fun r hr => (hrow r hr).1)] at hlt
  have hsz : 0 < sz := by
    rcases Nat.eq_zero_or_pos sz with h0 | h0
    · subst h0; omega
    · exact h0
  have hi : j / sz < rows.length := (Nat.div_lt_iff_lt_mul hsz).2 hlt
  have hm : j % sz < sz := Nat.mod_lt _ hsz
  have hj' : j = j / sz * sz + j % sz := by rw [Nat.mul_comm]; exact (Nat.div_add_mod j sz).symm
  have hri : rows[j / sz]? = some rows[j / sz] := List.getElem?_eq_getElem hi
  obtain ⟨e, hei⟩ : ∃ e, es[j / sz]? = some e := ⟨_, Array.getElem?_eq_getElem (by rw [h.size]; exact hi)⟩
  have hent := h.ent _ _ _ hri hei
  refine hent.2.2.2.2 (j % sz) u _ ?_ ?_
  · rw [← vflat_get (fun r hr => (hrow r hr).1) hri (j % sz) hm, ← hj']; exact hj
  · rw [← vflat_get (rows := es.toList.map entC) (i := j / sz) (row := entC e) hlen (by simp [hei]) (j % sz) hm, ← hj']; exact hc
/-- keys -/
def kdesc (st : Bool) : TypeDesc := match st with | true => .string | false => .int .i64
theorem keyFits_val {st : Bool} {k : AV} {v : Value} (h : keyFits st k = true) (hv : VR w X K k v) : IsKey (kdesc st) v ∧ v.oneCell' = true := by
  unfold keyFits at h
  split at h
  · rw [VR.int_inv hv]
    cases st
    · exact ⟨rfl, rfl⟩
    · cases h
  · subst h; rw [VR.str_inv hv]; exact ⟨trivial, rfl⟩
  · cases h
theorem keyEq_iff {st : Bool} {k k' : AV} {v v' : Value} (h : keyFits st k = true) (h' : keyFits st k' = true) (hv : VR w X K k v) {X' : Nat → Prop} {K' : KM} (hv' : VR w X' K' k' v') : keyEq k k' = true ↔ v = v' := by
  unfold keyFits at h h'
  split at h <;> split at h'
  · rw [VR.int_inv hv, VR.int_inv hv']; simp [keyEq]
  · subst h'; cases h
  · cases h'
  · subst h; cases h'
  · rw [VR.str_inv hv, VR.str_inv hv']; simp only [keyEq, bytes_beq]; simp
  · cases h'
  · cases h
  · cases h
  · cases h
theorem keyTy_desc {st : Bool} {t : TyK} {d : TypeDesc} (h : keyTy st t = true) (hd : TyK.of d = t) : d = kdesc st := by
  unfold keyTy at h
  split at h
  · cases st
    · cases d <;> simp [TyK.of] at hd
      subst hd; rfl
    · cases h
  · subst h
    cases d <;> simp [TyK.of] at hd
    rfl
  · cases h
/-- a look for a key -/
theorem find_rows {st : Bool} {sz : Nat} {key : AV} {kv : Value} {X' : Nat → Prop} {K' : KM} (hk : keyFits st key = true) (hkv : VR w X' K' key kv) : ∀ (l : List MapEntry) (rows : List (List AV)) (i : Nat), l.length = rows.length → (∀ (i : Nat) row e, rows[i]? = some row → l[i]? = some e → EntR w X st sz row e) → 
    (Instr.findNow (kdesc st) kv l i = some none ∧ mget key rows = none ∧ midx key rows = rows.length ∧ (∀ v, mput key v rows = rows ++ [key :: v]) ∧ ∀ z, mensure key z rows = rows ++ [key :: z]) ∨
    ∃ j e k cs, Instr.findNow (kdesc st) kv l i = some (some (i + j, e.val)) ∧ l[j]? = some e ∧ e.key = kv ∧ rows[j]? = some (k :: cs) ∧ keyEq key k = true ∧ mget key rows = some cs ∧ midx key rows = j ∧ (∀ v, mput key v rows = rows.set j (key :: v)) ∧ ∀ z, mensure key z rows = rows.set j (key :: cs)
  | [], [], i, _, _ => .inl ⟨rfl, rfl, rfl, fun _ => rfl, fun _ => rfl⟩
  | [], _ :: _, _, h, _ => by simp at h
  | _ :: _, [], _, h, _ => by simp at h
  | e :: l, row :: rows, i, hl, h => by
    have h0 := h 0 row e rfl rfl
    obtain ⟨r1, r2, r3, r4, r5⟩ := h0
    cases row with
    | nil => cases r2
    | cons k cs =>
      have hkr : keyFits st k = true := r2
      have hek : VR w X K0 k e.key := r5 0 k e.key rfl rfl
      have hiff := keyEq_iff hk hkr hkv hek
      obtain ⟨r, hr, hri⟩ := sameNow_of_keys (keyFits_val hk hkv).1 (keyFits_val hkr hek).1
      cases hke : keyEq key k with
      | true =>
        have : kv = e.key := hiff.1 hke
        have hrt : r = true := hri.2 this
        subst hrt
        exact .inr ⟨0, e, k, cs, by simp [Instr.findNow, hr], rfl, this.symm, rfl, hke, by simp [mget, hke], by simp [midx, hke], fun v => by simp [mput, hke], fun z => by simp [mensure, hke]⟩
      | false =>
        have hrf : r = false := by
          cases r
          · rfl
          · have := hiff.2 (hri.1 rfl); rw [hke] at this; cases this
        subst hrf
        rcases find_rows hk hkv l rows (i + 1) (by simpa using hl) (fun j row e hr he => h (j + 1) row e (by simpa using hr) (by simpa using he)) with ⟨h1, h2, h3, h8, h9⟩ | ⟨j, e', k', cs', h1, h2, h3, h4, h5, h6, h7, h8, h9⟩
        · exact .inl ⟨by simp [Instr.findNow, hr, h1], by simp [mget, hke, h2], by simp [midx, hke, h3], fun v => by simp [mput, hke, h8], fun z => by simp [mensure, hke, h9]⟩
        · exact .inr ⟨j + 1, e', k', cs', by simp [Instr.findNow, hr, h1]; omega, by simpa using h2, h3, by simpa using h4, h5, by simp [mget, hke, h6], by simp [midx, hke, h7], fun v => by simp [mput, hke, h8], fun z => by simp [mensure, hke, h9]⟩
/-- the world in which a map's block has turned -/
def setMap (w : World) (g : Nat) (es : Array MapEntry) (cl : Nat) : World := { w with heap := w.heap.setIfInBounds g (.map es cl) }
theorem Step.setMap {w : World} {g cl cl' : Nat} {es es' : Array MapEntry} (hg : w.heap[g]? = some (.map es cl)) : Step (fun r => r = g) w (setMap w g es' cl') := by
  have hother : ∀ r, r ≠ g → (Go.Abs.setMap w g es' cl').heap[r]? = w.heap[r]? := (heap_set (o' := .map es' cl') hg).2
  refine ⟨⟨by simp [Go.Abs.setMap], fun r _ hr => hother r hr, fun r cur e hr => ⟨cur, ?_, rfl⟩⟩, rfl, rfl, rfl⟩
  rw [hother r (by rintro rfl; rw [hg] at hr; cases hr)]; exact hr
theorem MapR.push {g sz : Nat} {ag st : Bool} {rows : List (List AV)} {es : Array MapEntry} (h : MapR w X g ag st sz rows es) (hX : X g) {row : List AV} {e : MapEntry} (hb : e.born = es.size) (ha : (∃ vs, e.val = .agg vs) ↔ ag = true) (hk : (st = true → ∃ s, e.key = .string s) ∧ (st = false → ∃ n, e.key = .int .i64 n))
    (he : EntR w X st sz row e) : MapR (setMap w g (es.push e) (es.size + 1)) X g ag st sz (rows ++ [row]) (es.push e) := by
  have hst := Step.setMap (es' := es.push e) (cl' := es.size + 1) h.obj
  have hk' : ∀ {row e}, EntR w X st sz row e → EntR (setMap w g (es.push e) (es.size + 1)) X st sz row e → True := fun _ _ => trivial
  have hkeep : Keep X w (setMap w g (es.push e) (es.size + 1)) := hst.keep.mono fun r _ hr => by rw [hr]; exact hX
  have lift : ∀ {row e0}, EntR w X st sz row e0 → EntR (setMap w g (es.push e) (es.size + 1)) X st sz row e0 := by
    rintro row e0 ⟨h1, h2, h3, h4, h5⟩
    exact ⟨h1, h2, h3, h4, fun j u c hu hc => (h5 j u c hu hc).keep hkeep (fun _ _ h => h) fun _ _ => rfl⟩
  refine ⟨?_, ?_, ?_, ?_, ?_, ?_⟩
  · have := (heap_set (o' := .map (es.push e) (es.size + 1)) h.obj).1
    simpa [setMap] using this
  · intro i x hx
    rw [Array.getElem?_push] at hx
    split at hx
    · rename_i hi; injection hx with hx; subst hx; rw [hb, hi]
    · exact h.born i x hx
  · intro x hx
    simp only [Array.toList_push, List.mem_append, List.mem_singleton] at hx
    rcases hx with hx | rfl
    · exact h.agg x hx
    · exact ha
  · intro x hx
    simp only [Array.toList_push, List.mem_append, List.mem_singleton] at hx
    rcases hx with hx | rfl
    · exact h.key x hx
    · exact hk
  · simp [h.size]
  · intro i r x hr hx
    rw [Array.getElem?_push] at hx
    split at hx
    · rename_i hi
      injection hx with hx; subst hx
      rw [hi, h.size, List.getElem?_append_right (Nat.le_refl _)] at hr
      simp at hr
      subst hr
      exact lift he
    · rename_i hi
      have hlt : i < es.size := (Array.getElem?_eq_some_iff.1 hx).1
      rw [List.getElem?_append_left (by rw [← h.size]; exact hlt)] at hr
      exact lift (h.ent i r x hr hx)
theorem MapR.modify {g sz : Nat} {ag st : Bool} {rows : List (List AV)} {es : Array MapEntry} (h : MapR w X g ag st sz rows es) (hX : X g) {j : Nat} {e0 : MapEntry} {f : MapEntry → MapEntry} {row : List AV} (hj : es[j]? = some e0) (hb : (f e0).born = e0.born) (ha : (∃ vs, (f e0).val = .agg vs) ↔ ag = true)
    (hk : (st = true → ∃ s, (f e0).key = .string s) ∧ (st = false → ∃ n, (f e0).key = .int .i64 n)) (he : EntR w X st sz row (f e0)) : MapR (setMap w g (es.modify j f) es.size) X g ag st sz (rows.set j row) (es.modify j f) := by
  have hst := Step.setMap (es' := es.modify j f) (cl' := es.size) h.obj
  have hkeep : Keep X w (setMap w g (es.modify j f) es.size) := hst.keep.mono fun r _ hr => by rw [hr]; exact hX
  have lift : ∀ {row e0}, EntR w X st sz row e0 → EntR (setMap w g (es.modify j f) es.size) X st sz row e0 := by
    rintro row e0 ⟨h1, h2, h3, h4, h5⟩
    exact ⟨h1, h2, h3, h4, fun j u c hu hc => (h5 j u c hu hc).keep hkeep (fun _ _ h => h) fun _ _ => rfl⟩
  have hget : ∀ i x, (es.modify j f)[i]? = some x → (i = j ∧ x = f e0) ∨ (i ≠ j ∧ es[i]? = some x) := by
    intro i x hx
    rw [Array.getElem?_modify] at hx
    split at hx
    · rename_i hi; subst hi; rw [hj] at hx; simp at hx; exact .inl ⟨rfl, hx.symm⟩
    · rename_i hi; exact .inr ⟨fun e => hi e.symm, hx⟩
  have hmem : ∀ x ∈ (es.modify j f).toList, x = f e0 ∨ x ∈ es.toList := by
    intro x hx
    obtain ⟨i, hi⟩ := List.getElem?_of_mem hx
    rcases hget i x (by rw [← Array.getElem?_toList]; exact hi) with ⟨_, h1⟩ | ⟨_, h1⟩
    · exact .inl h1
    · exact .inr (Array.mem_toList_iff.2 (Array.mem_of_getElem? h1))
  refine ⟨?_, ?_, ?_, ?_, ?_, ?_⟩
  · have := (heap_set (o' := .map (es.modify j f) es.size) h.obj).1
    simpa [setMap] using this
  · intro i x hx
    rcases hget i x hx with ⟨rfl, rfl⟩ | ⟨_, h1⟩
    · rw [hb]; exact h.born _ _ hj
    · exact h.born i x h1
  · intro x hx
    rcases hmem x hx with rfl | hx
    · exact ha
    · exact h.agg x hx
  · intro x hx
    rcases hmem x hx with rfl | hx
    · exact hk
    · exact h.key x hx
  · simp [h.size]
  · intro i r x hr hx
    have hlt : j < rows.length := by rw [← h.size]; exact (Array.getElem?_eq_some_iff.1 hj).1
    rcases hget i x hx with ⟨rfl, rfl⟩ | ⟨hne, h1⟩
    · rw [List.getElem?_set_self hlt] at hr
      injection hr with hr; subst hr
      exact lift he
    · rw [List.getElem?_set_ne (fun e => hne e.symm)] at hr
      exact lift (h.ent i r x hr h1)
end
end Go.Abs
end
