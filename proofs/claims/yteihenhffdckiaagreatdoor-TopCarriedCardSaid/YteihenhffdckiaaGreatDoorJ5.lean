import Derived.Test.YteihenhffdckiaaGreatDoorJ4
section
namespace Go.Abs
open Go.RowKit
set_option linter.unusedVariables false

mutual
theorem has_idless (b : Nat) : ∀ u : AV, u.idless = true → u.has b = false
  | .top, _ => rfl
  | .bool _, _ => rfl
  | .int _ _, _ => rfl
  | .str _, _ => rfl
  | .nilsl, _ => rfl
  | .nilfn, _ => rfl
  | .esl, _ => rfl
  | .und, _ => rfl
  | .lit _, _ => rfl
  | .rsl _ _ _, _ => rfl
  | .rptr _ _, _ => rfl
  | .rmap _ _ _ _, _ => rfl
  | .itr, _ => rfl
  | .omap _, h => by simp [AV.idless] at h
  | .osl _ _ _, h => by simp [AV.idless] at h
  | .osuf _ _ _ _, h => by simp [AV.idless] at h
  | .ovar _ _, h => by simp [AV.idless] at h
  | .optr _ _ _ _, h => by simp [AV.idless] at h
  | .fsl _ _ _ _ _, h => by simp [AV.idless] at h
  | .agg xs, h => by simp only [AV.idless] at h; simp only [AV.has]; exact hasL_idless b xs h
  | .tup xs, h => by simp only [AV.idless] at h; simp only [AV.has]; exact hasL_idless b xs h
  | .func _ xs, h => by simp only [AV.idless] at h; simp only [AV.has]; exact hasL_idless b xs h
  | .opt _ _ _, h => by simp [AV.idless] at h
theorem hasL_idless (b : Nat) : ∀ xs : List AV, AV.idlessL xs = true → AV.hasL b xs = false
  | [], _ => rfl
  | x :: xs, h => by
    simp only [AV.idlessL, Bool.and_eq_true] at h
    simp only [AV.hasL, Bool.or_eq_false_iff]
    exact ⟨has_idless b x h.1, hasL_idless b xs h.2⟩
end
theorem scalar_idless {u : AV} (h : u.scalar = true) : u.idless = true := by cases u <;> simp [AV.scalar] at h <;> simp [AV.idless]
theorem hasL_get {b : Nat} {xs : List AV} {j : Nat} {u : AV} (h : AV.hasL b xs = false) (hj : xs[j]? = some u) : u.has b = false := by
  cases hu : u.has b
  · rfl
  · exact absurd (AV.hasL_of hj hu) (by rw [h]; simp)
theorem cellsOf_has {b : Nat} {u : AV} {cs : List AV} (hc : u.cellsOf = some cs) (h : u.has b = false) {j : Nat} {x : AV} (hj : cs[j]? = some x) : x.has b = false := by
  have one : some [u] = some cs → x.has b = false := by
    intro e; injection e with e; subst e
    cases j with
    | zero => simp at hj; subst hj; exact h
    | succ j => simp at hj
  cases u <;> simp only [AV.cellsOf] at hc
  case agg xs => injection hc with hc; subst hc; simp only [AV.has] at h; exact hasL_get h hj
  case top => cases hc
  case und => cases hc
  case lit => obtain ⟨rfl, rfl⟩ := litC_some hc; exact one rfl
  case osuf => cases hc
  case tup => cases hc
  case opt => cases hc
  case fsl => cases hc
  all_goals exact one hc

theorem ofCell_sound (w : World) (X : Nat → Prop) (K : KM) (v : Value) : VR w X K (AV.ofCell v) v := by
  unfold AV.ofCell
  split
  · exact .bool
  · exact .int
  · exact .str
  · exact .nilsl
  · exact .nilfn
  · exact .lit
  · exact .top
theorem ofCell_idless (v : Value) : (AV.ofCell v).idless = true := by
  unfold AV.ofCell
  split <;> rfl
theorem ofVal_sound (w : World) (X : Nat → Prop) (K : KM) (v : Value) (h : oneCells v = true) : VR w X K (AV.ofVal v) v := by
  unfold AV.ofVal
  split
  · rename_i cs
    refine .agg (by simp) (fun j c hc => ?_) (fun j u c hu hc => ?_)
    · simp only [oneCells, List.all_eq_true] at h
      exact h c (Array.mem_toList_iff.2 (Array.mem_of_getElem? hc))
    · simp only [List.getElem?_map, Array.getElem?_toList, hc, Option.map_some, Option.some.injEq] at hu
      subst hu
      exact ofCell_sound w X K c
  · exact ofCell_sound w X K v
theorem idlessL_map (cs : List Value) : AV.idlessL (cs.map AV.ofCell) = true := by
  induction cs with
  | nil => rfl
  | cons x xs ih => simp only [List.map_cons, AV.idlessL, ofCell_idless, ih, Bool.and_true]
theorem ofVal_idless (v : Value) : (AV.ofVal v).idless = true := by
  unfold AV.ofVal
  split
  · simp only [AV.idless]; exact idlessL_map _
  · exact ofCell_idless v
section
variable {P : Program} {T : Tab} {E : Env} {K : KM} {c : Cfg} {a : Act} {w : World} {o : Oper} {r : Res} {val : Operand → AV} {X : Nat → Prop}

theorem fresh_of {b : Nat} (h : fresh b c = true) : olk c.O b = none ∧ (∀ t, (lk c.fr t).has b = false) ∧ ∀ i x, olk c.O i = some x → x.kd = .any → hasRow b x.rows = false := by
  simp only [fresh, Bool.and_eq_true] at h
  replace h := h.1
  refine ⟨?_, fun t => freshF_lk t h.1, fun i x hi hk => (freshO_olk h.2 hi).2 hk⟩
  cases hb : olk c.O b with
  | none => rfl
  | some x => exact absurd rfl (freshO_olk h.2 hb).1
theorem fresh_pin {b : Nat} (h : fresh b c = true) : Nat.ble (b % 16) 1 = true := by
  simp only [fresh, Bool.and_eq_true] at h
  exact h.2
theorem freshD_one {b : Nat} {blk : OBlk} (h : freshD c true [(b, blk)] = true) : fresh b c = true := by
  unfold freshD at h
  simp only at h
  split at h
  · assumption
  · cases h

/-- A new block of one's own. -/
theorem bind_new (hs : SRK E K c a w) {b : Nat} {blk : OBlk} (hf : fresh b c = true) {w1 : World} (hst : Step (fun _ => False) w w1) {g : Nat} (hg : w.heap.size ≤ g)
    (hrows : ∀ row ∈ blk.rows, row.length = blk.sz) {cur : Array Value} (hc : HoldsObj w1 (fun h => XX E K c.O h ∨ h = g) g blk cur)
    (hu : ∀ (j : Nat) u, blk.rows.flatten[j]? = some u → (blk.kd = .any → u.has b = false) ∧ ∃ x, cur[j]? = some x ∧ x.oneCell' = true ∧ VR w1 (KdX blk.kd fun h => XX E K c.O h ∨ h = g) (KdK blk.kd K) u x) :
    SRK E (upd K b (some g, blk.rows.length)) ⟨c.fr, setO b blk c.O⟩ a w1 := by
  obtain ⟨h1, h2, h3⟩ := fresh_of hf
  have hXn : ∀ r, r < w1.heap.size → XX E (upd K b (some g, blk.rows.length)) (setO b blk c.O) r → XX E K c.O r ∨ r = g := by
    intro r hr hX
    rcases hX with ⟨i, hi, hk⟩ | hX
    · by_cases e : i = b
      · subst e; rw [upd_blk] at hk; injection hk with hk; exact .inr hk.symm
      · rw [upd_blk_other _ _ e] at hk
        rw [olk_setO, if_neg (fun e' => e e'.symm)] at hi
        exact .inl (.inl ⟨i, hi, hk⟩)
    · exact .inl (.inr hX)
  refine hs.rebind (fresh_pin hf) (hst.mono fun _ _ h => h.elim) h2 (fun i x hi _ hk => h3 i x hi hk) (.inl hg) hrows ⟨cur, hc.keep rfl (Keep.refl _ _) hXn, fun j u hj => ?_⟩
  obtain ⟨hb, x, hx, h1x, hv⟩ := hu j u hj
  refine ⟨x, hx, h1x, hv.keep (Keep.refl _ _) ?_ fun i hi => ?_⟩
  · refine KdX_sub fun r hr hX => ?_
    rcases hX with ⟨i, hi, hk⟩ | hX
    · by_cases e : i = b
      · subst e; rw [upd_blk] at hk; injection hk with hk; exact .inr hk.symm
      · rw [upd_blk_other _ _ e] at hk
        rw [olk_setO, if_neg (fun e' => e e'.symm)] at hi
        exact .inl (.inl ⟨i, hi, hk⟩)
    · exact .inl (.inr hX)
  · cases hk : blk.kd
    · rfl
    · rfl
    · exact upd_other _ _ (by rintro rfl; rw [hb hk] at hi; cases hi)
    · rfl

theorem wp_new {w' : World} {K' : KM} {v : AV} {vv : Value} {D : List (Nat × OBlk)} {nw : Bool} (hrun : (execOp a.eval o).run P w = .ok (.value vv) w') (hr : { v := v, D := D, nw := nw } = r) (hs' : SRK E K' ⟨c.fr, setD D c.O⟩ a w')
    (hv : VR w' (XX E K' (setD D c.O)) K' v vv) : o.wp P a w (OpPost E c r a o.dst) NoQ := by
  subst hr
  unfold Oper.wp
  rw [hrun]
  exact ⟨K', vv, rfl, hs', hv⟩

theorem heap_new (w : World) (o : Obj) : (w.alloc o).heap[w.heap.size]? = some o := by
  show (w.heap.push o)[w.heap.size]? = some o
  simp
/-- a variable of one's own, new -/
theorem var_new (hs : SRK E K c a w) {b t sz : Nat} {cs : List AV} {v : Value} (hf : fresh b c = true) (hl : cs.length = sz) (h1 : v.cells.size = cs.length) (h2 : ∀ (j : Nat) x, v.cells[j]? = some x → x.oneCell' = true)
    (h3 : ∀ (j : Nat) x y, cs[j]? = some x → v.cells[j]? = some y → VR w (XX E K c.O) K x y) (h4 : ∀ (j : Nat) x, cs[j]? = some x → x.has b = false) :
    SRK E (upd K b (some w.heap.size, 1)) ⟨c.fr, setO b { e := t, sz := sz, kd := .any, rows := [cs] } c.O⟩ a (w.alloc (.cells v.cells t)) := by
  have hst := Step.alloc (fun _ => False) w (.cells v.cells t)
  refine bind_new (blk := { e := t, sz := sz, kd := .any, rows := [cs] }) hs hf hst (Nat.le_refl _) (by simpa using hl) (heap_new w _) fun j u hj => ?_
  simp only [List.flatten_cons, List.flatten_nil, List.append_nil] at hj
  have hlt : j < v.cells.size := by have := (List.getElem?_eq_some_iff.1 hj).1; omega
  have hy : v.cells[j]? = some v.cells[j] := by simp [hlt]
  refine ⟨fun _ => h4 j u hj, v.cells[j], hy, h2 j _ hy, ?_⟩
  refine VR.keep (h3 j u _ hj hy) (hst.keep.mono fun _ _ h => h.elim) (fun g hg hX => ?_) (fun _ _ => rfl)
  rcases hX with hX | rfl
  · exact hX
  · omega

theorem s_alloc (hT : TabOK P T) (hs : SRK E K c a w) {t : TypeId} (ho : o.op = .alloc t) (hone : ∀ i, T.get t = some i → oneCells i.zero = true) (hf : freshD c r.nw r.D = true)
    (h : Ans.holds P (match T.get t with
    | some i => match (AV.ofVal i.zero).cellsOf with
      | some cs => match Nat.beq cs.length i.size with
        | true => .ret { v := .ovar (idOf o.dst 0) 0, D := [(idOf o.dst 0, { e := t, sz := i.size, kd := .any, rows := [cs] })], nw := true }
        | false => .no
      | none => .no
    | none => .no) (· = r)) : o.wp P a w (OpPost E c r a o.dst) NoQ := by
  split at h
  · rename_i i hi
    split at h
    · rename_i cs hcs
      split at h
      · rename_i hl
        have hl := beq_true hl
        have hr : _ = r := h
        have hf' := hf
        rw [← hr] at hf'
        have hfr := freshD_one hf'
        obtain ⟨_, ⟨j, hj, hjz, hjs, _⟩, _⟩ := hT.get hi
        have hv0 := ofVal_sound w (XX E K c.O) K i.zero (hone i hi)
        obtain ⟨h1, h2, h3⟩ := cellsOf_sound hcs hv0
        refine wp_new (vv := .pointer (some ⟨w.heap.size, 0, none⟩)) (w' := w.alloc (.cells i.zero.cells t)) ?_ hr (var_new hs hfr hl h1 h2 h3 fun j x hx => cellsOf_has hcs (has_idless _ _ (ofVal_idless _)) hx) (.ovar (upd_blk _ _ _ _))
        simp only [execOp, ho]
        simp [Instr.alloc, zeroValue, typeInfo, hj, hjz, newVar, newRow]
      · exact h.elim
    · exact h.elim
  · exact h.elim

theorem s_box (hT : TabOK P T) (hs : SRK E K c a w) (hval : Vals E K c a w val) (hhas : ∀ x b, fresh b c = true → (val x).has b = false) {t : TypeId} {x : Operand} (ho : o.op = .box t x) (hf : freshD c r.nw r.D = true)
    (h : Ans.holds P (match T.get t, (val x).cellsOf with
    | some i, some cs => match Nat.beq cs.length i.size, allFit .any cs with
      | true, true => .ret { v := .ovar (idOf o.dst 0) 0, D := [(idOf o.dst 0, { e := t, sz := i.size, kd := .any, rows := [cs] })], nw := true }
      | _, _ => .no
    | _, _ => .no) (· = r)) : o.wp P a w (OpPost E c r a o.dst) NoQ := by
  split at h
  · rename_i i cs hi hcs
    split at h
    · rename_i hl _
      have hl := beq_true hl
      have hr : _ = r := h
      have hf' := hf
      rw [← hr] at hf'
      have hfr := freshD_one hf'
      have hv0 : VR w (XX E K c.O) K (val x) (a.eval x) := (hval x).vr (by rintro d want u e; rw [e] at hcs; cases hcs)
      obtain ⟨h1, h2, h3⟩ := cellsOf_sound hcs hv0
      refine wp_new (vv := .pointer (some ⟨w.heap.size, 0, none⟩)) (w' := w.alloc (.cells (a.eval x).cells t)) ?_ hr (var_new hs hfr hl h1 h2 h3 fun j y hy => cellsOf_has hcs (hhas x _ hfr) hy) (.ovar (upd_blk _ _ _ _))
      simp only [execOp, ho]
      simp [Instr.box, newVar, newRow]
    · exact h.elim
  · exact h.elim

theorem s_indexAddr (hT : TabOK P T) (hs : SRK E K c a w) (hval : Vals E K c a w val) {t : TypeId} {x ix : Operand} (ho : o.op = .indexAddr t x ix)
    (h : Ans.holds P (match T.get t, val ix with
    | some i, .int _ j => match i.k with
      | .slice e => match T.get e, val x with
        | some ei, .rsl sz n rows => match Nat.beq sz ei.size with
          | true => .need (0 ≤ j ∧ j < n) (.exR fun row => .need (rows[j.toNat]? = some row) (retV (.rptr row 0)))
          | false => .no
        | some ei, .osl b sz n => match Nat.beq sz ei.size with
          | true => .need (0 ≤ j ∧ j < n) (retV (.optr b sz j.toNat 0))
          | false => .no
        | some ei, .osuf b sz lo n => match Nat.beq sz ei.size with
          | true => .need (0 ≤ j ∧ j < n) (retV (.optr b sz (lo + j.toNat) 0))
          | false => .no
        | _, _ => .no
      | .array n e => match T.get e with
        | some ei => match constOp ix with
          | true => match decide (0 ≤ j ∧ j < n) with
            | true => match ptrAdd (val x) (j.toNat * ei.size) with | some p => retV p | none => .no
            | false => .no
          | false => .need (0 ≤ j ∧ j < n) (match ptrAdd (val x) (j.toNat * ei.size) with | some p => retV p | none => .no)
        | none => .no
      | _ => .no
    | _, _ => .no) (· = r)) : o.wp P a w (OpPost E c r a o.dst) NoQ := by
  split at h
  · rename_i i k j hi hix
    obtain ⟨⟨d, hd, hdk⟩, _⟩ := hT.get hi
    have eix := hval.int hix
    split at h
    · rename_i e hk
      rw [hk] at hdk
      have := of_slice hdk
      subst this
      split at h
      · rename_i ei sz n rows hei hx
        obtain ⟨_, ⟨je, hje, _, hjs, _⟩, _⟩ := hT.get hei
        split at h
        · rename_i hsz
          have hsz := beq_true hsz
          obtain ⟨hj, row, hrow, h⟩ := h
          obtain ⟨A, cap, e1, hn, hr, hcap, _, cs, hcs, hone, hA, hv⟩ := VR.rsl_inv (hval.at hx)
          have hlt : j.toNat < rows.length := (List.getElem?_eq_some_iff.1 hrow).1
          obtain ⟨g, b, rfl, hg, hX, hcell⟩ := hA (by rintro rfl; simp at hlt)
          have hrl : row.length = sz := hr row (List.mem_of_getElem? hrow)
          have hfl := flat_len hr
          have hmul : j.toNat * sz + sz ≤ cs.length := by
            rw [hcs, hfl]
            calc j.toNat * sz + sz = (j.toNat + 1) * sz := by rw [Nat.add_mul]; omega
              _ ≤ rows.length * sz := Nat.mul_le_mul_right _ hlt
          refine wp_val hs (vv := .pointer (some ⟨g, b + j.toNat * sz + 0, none⟩)) ?_ (ret_get h) (.rptr (cs := (cs.drop (j.toNat * sz)).take sz) ?_ ?_ hg hX ?_ ?_)
          · simp only [execOp, ho, e1, eix]
            simp [Instr.indexAt, asIntOf, run_underlying hd, sizeOf_run hje, hjs, hj, ← hsz, addr_add]
          · simp only [List.length_take, List.length_drop]; omega
          · intro x hx; exact hone x (List.mem_of_mem_drop (List.mem_of_mem_take hx))
          · intro p x hp
            rw [List.getElem?_take] at hp
            split at hp
            · rw [List.getElem?_drop] at hp
              rw [Nat.add_assoc]
              exact hcell _ x hp
            · cases hp
          · intro p u x hu hp
            rw [List.getElem?_take] at hp
            split at hp
            · rename_i hps
              rw [List.getElem?_drop] at hp
              rw [← flat_get hr hrow p hps] at hu
              exact hv _ u x hu hp
            · cases hp
        · exact h.elim
      · rename_i ei b sz n hei hx
        obtain ⟨_, ⟨je, hje, _, hjs, _⟩, _⟩ := hT.get hei
        split at h
        · rename_i hsz
          have hsz := beq_true hsz
          obtain ⟨hj, h⟩ := h
          rcases VR.osl_inv (hval.at hx) with ⟨_, hz, _⟩ | ⟨g, cap, cur, e', m, hK, _, e1, hc, hnc, _, _⟩
          · omega
          · refine wp_val hs (vv := .pointer (some ⟨g, j.toNat * sz + 0, none⟩)) ?_ (ret_get h) (.optr (blkOf_of hK))
            simp only [execOp, ho, e1, eix]
            simp [Instr.indexAt, asIntOf, run_underlying hd, sizeOf_run hje, hjs, hj, ← hsz, addr_add]
        · exact h.elim
      · rename_i ei b sz lo n hei hx
        obtain ⟨_, ⟨je, hje, _, hjs, _⟩, _⟩ := hT.get hei
        split at h
        · rename_i hsz
          have hsz := beq_true hsz
          obtain ⟨hj, h⟩ := h
          obtain ⟨A, cap, e1, hA⟩ := VR.osuf_inv (hval.at hx)
          obtain ⟨g, m, hK, _, rfl⟩ := hA (by omega)
          refine wp_val hs (vv := .pointer (some ⟨g, (lo + j.toNat) * sz + 0, none⟩)) ?_ (ret_get h) (.optr (blkOf_of hK))
          simp only [execOp, ho, e1, eix]
          simp [Instr.indexAt, asIntOf, run_underlying hd, sizeOf_run hje, hjs, hj, ← hsz, addr_add, Nat.add_mul]
        · exact h.elim
      · exact h.elim
    · rename_i n e hk
      rw [hk] at hdk
      have := of_array hdk
      subst this
      split at h
      · rename_i ei hei
        obtain ⟨_, ⟨je, hje, _, hjs, _⟩, _⟩ := hT.get hei
        have fin : (0 ≤ j ∧ j < n) → Ans.holds P (match ptrAdd (val x) (j.toNat * ei.size) with | some p => retV p | none => .no) (· = r) → o.wp P a w (OpPost E c r a o.dst) NoQ := by
          intro hj h
          split at h
          · rename_i p hpt
            obtain ⟨g, oo, ev, hv'⟩ := ptrAdd_sound hpt ((hval x).vr (ptrAdd_noopt hpt))
            refine wp_val hs (vv := .pointer (some ⟨g, oo + j.toNat * ei.size, none⟩)) ?_ (ret_get h) hv'
            simp only [execOp, ho, ev, eix]
            simp [Instr.indexAt, asIntOf, run_underlying hd, Instr.sureAddr, sizeOf_run hje, hjs, hj, addr_add]
          · exact h.elim
        split at h
        · split at h
          · rename_i hd'; exact fin (of_decide_eq_true hd') h
          · exact h.elim
        · exact fin h.1 h.2
      · exact h.elim
    · exact h.elim
  · exact h.elim
end
end Go.Abs
end
section
namespace Go.Abs
open Go.RowKit
set_option linter.unusedVariables false

section
variable {P : Program} {T : Tab} {E : Env} {K : KM} {c : Cfg} {a : Act} {w : World} {o : Oper} {r : Res} {val : Operand → AV} {X : Nat → Prop}

theorem s_field (hT : TabOK P T) (hs : SRK E K c a w) (hval : Vals E K c a w val) {s : TypeId} {x : Operand} {f : Nat} (ho : o.op = .field s x f)
    (h : Ans.holds P (match T.get s, val x with
    | some i, .agg xs => match i.k with
      | .struct fs => match fs[f]? with
        | some (off, ft) => match T.get ft with
          | some fi => match readAt fi xs off with | some v => retV v | none => .no
          | none => .no
        | none => .no
      | _ => .no
    | _, _ => .no) (· = r)) : o.wp P a w (OpPost E c r a o.dst) NoQ := by
  split at h
  · rename_i i xs hi hx
    split at h
    · rename_i fs hk
      split at h
      · rename_i off ft hf
        split at h
        · rename_i fi hfi
          split at h
          · rename_i v hr
            obtain ⟨⟨d, hd, hdk⟩, _⟩ := hT.get hi
            rw [hk] at hdk
            obtain ⟨ff, rfl, hff⟩ := of_struct hdk
            rw [hff, List.getElem?_map] at hf
            cases hfx : ff.toList[f]? with
            | none => rw [hfx] at hf; cases hf
            | some fld =>
              rw [hfx] at hf; injection hf with hf; injection hf with e1 e2; subst e1 e2
              have hfa : ff[f]? = some fld := by simpa using hfx
              obtain ⟨⟨d', hd', hdk'⟩, ⟨j, hj, _, hjs, _⟩, _⟩ := hT.get hfi
              obtain ⟨vs, e1, l1, h1, v1⟩ := VR.agg_inv (hval.at hx)
              unfold readAt at hr
              split at hr
              · cases hr
              · rename_i ys hys
                obtain ⟨hle, rfl⟩ := dropE_spec hys
                split at hr
                · rename_i hagg
                  split at hr
                  · rename_i zs hzs
                    obtain ⟨hle2, rfl⟩ := takeE_spec hzs
                    injection hr with hr
                    subst hr
                    simp only [List.length_drop] at hle2
                    refine wp_val hs (vv := .agg (vs.extract fld.offset (fld.offset + fi.size))) ?_ (ret_get h) (.agg ?_ ?_ ?_)
                    · rw [← hdk'] at hagg
                      simp only [execOp, ho, e1]
                      simp [Instr.field, run_underlying hd, hfa, asAgg, part, isAgg_run hd', hagg, sizeOf_run hj, hjs]
                    · simp only [List.length_take, List.length_drop, Array.size_extract]; omega
                    · intro p x hp
                      rw [Array.getElem?_extract] at hp
                      split at hp
                      · exact h1 _ x hp
                      · cases hp
                    · intro p u x hu hp
                      rw [Array.getElem?_extract] at hp
                      split at hp
                      · rw [List.getElem?_take] at hu
                        split at hu
                        · rw [List.getElem?_drop] at hu
                          exact v1 _ u x hu hp
                        · cases hu
                      · cases hp
                  · cases hr
                · rename_i hagg
                  split at hr
                  · rename_i y ys hy
                    injection hr with hr
                    subst hr
                    have hg : xs[fld.offset]? = some y := by
                      have : (xs.drop fld.offset)[0]? = some y := by rw [hy]; rfl
                      rw [List.getElem?_drop] at this
                      simpa using this
                    have hlt : fld.offset < vs.size := by have := (List.getElem?_eq_some_iff.1 hg).1; omega
                    rw [← hdk'] at hagg
                    refine wp_val hs (vv := vs[fld.offset]) ?_ (ret_get h) (v1 _ y _ hg (by simp [hlt]))
                    simp only [execOp, ho, e1]
                    simp [Instr.field, run_underlying hd, hfa, asAgg, part, isAgg_run hd', hagg, hlt]
                  · cases hr
          · exact h.elim
        · exact h.elim
      · exact h.elim
    · exact h.elim
  · exact h.elim

theorem isSl_sound (hT : TabOK P T) {t : Nat} (h : isSl T t = true) : ∃ e, P.underlying t = some (.slice e) := by
  unfold isSl at h
  split at h
  · rename_i ti hti
    split at h
    · rename_i e hk
      obtain ⟨⟨d, hd, hdk⟩, _⟩ := hT.get hti
      rw [hk] at hdk
      have := of_slice hdk
      subst this
      exact ⟨e, hd⟩
    · cases h
  · cases h
theorem isStr_sound (hT : TabOK P T) {t : Nat} (h : isStr T t = true) : P.underlying t = some .string := by
  unfold isStr at h
  split at h
  · rename_i ti hti
    split at h
    · rename_i hk
      obtain ⟨⟨d, hd, hdk⟩, _⟩ := hT.get hti
      rw [hk] at hdk
      cases d <;> simp [TyK.of] at hdk
      exact hd
    · cases h
  · cases h

theorem s_len (hT : TabOK P T) (hs : SRK E K c a w) (hval : Vals E K c a w val) {x : Operand} {t : TypeId} (ho : o.op = .call { callee := .builtin .len, args := #[x], argTypes := #[t] })
    (h : (lenA T t (val x)).holds P (· = r)) : o.wp P a w (OpPost E c r a o.dst) NoQ := by
  have fin : ∀ {A : Option Addr} {n cap : Nat}, a.eval x = .slice A n cap → isSl T t = true → { v := .int .i64 n } = r → o.wp P a w (OpPost E c r a o.dst) NoQ := by
    intro A n cap e1 hsl hr
    obtain ⟨e, hd⟩ := isSl_sound hT hsl
    refine wp_val hs (vv := .int .i64 n) ?_ hr .int
    simp only [execOp, ho, resolve, invoke, builtin, List.map_toArray, List.map_cons, List.map_nil, e1, Sem.run_bind, Sem.run_pure, Result.andThen_ok]
    simp [Builtin.len_, run_underlying hd, goInt]
  unfold lenA at h
  split at h
  · rename_i hx
    split at h
    · rename_i hsl
      obtain ⟨A, cap, e1, _⟩ := VR.rsl_inv (hval.at hx)
      exact fin e1 hsl h
    · exact h.elim
  · rename_i hx
    split at h
    · rename_i hsl
      rcases VR.osl_inv (hval.at hx) with ⟨_, hz, e1⟩ | ⟨g, cap, cur, e', m, hK, _, e1, _⟩
      · subst hz; exact fin e1 hsl h
      · exact fin e1 hsl h
    · exact h.elim
  · rename_i hx
    split at h
    · rename_i hsl
      obtain ⟨A, cap, e1, _⟩ := VR.osuf_inv (hval.at hx)
      exact fin e1 hsl h
    · exact h.elim
  · rename_i hx
    split at h
    · rename_i hsl
      exact fin (n := 0) (VR.nilsl_inv (hval.at hx)) hsl h
    · exact h.elim
  · rename_i hx
    split at h
    · rename_i hsl
      obtain ⟨A, cap, e1⟩ := VR.esl_inv (hval.at hx)
      exact fin (n := 0) e1 hsl h
    · exact h.elim
  · rename_i s hx
    split at h
    · rename_i hsl
      have hd := isStr_sound hT hsl
      have e1 := VR.str_inv (hval.at hx)
      refine wp_val hs (vv := .int .i64 s.size) ?_ (ret_get h) .int
      simp only [execOp, ho, resolve, invoke, builtin, List.map_toArray, List.map_cons, List.map_nil, e1, Sem.run_bind, Sem.run_pure, Result.andThen_ok]
      simp [Builtin.len_, run_underlying hd, goInt]
    · exact h.elim
  · exact h.elim

theorem map_add_zero (A : Option Addr) : A.map (·.add 0) = A := by cases A <;> simp [Addr.add]

theorem s_sliceS (hT : TabOK P T) (hs : SRK E K c a w) (hval : Vals E K c a w val) {t : TypeId} {x : Operand} {lo hi : Option Operand} (ho : o.op = .slice t x lo hi none) (hst : isStr T t = true)
    (h : (sliceS (val x) (lo.map val) (hi.map val)).holds P (· = r)) : o.wp P a w (OpPost E c r a o.dst) NoQ := by
  have hd := isStr_sound hT hst
  unfold sliceS at h
  split at h
  · rename_i s k hh hx hlo hhi
    obtain ⟨hb, h⟩ := h
    cases hi with
    | none => cases hhi
    | some hi =>
    cases lo with
    | some lo => cases hlo
    | none =>
    injection hhi with hhi
    have e1 := VR.str_inv (hval.at hx)
    have e2 := hval.int hhi
    refine wp_val hs (vv := .string (s.extract 0 hh.toNat)) ?_ (ret_get h) .str
    simp only [execOp, ho, e1, e2, Option.map_none, Option.map_some, Sem.run_bind, run_sliceAt_string w t _ _ _ _ hd, run_slice_string_h w t s hd k hh hb.1 hb.2, Result.andThen_ok, Sem.run_pure]
  · rename_i s k ll hx hlo hhi
    obtain ⟨hb, h⟩ := h
    cases lo with
    | none => cases hlo
    | some lo =>
    cases hi with
    | some hi => cases hhi
    | none =>
    injection hlo with hlo
    have e1 := VR.str_inv (hval.at hx)
    have e2 := hval.int hlo
    refine wp_val hs (vv := .string (s.extract ll.toNat s.size)) ?_ (ret_get h) .str
    simp only [execOp, ho, e1, e2, Option.map_none, Option.map_some, Sem.run_bind, run_sliceAt_string w t _ _ _ _ hd, run_slice_string_l w t s hd k ll hb.1 hb.2, Result.andThen_ok, Sem.run_pure]
  · rename_i s k ll k' hh hx hlo hhi
    obtain ⟨hb, h⟩ := h
    cases lo with
    | none => cases hlo
    | some lo =>
    cases hi with
    | none => cases hhi
    | some hi =>
    injection hlo with hlo
    injection hhi with hhi
    have e1 := VR.str_inv (hval.at hx)
    have e2 := hval.int hlo
    have e3 := hval.int hhi
    refine wp_val hs (vv := .string (s.extract ll.toNat hh.toNat)) ?_ (ret_get h) .str
    simp only [execOp, ho, e1, e2, e3, Option.map_some, Option.map_none, Sem.run_bind, run_sliceAt_string w t _ _ _ _ hd]
    have h3 : (0 : Int) ≤ hh := by omega
    have h5 : hh ≤ (s.size : Int) := hb.2.2
    simp [Instr.slice, run_underlying hd, Instr.sliceBounds, Instr.sliceBound, asIntOf, hb.1, h3, h5]
    intro hc
    omega
  · exact h.elim
theorem s_index (hT : TabOK P T) (hs : SRK E K c a w) (hval : Vals E K c a w val) {t : TypeId} {x ix : Operand} (ho : o.op = .index t x ix)
    (h : (indexA T t (val x) (val ix)).holds P (· = r)) : o.wp P a w (OpPost E c r a o.dst) NoQ := by
  unfold indexA at h
  split at h
  · rename_i ti s k j hti hx hix
    split at h
    · rename_i hk
      obtain ⟨⟨d, hd, hdk⟩, _⟩ := hT.get hti
      rw [hk] at hdk
      have : d = .string := by cases d <;> simp [TyK.of] at hdk; rfl
      subst this
      obtain ⟨m, ⟨hj, hlt, rfl⟩, h⟩ := h
      have e1 := VR.str_inv (hval.at hx)
      have e2 := hval.int hix
      refine wp_val hs (vv := .int .u8 ((s[j.toNat]'hlt).toNat : Nat)) ?_ (ret_get h) .int
      have hb : 0 ≤ j ∧ j < (s.size : Int) := ⟨hj, by omega⟩
      simp only [execOp, ho, e1, e2, Sem.run_bind, run_index_string w t s k j hd, dif_pos hb, Result.andThen_ok, Sem.run_pure]
    · exact h.elim
  · rename_i ti xs k j hti hx hix
    split at h
    · rename_i n e hk
      obtain ⟨⟨d, hd, hdk⟩, _⟩ := hT.get hti
      rw [hk] at hdk
      have := of_array hdk
      subst this
      split at h
      · rename_i ei hei
        obtain ⟨⟨de, hde, hdke⟩, ⟨je, hje, _, hjs, _⟩, _⟩ := hT.get hei
        split at h
        · rename_i hagg hone
          have hone := beq_true hone
          obtain ⟨row, h⟩ := h
          dsimp only at h
          split at h
          · rename_i u
            obtain ⟨⟨hj, hjn, hu⟩, h⟩ := h
            have e2 := hval.int hix
            obtain ⟨vs, e1, l1, v1, v2⟩ := VR.agg_inv (hval.at hx)
            have hlt : j.toNat < vs.size := by rw [← l1]; exact (List.getElem?_eq_some_iff.1 hu).1
            have hvj : vs[j.toNat]? = some vs[j.toNat] := by simp [hlt]
            refine wp_val hs (vv := vs[j.toNat]) ?_ (ret_get h) (v2 j.toNat u _ hu hvj)
            rw [← hdke] at hagg
            have hb : 0 ≤ j ∧ j < (n : Int) := ⟨hj, hjn⟩
            simp [execOp, ho, e1, e2, Instr.index, asIntOf, run_underlying hd, hb, sizeOf_run hje, hjs, hone, part, isAgg_run hde, hagg, hlt]
          · exact h.elim
        · exact h.elim
      · exact h.elim
    · exact h.elim
  · exact h.elim
theorem s_slice (hT : TabOK P T) (hs : SRK E K c a w) (hval : Vals E K c a w val) {t : TypeId} {x : Operand} {lo hi : Option Operand} (ho : o.op = .slice t x lo hi none)
    (h : (sliceA T t (val x) (lo.map val) (hi.map val)).holds P (· = r)) : o.wp P a w (OpPost E c r a o.dst) NoQ := by
  unfold sliceA at h
  split at h
  · rename_i ti hti
    split at h
    · rename_i e hk
      obtain ⟨⟨d, hd, hdk⟩, _⟩ := hT.get hti
      rw [hk] at hdk
      have := of_slice hdk
      subst this
      split at h
      · rename_i ei hei
        obtain ⟨_, ⟨je, hje, _, hjs, _⟩, _⟩ := hT.get hei
        split at h
        · rename_i sz n rows k hh hx hlo hhi
          cases hi with
          | none => cases hhi
          | some hi =>
          cases lo with
          | some lo => cases hlo
          | none =>
          injection hhi with hhi
          have e2 := hval.int hhi
          split at h
          · rename_i hsz
            have hsz := beq_true hsz
            obtain ⟨hb, h⟩ := h
            obtain ⟨A, cap, e1, hn, hr, hcap, hA0, cs, hcs, hone, hA, hv⟩ := VR.rsl_inv (hval.at hx)
            have hfl := flat_len hr
            have hrt : ∀ row ∈ rows.take hh.toNat, row.length = sz := fun row hr' => hr row (List.mem_of_mem_take hr')
            have hflt := flat_len hrt
            have hhl : hh.toNat ≤ rows.length := by omega
            have hpre : ∀ (j : Nat) u, (rows.take hh.toNat).flatten[j]? = some u → rows.flatten[j]? = some u := by
              intro j u hu
              have : rows = rows.take hh.toNat ++ rows.drop hh.toNat := (List.take_append_drop _ _).symm
              rw [this, List.flatten_append, List.getElem?_append_left (List.getElem?_eq_some_iff.1 hu).1]
              exact hu
            refine wp_val hs (vv := .slice A hh.toNat cap) ?_ (ret_get h) (.rsl (cs := cs.take (hh.toNat * sz)) ?_ hrt ?_ hA0 ?_ (fun x hx => hone x (List.mem_of_mem_take hx)) (fun hne => ?_) (fun j u x hu hx => ?_))
            · simp only [execOp, ho, e1, e2, Option.map_none, Option.map_some]
              have hle : hh ≤ (cap : Int) := by omega
              simp [Instr.sliceAt, Instr.slice, run_underlying hd, Instr.sliceBounds, Instr.sliceBound, asIntOf, hb.1, hle, sizeOf_run hje, map_add_zero]
            · simp only [List.length_take]; omega
            · omega
            · rw [List.length_take, hflt, List.length_take, hcs, hfl]
              rw [Nat.min_eq_left (Nat.mul_le_mul_right _ hhl), Nat.min_eq_left hhl]
            · obtain ⟨g, b, rfl, hg, hX, hcell⟩ := hA (by rintro rfl; simp at hne)
              refine ⟨g, b, rfl, hg, hX, fun j x hx => hcell j x ?_⟩
              rw [List.getElem?_take] at hx
              split at hx
              · exact hx
              · cases hx
            · rw [List.getElem?_take] at hx
              split at hx
              · exact hv j u x (hpre j u hu) hx
              · cases hx
          · exact h.elim
        · rename_i sz n rows k ll hx hlo hhi
          cases hi with
          | some hi => cases hhi
          | none =>
          cases lo with
          | none => cases hlo
          | some lo =>
          injection hlo with hlo
          have e2 := hval.int hlo
          split at h
          · rename_i hsz
            have hsz := beq_true hsz
            obtain ⟨hb, h⟩ := h
            obtain ⟨A, cap, e1, hn, hr, hcap, hA0, cs, hcs, hone, hA, hv⟩ := VR.rsl_inv (hval.at hx)
            have hfl := flat_len hr
            have hrt : ∀ row ∈ rows.drop ll.toNat, row.length = sz := fun row hr' => hr row (List.mem_of_mem_drop hr')
            have hflt := flat_len hrt
            have hhl : ll.toNat ≤ rows.length := by omega
            have hpre : ∀ (j : Nat), (rows.drop ll.toNat).flatten[j]? = rows.flatten[ll.toNat * sz + j]? := by
              intro j
              have : rows = rows.take ll.toNat ++ rows.drop ll.toNat := (List.take_append_drop _ _).symm
              have hl1 : (rows.take ll.toNat).flatten.length = ll.toNat * sz := by
                rw [flat_len (sz := sz) fun row hr' => hr row (List.mem_of_mem_take hr'), List.length_take, Nat.min_eq_left hhl]
              conv => rhs; rw [this, List.flatten_append, List.getElem?_append_right (by omega), hl1]
              congr 1; omega
            refine wp_val hs (vv := .slice (if cap = ll.toNat then A else A.map (·.add (ll.toNat * sz))) (n - ll.toNat) (cap - ll.toNat)) ?_ (ret_get h) (.rsl (cs := cs.drop (ll.toNat * sz)) ?_ hrt ?_ ?_ ?_ (fun x hx => hone x (List.mem_of_mem_drop hx)) (fun hne => ?_) (fun j u x hu hx => ?_))
            · simp only [execOp, ho, e1, e2, Option.map_none, Option.map_some]
              have hle : ll ≤ (n : Int) := by omega
              simp [Instr.sliceAt, Instr.slice, run_underlying hd, Instr.sliceBounds, Instr.sliceBound, asIntOf, hb.1, hle, sizeOf_run hje, hjs, hsz]
            · simp only [List.length_drop]; omega
            · omega
            · intro hnone
              split at hnone
              · omega
              · have := hA0 (by simpa using hnone); omega
            · rw [List.length_drop, hflt, List.length_drop, hcs, hfl, Nat.sub_mul]
            · have hne' : ll.toNat < rows.length := by
                rcases Nat.lt_or_ge ll.toNat rows.length with h' | h'
                · exact h'
                · exact absurd (List.drop_eq_nil_of_le h') hne
              obtain ⟨g, b, rfl, hg, hX, hcell⟩ := hA (by rintro rfl; simp at hne)
              rw [if_neg (by omega)]
              refine ⟨g, b + ll.toNat * sz, by simp [addr_add], hg, hX, fun j x hx => ?_⟩
              rw [List.getElem?_drop] at hx
              rw [Nat.add_assoc]
              exact hcell _ x hx
            · rw [List.getElem?_drop] at hx
              rw [hpre] at hu
              exact hv _ u x hu hx
          · exact h.elim
        · rename_i b sz n k hh hx hlo hhi
          cases hi with
          | none => cases hhi
          | some hi =>
          cases lo with
          | some lo => cases hlo
          | none =>
          injection hhi with hhi
          have e2 := hval.int hhi
          split at h
          · rename_i hsz
            have hsz := beq_true hsz
            obtain ⟨hb, h⟩ := h
            rcases VR.osl_inv (hval.at hx) with ⟨hK, hz, e1⟩ | ⟨g, cap, cur, e', m, hK, hnm, e1, hc, hnc, hm, hcur⟩
            · subst hz
              have hh0 : hh = 0 := by omega
              subst hh0
              refine wp_val hs (vv := .slice none 0 0) ?_ (ret_get h) (.oslnil hK)
              simp only [execOp, ho, e1, e2, Option.map_none, Option.map_some]
              simp [Instr.sliceAt, Instr.slice, run_underlying hd, Instr.sliceBounds, Instr.sliceBound, asIntOf, sizeOf_run hje]
            · refine wp_val hs (vv := .slice (some ⟨g, 0, none⟩) hh.toNat cap) ?_ (ret_get h) (.osl hK (by omega) hc (by omega) hm hcur)
              simp only [execOp, ho, e1, e2, Option.map_none, Option.map_some]
              have hle : hh ≤ (cap : Int) := by omega
              simp [Instr.sliceAt, Instr.slice, run_underlying hd, Instr.sliceBounds, Instr.sliceBound, asIntOf, hb.1, hle, sizeOf_run hje, addr_add]
          · exact h.elim
        · rename_i b sz n k ll hx hlo hhi
          cases hi with
          | some hi => cases hhi
          | none =>
          cases lo with
          | none => cases hlo
          | some lo =>
          injection hlo with hlo
          have e2 := hval.int hlo
          split at h
          · rename_i hsz
            have hsz := beq_true hsz
            obtain ⟨hb, h⟩ := h
            rcases VR.osl_inv (hval.at hx) with ⟨hK, hz, e1⟩ | ⟨g, cap, cur, e', m, hK, hnm, e1, hc, hnc, hm, hcur⟩
            · subst hz
              have hh0 : ll = 0 := by omega
              subst hh0
              refine wp_val hs (vv := .slice none 0 0) ?_ (ret_get h) (.osuf (fun h => by omega) (fun h => by omega))
              simp only [execOp, ho, e1, e2, Option.map_none, Option.map_some]
              simp [Instr.sliceAt, Instr.slice, run_underlying hd, Instr.sliceBounds, Instr.sliceBound, asIntOf, sizeOf_run hje]
            · refine wp_val hs (vv := .slice (if cap = ll.toNat then some ⟨g, 0, none⟩ else some ⟨g, ll.toNat * sz, none⟩) (n - ll.toNat) (cap - ll.toNat)) ?_ (ret_get h) (.osuf (fun hp => ⟨g, m, hK, by omega, by rw [if_neg (by omega)]⟩) (fun hp => ⟨by omega, by omega, g, ll.toNat * sz, cur, e', by rw [if_neg (by omega)], hc, by rw [← hcur, ← Nat.add_mul]; congr 1; omega⟩))
              simp only [execOp, ho, e1, e2, Option.map_none, Option.map_some]
              have hle : ll ≤ (n : Int) := hb.2
              simp [Instr.sliceAt, Instr.slice, run_underlying hd, Instr.sliceBounds, Instr.sliceBound, asIntOf, hb.1, hle, sizeOf_run hje, hjs, hsz, addr_add]
          · exact h.elim
        · rename_i b sz lo0 n k ll hx hlo hhi
          cases hi with
          | some hi => cases hhi
          | none =>
          cases lo with
          | none => cases hlo
          | some lo =>
          injection hlo with hlo
          have e2 := hval.int hlo
          split at h
          · rename_i hsz
            have hsz := beq_true hsz
            obtain ⟨⟨hb0, hb1, hn0⟩, h⟩ := h
            obtain ⟨A, cap, e1, hA, hC⟩ := VR.osuf_inv2 (hval.at hx)
            obtain ⟨g, m, hK, hm1, rfl⟩ := hA hn0
            obtain ⟨hncap, hcapm, g', o', cur, e', hAe, hc, hcur⟩ := hC hn0
            injection hAe with hAe; injection hAe with hg ho'; subst hg ho'
            refine wp_val hs (vv := .slice (if cap = ll.toNat then some ⟨g, lo0 * sz, none⟩ else some ⟨g, lo0 * sz + ll.toNat * sz, none⟩) (n - ll.toNat) (cap - ll.toNat)) ?_ (ret_get h)
              (.osuf (fun hp => ⟨g, m, hK, by omega, by rw [if_neg (by omega), Nat.add_mul]⟩) (fun hp => ⟨by omega, by omega, g, lo0 * sz + ll.toNat * sz, cur, e', by rw [if_neg (by omega)], hc, by rw [← hcur, Nat.add_assoc, ← Nat.add_mul]; congr 2; omega⟩))
            simp only [execOp, ho, e1, e2, Option.map_none, Option.map_some]
            have hle : ll ≤ (n : Int) := hb1
            simp [Instr.sliceAt, Instr.slice, run_underlying hd, Instr.sliceBounds, Instr.sliceBound, asIntOf, hb0, hle, sizeOf_run hje, hjs, hsz, addr_add]
          · exact h.elim
        · exact h.elim
      · exact h.elim
    · exact h.elim
  · exact h.elim
theorem flat_le {w : World} {X : Nat → Prop} {K : KM} {g : Nat} {blk : OBlk} {cur : Array Value} (hrows : ∀ row ∈ blk.rows, row.length = blk.sz)
    (hu : ∀ (j : Nat) u, blk.rows.flatten[j]? = some u → ∃ x, cur[j]? = some x ∧ x.oneCell' = true ∧ VR w X K u x) : blk.rows.length * blk.sz ≤ cur.size := by
  have hflat := flat_len hrows
  by_cases h0 : blk.rows.flatten.length = 0
  · omega
  · obtain ⟨y, hy, _⟩ := hu (blk.rows.flatten.length - 1) _ (List.getElem?_eq_getElem (by omega))
    have := (Array.getElem?_eq_some_iff.1 hy).1
    omega
theorem s_cut (hT : TabOK P T) (hs : SRK E K c a w) (hval : Vals E K c a w val) {t : TypeId} {x : Operand} {lo hi : Option Operand} (ho : o.op = .slice t x lo hi none)
    (h : (cutA T (olk c.O) t (val x) (lo.map val) (hi.map val)).holds P (· = r)) : o.wp P a w (OpPost E c r a o.dst) NoQ := by
  unfold cutA at h
  split at h
  · rename_i ti hti
    split at h
    · rename_i e hk
      obtain ⟨⟨d, hd, hdk⟩, _⟩ := hT.get hti
      rw [hk] at hdk
      have := of_slice hdk
      subst this
      split at h
      · rename_i ei hei
        obtain ⟨_, ⟨je, hje, _, hjs, _⟩, _⟩ := hT.get hei
        split at h
        · rename_i b sz n k ll k' hh hx hlo hhi
          cases hi with
          | none => cases hhi
          | some hi =>
          cases lo with
          | none => cases hlo
          | some lo =>
          injection hlo with hlo
          injection hhi with hhi
          have e2 := hval.int hlo
          have e3 := hval.int hhi
          split at h
          · rename_i blk hb
            split at h
            · rename_i hsz hbsz hpos
              have hsz := beq_true hsz
              have hbsz := beq_true hbsz
              have hpos := Nat.le_of_ble_eq_true hpos
              obtain ⟨⟨h0, hlh, hhr⟩, h⟩ := h
              have h3 : (0 : Int) ≤ hh := by omega
              rcases VR.osl_inv (hval.at hx) with ⟨hK, hz, e1⟩ | ⟨g, cap, cur, e', m, hK, hnm, e1, hc, hnc, hm, hcur⟩
              · rcases hs.own b blk hb with ⟨k1, k2⟩ | ⟨g', k1, _⟩
                · rw [k2] at hhr
                  have hh0 : hh = 0 := by simp at hhr; omega
                  have ll0 : ll = 0 := by omega
                  subst hh0 ll0
                  refine wp_val hs (vv := .slice none 0 0) ?_ (ret_get h) (.osuf (fun h => by simp at h) (fun h => by simp at h))
                  simp only [execOp, ho, e1, e2, e3, Option.map_some, Option.map_none]
                  simp [Instr.sliceAt, Instr.slice, run_underlying hd, Instr.sliceBounds, Instr.sliceBound, asIntOf, sizeOf_run hje]
                · rw [hK] at k1; cases k1
              · rcases hs.own b blk hb with ⟨k1, _⟩ | ⟨g', k1, cur', hc', hu⟩
                · rw [hK] at k1; cases k1
                · have hkk := hK
                  rw [hK] at k1; injection k1 with k1; injection k1 with k1 k2; injection k1 with k1; subst k1 k2
                  replace hc' := hc'.of_obj hc; rw [hc] at hc'; injection hc' with hc'; injection hc' with h1 h2; subst h1
                  have hfl := flat_le (g := g) (hs.rows b blk hb) hu
                  have hcap : blk.rows.length ≤ cap := by
                    rw [← hcur, ← hbsz] at hfl
                    exact Nat.le_of_mul_le_mul_right hfl (by omega)
                  refine wp_val hs (vv := .slice (if cap = ll.toNat then some ⟨g, 0, none⟩ else some ⟨g, ll.toNat * sz, none⟩) (hh.toNat - ll.toNat) (cap - ll.toNat)) ?_ (ret_get h) (.osuf (fun hp => ⟨g, _, hkk, by omega, by rw [if_neg (by omega)]⟩) (fun hp => ⟨by omega, by omega, g, ll.toNat * sz, cur, e', by rw [if_neg (by omega)], hc, by rw [← hcur, ← Nat.add_mul]; congr 1; omega⟩))
                  simp only [execOp, ho, e1, e2, e3, Option.map_some, Option.map_none]
                  have hle : hh ≤ (cap : Int) := by omega
                  simp [Instr.sliceAt, Instr.slice, run_underlying hd, Instr.sliceBounds, Instr.sliceBound, asIntOf, h0, h3, hle, sizeOf_run hje, hjs, hsz, addr_add]
                  intro hc; omega
            · exact h.elim
          · exact h.elim
        · exact h.elim
      · exact h.elim
    · exact h.elim
  · exact h.elim
theorem s_cut3 (hT : TabOK P T) (hs : SRK E K c a w) (hval : Vals E K c a w val) {t : TypeId} {x lo hi mx : Operand} (ho : o.op = .slice t x (some lo) (some hi) (some mx))
    (h : (cut3A T t (val x) (val lo) (val hi) (val mx)).holds P (· = r)) : o.wp P a w (OpPost E c r a o.dst) NoQ := by
  unfold cut3A at h
  split at h
  · rename_i ti hti
    split at h
    · rename_i e hk
      obtain ⟨⟨d, hd, hdk⟩, _⟩ := hT.get hti
      rw [hk] at hdk
      have := of_slice hdk
      subst this
      split at h
      · rename_i ei hei
        obtain ⟨_, ⟨je, hje, _, hjs, _⟩, _⟩ := hT.get hei
        split at h
        · rename_i b sz n k ll k' hh k'' mm hx hlo hhi hmx
          have e2 := hval.int hlo
          have e3 := hval.int hhi
          have e4 := hval.int hmx
          obtain ⟨⟨h0, hlh, hhm, hmn⟩, h⟩ := h
          have h3 : (0 : Int) ≤ hh := by omega
          have h4 : (0 : Int) ≤ mm := by omega
          rcases VR.osl_inv (hval.at hx) with ⟨hK, hz, e1⟩ | ⟨g, cap, cur, e', m, hK, hnm, e1, hc, hnc, hm, hcur⟩
          · subst hz
            have hh0 : hh = 0 := by omega
            have ll0 : ll = 0 := by omega
            have mm0 : mm = 0 := by omega
            subst hh0 ll0 mm0
            refine wp_val hs (vv := .slice none 0 0) ?_ (ret_get h) .top
            simp only [execOp, ho, e1, e2, e3, e4, Option.map_some]
            simp [Instr.sliceAt, Instr.slice, run_underlying hd, Instr.sliceBounds, Instr.sliceBound, asIntOf, sizeOf_run hje]
          · refine wp_val hs (vv := .slice (if mm.toNat = ll.toNat then some ⟨g, 0, none⟩ else some ⟨g, ll.toNat * ei.size, none⟩) (hh.toNat - ll.toNat) (mm.toNat - ll.toNat)) ?_ (ret_get h) .top
            simp only [execOp, ho, e1, e2, e3, e4, Option.map_some]
            have hle : mm ≤ (cap : Int) := by omega
            simp [Instr.sliceAt, Instr.slice, run_underlying hd, Instr.sliceBounds, Instr.sliceBound, asIntOf, h0, h3, h4, hle, sizeOf_run hje, hjs, addr_add]
            rw [if_pos (by omega), if_pos (by omega)]
        · exact h.elim
      · exact h.elim
    · exact h.elim
  · exact h.elim
end
end Go.Abs
end
section
namespace Go.Abs
open Go.RowKit
set_option linter.unusedVariables false

theorem foldI_min {P : Program} {w : World} {k : IntKind} : ∀ {r : List AV} {a m : Int} {vs : List Value}, foldI minI k a r = some m → r.length = vs.length → (∀ (j : Nat) u v, r[j]? = some u → vs[j]? = some v → ∀ k n, u = .int k n → v = .int k n) →
    (vs.foldlM Builtin.min2 (.int k a)).run P w = .ok (.int k m) w
  | [], a, m, [], h, _, _ => by simp [foldI] at h; subst h; simp
  | u :: us, a, m, v :: vs, h, hl, hv => by
    cases u <;> simp only [foldI] at h
    case int k' b =>
      split at h
      · rename_i hk
        have := kindEq_iff hk
        subst this
        have e := hv 0 (.int k b) v (by simp) (by simp) k b rfl
        subst e
        have ih := foldI_min (P := P) (w := w) h (by simpa using hl) (fun j u v h1 h2 => hv (j + 1) u v (by simpa using h1) (by simpa using h2))
        simp only [List.foldlM_cons, Builtin.min2, Sem.run_bind, Sem.run_pure, Result.andThen_ok]
        exact ih
      · cases h
    all_goals cases h
  | [], _, _, _ :: _, _, h, _ => by simp at h
  | _ :: _, _, _, [], _, h, _ => by simp at h
theorem foldI_max {P : Program} {w : World} {k : IntKind} : ∀ {r : List AV} {a m : Int} {vs : List Value}, foldI maxI k a r = some m → r.length = vs.length → (∀ (j : Nat) u v, r[j]? = some u → vs[j]? = some v → ∀ k n, u = .int k n → v = .int k n) →
    (vs.foldlM Builtin.max2 (.int k a)).run P w = .ok (.int k m) w
  | [], a, m, [], h, _, _ => by simp [foldI] at h; subst h; simp
  | u :: us, a, m, v :: vs, h, hl, hv => by
    cases u <;> simp only [foldI] at h
    case int k' b =>
      split at h
      · rename_i hk
        have := kindEq_iff hk
        subst this
        have e := hv 0 (.int k b) v (by simp) (by simp) k b rfl
        subst e
        have ih := foldI_max (P := P) (w := w) h (by simpa using hl) (fun j u v h1 h2 => hv (j + 1) u v (by simpa using h1) (by simpa using h2))
        simp only [List.foldlM_cons, Builtin.max2, Sem.run_bind, Sem.run_pure, Result.andThen_ok]
        exact ih
      · cases h
    all_goals cases h
  | [], _, _, _ :: _, _, h, _ => by simp at h
  | _ :: _, _, _, [], _, h, _ => by simp at h

/-- cells of the machine's say what a list says -/
def ArrR (w : World) (X : Nat → Prop) (K : KM) (us : List AV) (vs : Array Value) : Prop :=
  us.length = vs.size ∧ (∀ (j : Nat) c, vs[j]? = some c → c.oneCell' = true) ∧ ∀ (j : Nat) u c, us[j]? = some u → vs[j]? = some c → VR w X K u c

theorem foldl_set (off : Nat) : ∀ (cs : List Value) (i : Nat) (acc : Array Value) (j : Nat), off + i + cs.length ≤ acc.size →
    ((cs.zipIdx i).foldl (fun (acc : Array Value) (p : Value × Nat) => acc.setIfInBounds (off + p.2) p.1) acc).size = acc.size ∧
    ((cs.zipIdx i).foldl (fun (acc : Array Value) (p : Value × Nat) => acc.setIfInBounds (off + p.2) p.1) acc)[j]? = if off + i ≤ j ∧ j < off + i + cs.length then cs[j - (off + i)]? else acc[j]?
  | [], i, acc, j, _ => by
    refine ⟨by simp, ?_⟩
    rw [if_neg (by simp)]
    simp
  | x :: cs, i, acc, j, h => by
    simp only [List.zipIdx_cons, List.foldl_cons]
    obtain ⟨h1, h2⟩ := foldl_set off cs (i + 1) (acc.setIfInBounds (off + i) x) j (by simp at h ⊢; omega)
    refine ⟨by rw [h1]; simp, ?_⟩
    rw [h2]
    simp only [List.length_cons]
    by_cases e : off + (i + 1) ≤ j ∧ j < off + (i + 1) + cs.length
    · rw [if_pos e, if_pos (by omega)]
      rw [show j - (off + i) = (j - (off + (i + 1))) + 1 by omega]
      simp
    · rw [if_neg e]
      by_cases e2 : j = off + i
      · subst e2
        rw [if_pos (by omega)]
        simp at h
        simp [show off + i < acc.size by omega]
      · rw [if_neg (by omega)]
        simp [Ne.symm e2]

section
variable {P : Program} {T : Tab} {E : Env} {K : KM} {c : Cfg} {a : Act} {w : World} {o : Oper} {r : Res} {val : Operand → AV} {X : Nat → Prop}

theorem map_vals (hval : Vals E K c a w val) (args : Array Operand) : (args.toList.map val).length = (args.map a.eval).toList.length ∧ ∀ (j : Nat) u v, (args.toList.map val)[j]? = some u → (args.map a.eval).toList[j]? = some v → FV w (XX E K c.O) K a.tmps u v := by
  refine ⟨by simp, fun j u v hu hv => ?_⟩
  simp only [List.getElem?_map, Array.getElem?_toList] at hu
  simp only [Array.toList_map, List.getElem?_map, Array.getElem?_toList] at hv
  cases hx : args[j]? with
  | none => rw [hx] at hu; cases hu
  | some x =>
    rw [hx] at hu hv
    injection hu with hu; injection hv with hv
    subst hu hv
    exact hval x

theorem s_min (hs : SRK E K c a w) (hval : Vals E K c a w val) {args : Array Operand} {ts : Array TypeId} (ho : o.op = .call { callee := .builtin .min, args := args, argTypes := ts })
    (h : Ans.holds P (match args.toList.map val with
    | .int k a :: r => match foldI minI k a r with | some m => retV (.int k m) | none => .no
    | _ => .no) (· = r)) : o.wp P a w (OpPost E c r a o.dst) NoQ := by
  split at h
  · rename_i k n us hus
    split at h
    · rename_i m hm
      obtain ⟨hl, hv⟩ := map_vals hval args
      rw [hus] at hl hv
      cases hvs : (args.map a.eval).toList with
      | nil => rw [hvs] at hl; simp at hl
      | cons v vs =>
        rw [hvs] at hl hv
        have e0 : v = .int k n := VR.int_inv (show VR w (XX E K c.O) K (.int k n) v from hv 0 (.int k n) v (by simp) (by simp))
        have hrun := foldI_min (P := P) (w := w) hm (by simpa using hl) (fun j u v' h1 h2 k n e => by
          have := hv (j + 1) u v' (by simpa using h1) (by simpa using h2)
          subst e
          exact VR.int_inv this)
        refine wp_val hs (vv := .int k m) ?_ (ret_get h) .int
        simp only [execOp, ho, resolve, invoke, builtin, Sem.run_bind, Sem.run_pure, Result.andThen_ok, Builtin.min_, hvs, e0, hrun]
    · exact h.elim
  · exact h.elim
theorem s_max (hs : SRK E K c a w) (hval : Vals E K c a w val) {args : Array Operand} {ts : Array TypeId} (ho : o.op = .call { callee := .builtin .max, args := args, argTypes := ts })
    (h : Ans.holds P (match args.toList.map val with
    | .int k a :: r => match foldI maxI k a r with | some m => retV (.int k m) | none => .no
    | _ => .no) (· = r)) : o.wp P a w (OpPost E c r a o.dst) NoQ := by
  split at h
  · rename_i k n us hus
    split at h
    · rename_i m hm
      obtain ⟨hl, hv⟩ := map_vals hval args
      rw [hus] at hl hv
      cases hvs : (args.map a.eval).toList with
      | nil => rw [hvs] at hl; simp at hl
      | cons v vs =>
        rw [hvs] at hl hv
        have e0 : v = .int k n := VR.int_inv (show VR w (XX E K c.O) K (.int k n) v from hv 0 (.int k n) v (by simp) (by simp))
        have hrun := foldI_max (P := P) (w := w) hm (by simpa using hl) (fun j u v' h1 h2 k n e => by
          have := hv (j + 1) u v' (by simpa using h1) (by simpa using h2)
          subst e
          exact VR.int_inv this)
        refine wp_val hs (vv := .int k m) ?_ (ret_get h) .int
        simp only [execOp, ho, resolve, invoke, builtin, Sem.run_bind, Sem.run_pure, Result.andThen_ok, Builtin.max_, hvs, e0, hrun]
    · exact h.elim
  · exact h.elim

theorem fill_sound (hval : Vals E K c a w val) {place place' : Nat → Option (Nat × Nat)} (hpl : ∀ i x, place i = some x → place' i = some x) :
    ∀ {parts : List (Nat × Operand)} {row row' : List AV} {cells : Array Value}, fillE place val parts row = some row' → ArrR w (XX E K c.O) K row cells →
      ∃ cells', Instr.fill place' cells (parts.map fun (i, x) => (i, a.eval x)) = some cells' ∧ ArrR w (XX E K c.O) K row' cells'
  | [], row, row', cells, h, hr => by
    simp only [fillE] at h
    injection h with h
    subst h
    exact ⟨cells, rfl, hr⟩
  | (i, x) :: parts, row, row', cells, h, hr => by
    simp only [fillE] at h
    split at h
    · cases h
    · rename_i off size hp
      split at h
      · cases h
      · rename_i cs hcs
        split at h
        · rename_i hl hb
          have hl := beq_true hl
          have hb := Nat.le_of_ble_eq_true hb
          split at h
          · rename_i row1 hsp
            obtain ⟨hlen, hget⟩ := spliceE_get hsp
            have hv0 : VR w (XX E K c.O) K (val x) (a.eval x) := (hval x).vr (by rintro d want u e; rw [e] at hcs; cases hcs)
            obtain ⟨h1, h2, h3⟩ := cellsOf_sound hcs hv0
            simp only [List.map_cons, Instr.fill, hpl i _ hp]
            obtain ⟨r1, r2, r3⟩ := hr
            rw [if_neg (by simp [h1, hl]; omega)]
            refine fill_sound hval hpl h ?_
            have fs := fun j => foldl_set off (a.eval x).cells.toList 0 cells j (by simp; omega)
            simp only [Nat.add_zero] at fs
            have heq : (Array.foldl (fun (acc : Array Value) (p : Value × Nat) => acc.setIfInBounds (off + p.2) p.1) cells (a.eval x).cells.zipIdx) = ((a.eval x).cells.toList.zipIdx 0).foldl (fun (acc : Array Value) (p : Value × Nat) => acc.setIfInBounds (off + p.2) p.1) cells := by
              rw [← Array.foldl_toList]; simp
            have hget' : ∀ j, (Array.foldl (fun (acc : Array Value) (p : Value × Nat) => acc.setIfInBounds (off + p.2) p.1) cells (a.eval x).cells.zipIdx)[j]? = if off ≤ j ∧ j < off + (a.eval x).cells.size then (a.eval x).cells[j - off]? else cells[j]? := by
              intro j
              rw [heq, (fs j).2]
              simp
            have hsize : (Array.foldl (fun (acc : Array Value) (p : Value × Nat) => acc.setIfInBounds (off + p.2) p.1) cells (a.eval x).cells.zipIdx).size = cells.size := by
              rw [heq]; exact (fs 0).1
            refine ⟨by rw [hlen, r1]; exact hsize.symm, fun j y hy => ?_, fun j u y hu hy => ?_⟩
            · have hy := (hget' j).symm.trans hy
              split at hy
              · exact h2 _ y hy
              · exact r2 _ y hy
            · have hy := (hget' j).symm.trans hy
              rw [hget] at hu
              by_cases e : off ≤ j ∧ j < off + cs.length
              · rw [if_pos e] at hu
                rw [if_pos (by omega)] at hy
                exact h3 _ u y hu hy
              · rw [if_neg e] at hu
                rw [if_neg (by omega)] at hy
                exact r3 _ u y hu hy
          · cases h
        · cases h
end
end Go.Abs
end
