import Derived.Test.YtjpcpnakcapojaaA1
import Derived.Laws.MakeOwn
import Derived.Laws.CopyRow
namespace Go.Abs
section
open Go.RowKit
set_option linter.unusedVariables false

mutual
theorem has_idless (b : Nat) : ∀ u : AV, u.idless = true → u.has b = false
  | .top, _ => rfl
  | .bool _, _ => rfl
  | .int _ _, _ => rfl
  | .str _, _ => rfl
  | .nilsl, _ => rfl
  | .nilfn, _ => rfl
  | .esl, _ => rfl
  | .und, _ => rfl
  | .lit _, _ => rfl
  | .rsl _ _ _, _ => rfl
  | .rptr _ _, _ => rfl
  | .osl _ _ _, h => by simp [AV.idless] at h
  | .osuf _ _ _ _, h => by simp [AV.idless] at h
  | .ovar _ _, h => by simp [AV.idless] at h
  | .optr _ _ _ _, h => by simp [AV.idless] at h
  | .fsl _ _ _ _ _, h => by simp [AV.idless] at h
  | .agg xs, h => by simp only [AV.idless] at h; simp only [AV.has]; exact hasL_idless b xs h
  | .tup xs, h => by simp only [AV.idless] at h; simp only [AV.has]; exact hasL_idless b xs h
  | .func _ xs, h => by simp only [AV.idless] at h; simp only [AV.has]; exact hasL_idless b xs h
  | .opt _ _ _, h => by simp [AV.idless] at h
theorem hasL_idless (b : Nat) : ∀ xs : List AV, AV.idlessL xs = true → AV.hasL b xs = false
  | [], _ => rfl
  | x :: xs, h => by
    simp only [AV.idlessL, Bool.and_eq_true] at h
    simp only [AV.hasL, Bool.or_eq_false_iff]
    exact ⟨has_idless b x h.1, hasL_idless b xs h.2⟩
end
theorem scalar_idless {u : AV} (h : u.scalar = true) : u.idless = true := by cases u <;> simp [AV.scalar] at h <;> simp [AV.idless]
theorem hasL_get {b : Nat} {xs : List AV} {j : Nat} {u : AV} (h : AV.hasL b xs = false) (hj : xs[j]? = some u) : u.has b = false := by
  cases hu : u.has b
  · rfl
  · exact absurd (AV.hasL_of hj hu) (by rw [h]; simp)
theorem cellsOf_has {b : Nat} {u : AV} {cs : List AV} (hc : u.cellsOf = some cs) (h : u.has b = false) {j : Nat} {x : AV} (hj : cs[j]? = some x) : x.has b = false := by
  have one : some [u] = some cs → x.has b = false := by
    intro e; injection e with e; subst e
    cases j with
    | zero => simp at hj; subst hj; exact h
    | succ j => simp at hj
  cases u <;> simp only [AV.cellsOf] at hc
  case agg xs => injection hc with hc; subst hc; simp only [AV.has] at h; exact hasL_get h hj
  case top => cases hc
  case und => cases hc
  case lit => cases hc
  case osuf => cases hc
  case tup => cases hc
  case opt => cases hc
  case fsl => cases hc
  all_goals exact one hc

theorem ofCell_sound (w : World) (X : Nat → Prop) (K : KM) (v : Value) : VR w X K (AV.ofCell v) v := by
  unfold AV.ofCell
  split
  · exact .bool
  · exact .int
  · exact .str
  · exact .nilsl
  · exact .nilfn
  · exact .top
theorem ofCell_idless (v : Value) : (AV.ofCell v).idless = true := by
  unfold AV.ofCell
  split <;> rfl
theorem ofCell_noopt (v : Value) : ∀ d want u, AV.ofCell v ≠ .opt d want u := by
  intro d want u
  unfold AV.ofCell
  split <;> simp
theorem ofVal_sound (w : World) (X : Nat → Prop) (K : KM) (v : Value) (h : oneCells v = true) : VR w X K (AV.ofVal v) v := by
  unfold AV.ofVal
  split
  · rename_i cs
    refine .agg (by simp) (fun j c hc => ?_) (fun j u c hu hc => ?_)
    · simp only [oneCells, List.all_eq_true] at h
      exact h c (Array.mem_toList_iff.2 (Array.mem_of_getElem? hc))
    · simp only [List.getElem?_map, Array.getElem?_toList, hc, Option.map_some, Option.some.injEq] at hu
      subst hu
      exact ofCell_sound w X K c
  · exact ofCell_sound w X K v
theorem idlessL_map (cs : List Value) : AV.idlessL (cs.map AV.ofCell) = true := by
  induction cs with
  | nil => rfl
  | cons x xs ih => simp only [List.map_cons, AV.idlessL, ofCell_idless, ih, Bool.and_true]
theorem ofVal_idless (v : Value) : (AV.ofVal v).idless = true := by
  unfold AV.ofVal
  split
  · simp only [AV.idless]; exact idlessL_map _
  · exact ofCell_idless v
theorem ofVal_noopt (v : Value) : ∀ d want u, AV.ofVal v ≠ .opt d want u := by
  intro d want u
  unfold AV.ofVal
  split
  · simp
  · exact ofCell_noopt v d want u

section
variable {P : Program} {T : Tab} {E : Env} {K : KM} {c : Cfg} {a : Act} {w : World} {o : Oper} {r : Res} {val : Operand → AV} {X : Nat → Prop}

theorem fresh_of {b : Nat} (h : fresh b c = true) : olk c.O b = none ∧ (∀ t, (lk c.fr t).has b = false) ∧ ∀ i x, olk c.O i = some x → x.kd = .any → hasRow b x.rows = false := by
  simp only [fresh, Bool.and_eq_true] at h
  replace h := h.1
  refine ⟨?_, fun t => freshF_lk t h.1, fun i x hi hk => (freshO_olk h.2 hi).2 hk⟩
  cases hb : olk c.O b with
  | none => rfl
  | some x => exact absurd rfl (freshO_olk h.2 hb).1
theorem fresh_pin {b : Nat} (h : fresh b c = true) : Nat.ble (b % 16) 1 = true := by
  simp only [fresh, Bool.and_eq_true] at h
  exact h.2
theorem freshD_one {b : Nat} {blk : OBlk} (h : freshD c true [(b, blk)] = true) : fresh b c = true := by
  unfold freshD at h
  simp only at h
  split at h
  · assumption
  · cases h

/-- A new block of one's own. -/
theorem bind_new (hs : SRK E K c a w) {b : Nat} {blk : OBlk} (hf : fresh b c = true) {w1 : World} (hst : Step (fun _ => False) w w1) {g : Nat} (hg : w.heap.size ≤ g)
    (hrows : ∀ row ∈ blk.rows, row.length = blk.sz) {cur : Array Value} (hc : w1.heap[g]? = some (.cells cur blk.e (0, 0)))
    (hu : ∀ (j : Nat) u, blk.rows.flatten[j]? = some u → (blk.kd = .any → u.has b = false) ∧ ∃ x, cur[j]? = some x ∧ x.oneCell' = true ∧ VR w1 (KdX blk.kd fun h => XX E K c.O h ∨ h = g) (KdK blk.kd K) u x) :
    SRK E (upd K b (some g, blk.rows.length)) ⟨c.fr, setO b blk c.O⟩ a w1 := by
  obtain ⟨h1, h2, h3⟩ := fresh_of hf
  refine hs.rebind (fresh_pin hf) (hst.mono fun _ _ h => h.elim) h2 (fun i x hi _ hk => h3 i x hi hk) (.inl hg) hrows ⟨cur, hc, fun j u hj => ?_⟩
  obtain ⟨hb, x, hx, h1x, hv⟩ := hu j u hj
  refine ⟨x, hx, h1x, hv.keep (Keep.refl _ _) ?_ fun i hi => ?_⟩
  · refine KdX_sub fun r hr hX => ?_
    rcases hX with ⟨i, hi, hk⟩ | hX
    · by_cases e : i = b
      · subst e; rw [upd_blk] at hk; injection hk with hk; exact .inr hk.symm
      · rw [upd_blk_other _ _ e] at hk
        rw [olk_setO, if_neg (fun e' => e e'.symm)] at hi
        exact .inl (.inl ⟨i, hi, hk⟩)
    · exact .inl (.inr hX)
  · cases hk : blk.kd
    · rfl
    · rfl
    · exact upd_other _ _ (by rintro rfl; rw [hb hk] at hi; cases hi)

theorem wp_new {w' : World} {K' : KM} {v : AV} {vv : Value} {D : List (Nat × OBlk)} {nw : Bool} (hrun : (execOp a.eval o).run P w = .ok (.value vv) w') (hr : { v := v, D := D, nw := nw } = r) (hs' : SRK E K' ⟨c.fr, setD D c.O⟩ a w')
    (hv : VR w' (XX E K' (setD D c.O)) K' v vv) : o.wp P a w (OpPost E c r a o.dst) NoQ := by
  subst hr
  unfold Oper.wp
  rw [hrun]
  exact ⟨K', vv, rfl, hs', hv⟩

theorem heap_new (w : World) (o : Obj) : (w.alloc o).heap[w.heap.size]? = some o := by
  show (w.heap.push o)[w.heap.size]? = some o
  simp
/-- a variable of one's own, new -/
theorem var_new (hs : SRK E K c a w) {b t sz : Nat} {cs : List AV} {v : Value} (hf : fresh b c = true) (hl : cs.length = sz) (h1 : v.cells.size = cs.length) (h2 : ∀ (j : Nat) x, v.cells[j]? = some x → x.oneCell' = true)
    (h3 : ∀ (j : Nat) x y, cs[j]? = some x → v.cells[j]? = some y → VR w (XX E K c.O) K x y) (h4 : ∀ (j : Nat) x, cs[j]? = some x → x.has b = false) :
    SRK E (upd K b (some w.heap.size, 1)) ⟨c.fr, setO b { e := t, sz := sz, kd := .any, rows := [cs] } c.O⟩ a (w.alloc (.cells v.cells t)) := by
  have hst := Step.alloc (fun _ => False) w (.cells v.cells t)
  refine bind_new (blk := { e := t, sz := sz, kd := .any, rows := [cs] }) hs hf hst (Nat.le_refl _) (by simpa using hl) (heap_new w _) fun j u hj => ?_
  simp only [List.flatten_cons, List.flatten_nil, List.append_nil] at hj
  have hlt : j < v.cells.size := by have := (List.getElem?_eq_some_iff.1 hj).1; omega
  have hy : v.cells[j]? = some v.cells[j] := by simp [hlt]
  refine ⟨fun _ => h4 j u hj, v.cells[j], hy, h2 j _ hy, ?_⟩
  refine VR.keep (h3 j u _ hj hy) (hst.keep.mono fun _ _ h => h.elim) (fun g hg hX => ?_) (fun _ _ => rfl)
  rcases hX with hX | rfl
  · exact hX
  · omega

theorem s_alloc (hT : TabOK P T) (hs : SRK E K c a w) {t : TypeId} (ho : o.op = .alloc t) (hone : ∀ i, T.get t = some i → oneCells i.zero = true) (hf : freshD c r.nw r.D = true)
    (h : Ans.holds P (match T.get t with
    | some i => match (AV.ofVal i.zero).cellsOf with
      | some cs => match Nat.beq cs.length i.size with
        | true => .ret { v := .ovar (idOf o.dst 0) 0, D := [(idOf o.dst 0, { e := t, sz := i.size, kd := .any, rows := [cs] })], nw := true }
        | false => .no
      | none => .no
    | none => .no) (· = r)) : o.wp P a w (OpPost E c r a o.dst) NoQ := by
  split at h
  · rename_i i hi
    split at h
    · rename_i cs hcs
      split at h
      · rename_i hl
        have hl := beq_true hl
        have hr : _ = r := h
        have hf' := hf
        rw [← hr] at hf'
        have hfr := freshD_one hf'
        obtain ⟨_, ⟨j, hj, hjz, hjs, _⟩, _⟩ := hT.get hi
        have hv0 := ofVal_sound w (XX E K c.O) K i.zero (hone i hi)
        obtain ⟨h1, h2, h3⟩ := cellsOf_sound hcs hv0
        refine wp_new (vv := .pointer (some ⟨w.heap.size, 0, none⟩)) (w' := w.alloc (.cells i.zero.cells t)) ?_ hr (var_new hs hfr hl h1 h2 h3 fun j x hx => cellsOf_has hcs (has_idless _ _ (ofVal_idless _)) hx) (.ovar (upd_blk _ _ _ _))
        simp only [execOp, ho]
        simp [Instr.alloc, zeroValue, typeInfo, hj, hjz, newVar, newRow]
      · exact h.elim
    · exact h.elim
  · exact h.elim

theorem s_box (hT : TabOK P T) (hs : SRK E K c a w) (hval : Vals E K c a w val) (hhas : ∀ x b, fresh b c = true → (val x).has b = false) {t : TypeId} {x : Operand} (ho : o.op = .box t x) (hf : freshD c r.nw r.D = true)
    (h : Ans.holds P (match T.get t, (val x).cellsOf with
    | some i, some cs => match Nat.beq cs.length i.size, allFit .any cs with
      | true, true => .ret { v := .ovar (idOf o.dst 0) 0, D := [(idOf o.dst 0, { e := t, sz := i.size, kd := .any, rows := [cs] })], nw := true }
      | _, _ => .no
    | _, _ => .no) (· = r)) : o.wp P a w (OpPost E c r a o.dst) NoQ := by
  split at h
  · rename_i i cs hi hcs
    split at h
    · rename_i hl _
      have hl := beq_true hl
      have hr : _ = r := h
      have hf' := hf
      rw [← hr] at hf'
      have hfr := freshD_one hf'
      have hv0 : VR w (XX E K c.O) K (val x) (a.eval x) := (hval x).vr (by rintro d want u e; rw [e] at hcs; cases hcs)
      obtain ⟨h1, h2, h3⟩ := cellsOf_sound hcs hv0
      refine wp_new (vv := .pointer (some ⟨w.heap.size, 0, none⟩)) (w' := w.alloc (.cells (a.eval x).cells t)) ?_ hr (var_new hs hfr hl h1 h2 h3 fun j y hy => cellsOf_has hcs (hhas x _ hfr) hy) (.ovar (upd_blk _ _ _ _))
      simp only [execOp, ho]
      simp [Instr.box, newVar, newRow]
    · exact h.elim
  · exact h.elim

theorem s_indexAddr (hT : TabOK P T) (hs : SRK E K c a w) (hval : Vals E K c a w val) {t : TypeId} {x ix : Operand} (ho : o.op = .indexAddr t x ix)
    (h : Ans.holds P (match T.get t, val ix with
    | some i, .int _ j => match i.k with
      | .slice e => match T.get e, val x with
        | some ei, .rsl sz n rows => match Nat.beq sz ei.size with
          | true => .need (0 ≤ j ∧ j < n) (.exR fun row => .need (rows[j.toNat]? = some row) (retV (.rptr row 0)))
          | false => .no
        | some ei, .osl b sz n => match Nat.beq sz ei.size with
          | true => .need (0 ≤ j ∧ j < n) (retV (.optr b sz j.toNat 0))
          | false => .no
        | _, _ => .no
      | .array n e => match T.get e with
        | some ei => match constOp ix with
          | true => match decide (0 ≤ j ∧ j < n) with
            | true => match ptrAdd (val x) (j.toNat * ei.size) with | some p => retV p | none => .no
            | false => .no
          | false => .need (0 ≤ j ∧ j < n) (match ptrAdd (val x) (j.toNat * ei.size) with | some p => retV p | none => .no)
        | none => .no
      | _ => .no
    | _, _ => .no) (· = r)) : o.wp P a w (OpPost E c r a o.dst) NoQ := by
  split at h
  · rename_i i k j hi hix
    obtain ⟨⟨d, hd, hdk⟩, _⟩ := hT.get hi
    have eix := hval.int hix
    split at h
    · rename_i e hk
      rw [hk] at hdk
      have := of_slice hdk
      subst this
      split at h
      · rename_i ei sz n rows hei hx
        obtain ⟨_, ⟨je, hje, _, hjs, _⟩, _⟩ := hT.get hei
        split at h
        · rename_i hsz
          have hsz := beq_true hsz
          obtain ⟨hj, row, hrow, h⟩ := h
          obtain ⟨A, cap, e1, hn, hr, hcap, _, cs, hcs, hone, hA, hv⟩ := VR.rsl_inv (hval.at hx)
          have hlt : j.toNat < rows.length := (List.getElem?_eq_some_iff.1 hrow).1
          obtain ⟨g, b, rfl, hg, hX, hcell⟩ := hA (by rintro rfl; simp at hlt)
          have hrl : row.length = sz := hr row (List.mem_of_getElem? hrow)
          have hfl := flat_len hr
          have hmul : j.toNat * sz + sz ≤ cs.length := by
            rw [hcs, hfl]
            calc j.toNat * sz + sz = (j.toNat + 1) * sz := by rw [Nat.add_mul]; omega
              _ ≤ rows.length * sz := Nat.mul_le_mul_right _ hlt
          refine wp_val hs (vv := .pointer (some ⟨g, b + j.toNat * sz + 0, none⟩)) ?_ (ret_get h) (.rptr (cs := (cs.drop (j.toNat * sz)).take sz) ?_ ?_ hg hX ?_ ?_)
          · simp only [execOp, ho, e1, eix]
            simp [Instr.indexAt, asIntOf, run_underlying hd, sizeOf_run hje, hjs, hj, ← hsz, addr_add]
          · simp only [List.length_take, List.length_drop]; omega
          · intro x hx; exact hone x (List.mem_of_mem_drop (List.mem_of_mem_take hx))
          · intro p x hp
            rw [List.getElem?_take] at hp
            split at hp
            · rw [List.getElem?_drop] at hp
              rw [Nat.add_assoc]
              exact hcell _ x hp
            · cases hp
          · intro p u x hu hp
            rw [List.getElem?_take] at hp
            split at hp
            · rename_i hps
              rw [List.getElem?_drop] at hp
              rw [← flat_get hr hrow p hps] at hu
              exact hv _ u x hu hp
            · cases hp
        · exact h.elim
      · rename_i ei b sz n hei hx
        obtain ⟨_, ⟨je, hje, _, hjs, _⟩, _⟩ := hT.get hei
        split at h
        · rename_i hsz
          have hsz := beq_true hsz
          obtain ⟨hj, h⟩ := h
          rcases VR.osl_inv (hval.at hx) with ⟨_, hz, _⟩ | ⟨g, cap, cur, e', m, hK, _, e1, hc, hnc, _, _⟩
          · omega
          · refine wp_val hs (vv := .pointer (some ⟨g, j.toNat * sz + 0, none⟩)) ?_ (ret_get h) (.optr (blkOf_of hK))
            simp only [execOp, ho, e1, eix]
            simp [Instr.indexAt, asIntOf, run_underlying hd, sizeOf_run hje, hjs, hj, ← hsz, addr_add]
        · exact h.elim
      · exact h.elim
    · rename_i n e hk
      rw [hk] at hdk
      have := of_array hdk
      subst this
      split at h
      · rename_i ei hei
        obtain ⟨_, ⟨je, hje, _, hjs, _⟩, _⟩ := hT.get hei
        have fin : (0 ≤ j ∧ j < n) → Ans.holds P (match ptrAdd (val x) (j.toNat * ei.size) with | some p => retV p | none => .no) (· = r) → o.wp P a w (OpPost E c r a o.dst) NoQ := by
          intro hj h
          split at h
          · rename_i p hpt
            obtain ⟨g, oo, ev, hv'⟩ := ptrAdd_sound hpt ((hval x).vr (ptrAdd_noopt hpt))
            refine wp_val hs (vv := .pointer (some ⟨g, oo + j.toNat * ei.size, none⟩)) ?_ (ret_get h) hv'
            simp only [execOp, ho, ev, eix]
            simp [Instr.indexAt, asIntOf, run_underlying hd, Instr.sureAddr, sizeOf_run hje, hjs, hj, addr_add]
          · exact h.elim
        split at h
        · split at h
          · rename_i hd'; exact fin (of_decide_eq_true hd') h
          · exact h.elim
        · exact fin h.1 h.2
      · exact h.elim
    · exact h.elim
  · exact h.elim
end
end
end Go.Abs
namespace Go.Abs
section
open Go.RowKit
set_option linter.unusedVariables false

section
variable {P : Program} {T : Tab} {E : Env} {K : KM} {c : Cfg} {a : Act} {w : World} {o : Oper} {r : Res} {val : Operand → AV} {X : Nat → Prop}

theorem s_field (hT : TabOK P T) (hs : SRK E K c a w) (hval : Vals E K c a w val) {s : TypeId} {x : Operand} {f : Nat} (ho : o.op = .field s x f)
    (h : Ans.holds P (match T.get s, val x with
    | some i, .agg xs => match i.k with
      | .struct fs => match fs[f]? with
        | some (off, ft) => match T.get ft with
          | some fi => match readAt fi xs off with | some v => retV v | none => .no
          | none => .no
        | none => .no
      | _ => .no
    | _, _ => .no) (· = r)) : o.wp P a w (OpPost E c r a o.dst) NoQ := by
  split at h
  · rename_i i xs hi hx
    split at h
    · rename_i fs hk
      split at h
      · rename_i off ft hf
        split at h
        · rename_i fi hfi
          split at h
          · rename_i v hr
            obtain ⟨⟨d, hd, hdk⟩, _⟩ := hT.get hi
            rw [hk] at hdk
            obtain ⟨ff, rfl, hff⟩ := of_struct hdk
            rw [hff, List.getElem?_map] at hf
            cases hfx : ff.toList[f]? with
            | none => rw [hfx] at hf; cases hf
            | some fld =>
              rw [hfx] at hf; injection hf with hf; injection hf with e1 e2; subst e1 e2
              have hfa : ff[f]? = some fld := by simpa using hfx
              obtain ⟨⟨d', hd', hdk'⟩, ⟨j, hj, _, hjs, _⟩, _⟩ := hT.get hfi
              obtain ⟨vs, e1, l1, h1, v1⟩ := VR.agg_inv (hval.at hx)
              unfold readAt at hr
              split at hr
              · cases hr
              · rename_i ys hys
                obtain ⟨hle, rfl⟩ := dropE_spec hys
                split at hr
                · rename_i hagg
                  split at hr
                  · rename_i zs hzs
                    obtain ⟨hle2, rfl⟩ := takeE_spec hzs
                    injection hr with hr
                    subst hr
                    simp only [List.length_drop] at hle2
                    refine wp_val hs (vv := .agg (vs.extract fld.offset (fld.offset + fi.size))) ?_ (ret_get h) (.agg ?_ ?_ ?_)
                    · rw [← hdk'] at hagg
                      simp only [execOp, ho, e1]
                      simp [Instr.field, run_underlying hd, hfa, asAgg, part, isAgg_run hd', hagg, sizeOf_run hj, hjs]
                    · simp only [List.length_take, List.length_drop, Array.size_extract]; omega
                    · intro p x hp
                      rw [Array.getElem?_extract] at hp
                      split at hp
                      · exact h1 _ x hp
                      · cases hp
                    · intro p u x hu hp
                      rw [Array.getElem?_extract] at hp
                      split at hp
                      · rw [List.getElem?_take] at hu
                        split at hu
                        · rw [List.getElem?_drop] at hu
                          exact v1 _ u x hu hp
                        · cases hu
                      · cases hp
                  · cases hr
                · rename_i hagg
                  split at hr
                  · rename_i y ys hy
                    injection hr with hr
                    subst hr
                    have hg : xs[fld.offset]? = some y := by
                      have : (xs.drop fld.offset)[0]? = some y := by rw [hy]; rfl
                      rw [List.getElem?_drop] at this
                      simpa using this
                    have hlt : fld.offset < vs.size := by have := (List.getElem?_eq_some_iff.1 hg).1; omega
                    rw [← hdk'] at hagg
                    refine wp_val hs (vv := vs[fld.offset]) ?_ (ret_get h) (v1 _ y _ hg (by simp [hlt]))
                    simp only [execOp, ho, e1]
                    simp [Instr.field, run_underlying hd, hfa, asAgg, part, isAgg_run hd', hagg, hlt]
                  · cases hr
          · exact h.elim
        · exact h.elim
      · exact h.elim
    · exact h.elim
  · exact h.elim

theorem isSl_sound (hT : TabOK P T) {t : Nat} (h : isSl T t = true) : ∃ e, P.underlying t = some (.slice e) := by
  unfold isSl at h
  split at h
  · rename_i ti hti
    split at h
    · rename_i e hk
      obtain ⟨⟨d, hd, hdk⟩, _⟩ := hT.get hti
      rw [hk] at hdk
      have := of_slice hdk
      subst this
      exact ⟨e, hd⟩
    · cases h
  · cases h
theorem isStr_sound (hT : TabOK P T) {t : Nat} (h : isStr T t = true) : P.underlying t = some .string := by
  unfold isStr at h
  split at h
  · rename_i ti hti
    split at h
    · rename_i hk
      obtain ⟨⟨d, hd, hdk⟩, _⟩ := hT.get hti
      rw [hk] at hdk
      cases d <;> simp [TyK.of] at hdk
      exact hd
    · cases h
  · cases h

theorem s_len (hT : TabOK P T) (hs : SRK E K c a w) (hval : Vals E K c a w val) {x : Operand} {t : TypeId} (ho : o.op = .call { callee := .builtin .len, args := #[x], argTypes := #[t] })
    (h : (lenA T t (val x)).holds P (· = r)) : o.wp P a w (OpPost E c r a o.dst) NoQ := by
  have fin : ∀ {A : Option Addr} {n cap : Nat}, a.eval x = .slice A n cap → isSl T t = true → { v := .int .i64 n } = r → o.wp P a w (OpPost E c r a o.dst) NoQ := by
    intro A n cap e1 hsl hr
    obtain ⟨e, hd⟩ := isSl_sound hT hsl
    refine wp_val hs (vv := .int .i64 n) ?_ hr .int
    simp only [execOp, ho, resolve, invoke, builtin, List.map_toArray, List.map_cons, List.map_nil, e1, Sem.run_bind, Sem.run_pure, Result.andThen_ok]
    simp [Builtin.len_, run_underlying hd, goInt]
  unfold lenA at h
  split at h
  · rename_i hx
    split at h
    · rename_i hsl
      obtain ⟨A, cap, e1, _⟩ := VR.rsl_inv (hval.at hx)
      exact fin e1 hsl h
    · exact h.elim
  · rename_i hx
    split at h
    · rename_i hsl
      rcases VR.osl_inv (hval.at hx) with ⟨_, hz, e1⟩ | ⟨g, cap, cur, e', m, hK, _, e1, _⟩
      · subst hz; exact fin e1 hsl h
      · exact fin e1 hsl h
    · exact h.elim
  · rename_i hx
    split at h
    · rename_i hsl
      exact fin (n := 0) (VR.nilsl_inv (hval.at hx)) hsl h
    · exact h.elim
  · rename_i hx
    split at h
    · rename_i hsl
      obtain ⟨A, cap, e1⟩ := VR.esl_inv (hval.at hx)
      exact fin (n := 0) e1 hsl h
    · exact h.elim
  · rename_i s hx
    split at h
    · rename_i hsl
      have hd := isStr_sound hT hsl
      have e1 := VR.str_inv (hval.at hx)
      refine wp_val hs (vv := .int .i64 s.size) ?_ (ret_get h) .int
      simp only [execOp, ho, resolve, invoke, builtin, List.map_toArray, List.map_cons, List.map_nil, e1, Sem.run_bind, Sem.run_pure, Result.andThen_ok]
      simp [Builtin.len_, run_underlying hd, goInt]
    · exact h.elim
  · exact h.elim

theorem map_add_zero (A : Option Addr) : A.map (·.add 0) = A := by cases A <;> simp [Addr.add]

theorem s_sliceS (hT : TabOK P T) (hs : SRK E K c a w) (hval : Vals E K c a w val) {t : TypeId} {x : Operand} {lo hi : Option Operand} (ho : o.op = .slice t x lo hi none) (hst : isStr T t = true)
    (h : (sliceS (val x) (lo.map val) (hi.map val)).holds P (· = r)) : o.wp P a w (OpPost E c r a o.dst) NoQ := by
  have hd := isStr_sound hT hst
  unfold sliceS at h
  split at h
  · rename_i s k hh hx hlo hhi
    obtain ⟨hb, h⟩ := h
    cases hi with
    | none => cases hhi
    | some hi =>
    cases lo with
    | some lo => cases hlo
    | none =>
    injection hhi with hhi
    have e1 := VR.str_inv (hval.at hx)
    have e2 := hval.int hhi
    refine wp_val hs (vv := .string (s.extract 0 hh.toNat)) ?_ (ret_get h) .str
    simp only [execOp, ho, e1, e2, Option.map_none, Option.map_some, Sem.run_bind, run_sliceAt_string w t _ _ _ _ hd, run_slice_string_h w t s hd k hh hb.1 hb.2, Result.andThen_ok, Sem.run_pure]
  · rename_i s k ll hx hlo hhi
    obtain ⟨hb, h⟩ := h
    cases lo with
    | none => cases hlo
    | some lo =>
    cases hi with
    | some hi => cases hhi
    | none =>
    injection hlo with hlo
    have e1 := VR.str_inv (hval.at hx)
    have e2 := hval.int hlo
    refine wp_val hs (vv := .string (s.extract ll.toNat s.size)) ?_ (ret_get h) .str
    simp only [execOp, ho, e1, e2, Option.map_none, Option.map_some, Sem.run_bind, run_sliceAt_string w t _ _ _ _ hd, run_slice_string_l w t s hd k ll hb.1 hb.2, Result.andThen_ok, Sem.run_pure]
  · rename_i s k ll k' hh hx hlo hhi
    obtain ⟨hb, h⟩ := h
    cases lo with
    | none => cases hlo
    | some lo =>
    cases hi with
    | none => cases hhi
    | some hi =>
    injection hlo with hlo
    injection hhi with hhi
    have e1 := VR.str_inv (hval.at hx)
    have e2 := hval.int hlo
    have e3 := hval.int hhi
    refine wp_val hs (vv := .string (s.extract ll.toNat hh.toNat)) ?_ (ret_get h) .str
    simp only [execOp, ho, e1, e2, e3, Option.map_some, Option.map_none, Sem.run_bind, run_sliceAt_string w t _ _ _ _ hd]
    have h3 : (0 : Int) ≤ hh := by omega
    have h5 : hh ≤ (s.size : Int) := hb.2.2
    simp [Instr.slice, run_underlying hd, Instr.sliceBounds, Instr.sliceBound, asIntOf, hb.1, h3, h5]
    intro hc
    omega
  · exact h.elim
theorem s_index (hT : TabOK P T) (hs : SRK E K c a w) (hval : Vals E K c a w val) {t : TypeId} {x ix : Operand} (ho : o.op = .index t x ix)
    (h : (indexA T t (val x) (val ix)).holds P (· = r)) : o.wp P a w (OpPost E c r a o.dst) NoQ := by
  unfold indexA at h
  split at h
  · rename_i ti s k j hti hx hix
    split at h
    · rename_i hk
      obtain ⟨⟨d, hd, hdk⟩, _⟩ := hT.get hti
      rw [hk] at hdk
      have : d = .string := by cases d <;> simp [TyK.of] at hdk; rfl
      subst this
      obtain ⟨m, ⟨hj, hlt, rfl⟩, h⟩ := h
      have e1 := VR.str_inv (hval.at hx)
      have e2 := hval.int hix
      refine wp_val hs (vv := .int .u8 ((s[j.toNat]'hlt).toNat : Nat)) ?_ (ret_get h) .int
      have hb : 0 ≤ j ∧ j < (s.size : Int) := ⟨hj, by omega⟩
      simp only [execOp, ho, e1, e2, Sem.run_bind, run_index_string w t s k j hd, dif_pos hb, Result.andThen_ok, Sem.run_pure]
    · exact h.elim
  · rename_i ti xs k j hti hx hix
    split at h
    · rename_i n e hk
      obtain ⟨⟨d, hd, hdk⟩, _⟩ := hT.get hti
      rw [hk] at hdk
      have := of_array hdk
      subst this
      split at h
      · rename_i ei hei
        obtain ⟨⟨de, hde, hdke⟩, ⟨je, hje, _, hjs, _⟩, _⟩ := hT.get hei
        split at h
        · rename_i hagg hone
          have hone := beq_true hone
          obtain ⟨row, h⟩ := h
          dsimp only at h
          split at h
          · rename_i u
            obtain ⟨⟨hj, hjn, hu⟩, h⟩ := h
            have e2 := hval.int hix
            obtain ⟨vs, e1, l1, v1, v2⟩ := VR.agg_inv (hval.at hx)
            have hlt : j.toNat < vs.size := by rw [← l1]; exact (List.getElem?_eq_some_iff.1 hu).1
            have hvj : vs[j.toNat]? = some vs[j.toNat] := by simp [hlt]
            refine wp_val hs (vv := vs[j.toNat]) ?_ (ret_get h) (v2 j.toNat u _ hu hvj)
            rw [← hdke] at hagg
            have hb : 0 ≤ j ∧ j < (n : Int) := ⟨hj, hjn⟩
            simp [execOp, ho, e1, e2, Instr.index, asIntOf, run_underlying hd, hb, sizeOf_run hje, hjs, hone, part, isAgg_run hde, hagg, hlt]
          · exact h.elim
        · exact h.elim
      · exact h.elim
    · exact h.elim
  · exact h.elim
theorem s_slice (hT : TabOK P T) (hs : SRK E K c a w) (hval : Vals E K c a w val) {t : TypeId} {x : Operand} {lo hi : Option Operand} (ho : o.op = .slice t x lo hi none)
    (h : (sliceA T t (val x) (lo.map val) (hi.map val)).holds P (· = r)) : o.wp P a w (OpPost E c r a o.dst) NoQ := by
  unfold sliceA at h
  split at h
  · rename_i ti hti
    split at h
    · rename_i e hk
      obtain ⟨⟨d, hd, hdk⟩, _⟩ := hT.get hti
      rw [hk] at hdk
      have := of_slice hdk
      subst this
      split at h
      · rename_i ei hei
        obtain ⟨_, ⟨je, hje, _, hjs, _⟩, _⟩ := hT.get hei
        split at h
        · rename_i sz n rows k hh hx hlo hhi
          cases hi with
          | none => cases hhi
          | some hi =>
          cases lo with
          | some lo => cases hlo
          | none =>
          injection hhi with hhi
          have e2 := hval.int hhi
          split at h
          · rename_i hsz
            have hsz := beq_true hsz
            obtain ⟨hb, h⟩ := h
            obtain ⟨A, cap, e1, hn, hr, hcap, hA0, cs, hcs, hone, hA, hv⟩ := VR.rsl_inv (hval.at hx)
            have hfl := flat_len hr
            have hrt : ∀ row ∈ rows.take hh.toNat, row.length = sz := fun row hr' => hr row (List.mem_of_mem_take hr')
            have hflt := flat_len hrt
            have hhl : hh.toNat ≤ rows.length := by omega
            have hpre : ∀ (j : Nat) u, (rows.take hh.toNat).flatten[j]? = some u → rows.flatten[j]? = some u := by
              intro j u hu
              have : rows = rows.take hh.toNat ++ rows.drop hh.toNat := (List.take_append_drop _ _).symm
              rw [this, List.flatten_append, List.getElem?_append_left (List.getElem?_eq_some_iff.1 hu).1]
              exact hu
            refine wp_val hs (vv := .slice A hh.toNat cap) ?_ (ret_get h) (.rsl (cs := cs.take (hh.toNat * sz)) ?_ hrt ?_ hA0 ?_ (fun x hx => hone x (List.mem_of_mem_take hx)) (fun hne => ?_) (fun j u x hu hx => ?_))
            · simp only [execOp, ho, e1, e2, Option.map_none, Option.map_some]
              have hle : hh ≤ (cap : Int) := by omega
              simp [Instr.sliceAt, Instr.slice, run_underlying hd, Instr.sliceBounds, Instr.sliceBound, asIntOf, hb.1, hle, sizeOf_run hje, map_add_zero]
            · simp only [List.length_take]; omega
            · omega
            · rw [List.length_take, hflt, List.length_take, hcs, hfl]
              rw [Nat.min_eq_left (Nat.mul_le_mul_right _ hhl), Nat.min_eq_left hhl]
            · obtain ⟨g, b, rfl, hg, hX, hcell⟩ := hA (by rintro rfl; simp at hne)
              refine ⟨g, b, rfl, hg, hX, fun j x hx => hcell j x ?_⟩
              rw [List.getElem?_take] at hx
              split at hx
              · exact hx
              · cases hx
            · rw [List.getElem?_take] at hx
              split at hx
              · exact hv j u x (hpre j u hu) hx
              · cases hx
          · exact h.elim
        · rename_i sz n rows k ll hx hlo hhi
          cases hi with
          | some hi => cases hhi
          | none =>
          cases lo with
          | none => cases hlo
          | some lo =>
          injection hlo with hlo
          have e2 := hval.int hlo
          split at h
          · rename_i hsz
            have hsz := beq_true hsz
            obtain ⟨hb, h⟩ := h
            obtain ⟨A, cap, e1, hn, hr, hcap, hA0, cs, hcs, hone, hA, hv⟩ := VR.rsl_inv (hval.at hx)
            have hfl := flat_len hr
            have hrt : ∀ row ∈ rows.drop ll.toNat, row.length = sz := fun row hr' => hr row (List.mem_of_mem_drop hr')
            have hflt := flat_len hrt
            have hhl : ll.toNat ≤ rows.length := by omega
            have hpre : ∀ (j : Nat), (rows.drop ll.toNat).flatten[j]? = rows.flatten[ll.toNat * sz + j]? := by
              intro j
              have : rows = rows.take ll.toNat ++ rows.drop ll.toNat := (List.take_append_drop _ _).symm
              have hl1 : (rows.take ll.toNat).flatten.length = ll.toNat * sz := by
                rw [flat_len (sz := sz) fun row hr' => hr row (List.mem_of_mem_take hr'), List.length_take, Nat.min_eq_left hhl]
              conv => rhs; rw [this, List.flatten_append, List.getElem?_append_right (by omega), hl1]
              congr 1; omega
            refine wp_val hs (vv := .slice (if cap = ll.toNat then A else A.map (·.add (ll.toNat * sz))) (n - ll.toNat) (cap - ll.toNat)) ?_ (ret_get h) (.rsl (cs := cs.drop (ll.toNat * sz)) ?_ hrt ?_ ?_ ?_ (fun x hx => hone x (List.mem_of_mem_drop hx)) (fun hne => ?_) (fun j u x hu hx => ?_))
            · simp only [execOp, ho, e1, e2, Option.map_none, Option.map_some]
              have hle : ll ≤ (n : Int) := by omega
              simp [Instr.sliceAt, Instr.slice, run_underlying hd, Instr.sliceBounds, Instr.sliceBound, asIntOf, hb.1, hle, sizeOf_run hje, hjs, hsz]
            · simp only [List.length_drop]; omega
            · omega
            · intro hnone
              split at hnone
              · omega
              · have := hA0 (by simpa using hnone); omega
            · rw [List.length_drop, hflt, List.length_drop, hcs, hfl, Nat.sub_mul]
            · have hne' : ll.toNat < rows.length := by
                rcases Nat.lt_or_ge ll.toNat rows.length with h' | h'
                · exact h'
                · exact absurd (List.drop_eq_nil_of_le h') hne
              obtain ⟨g, b, rfl, hg, hX, hcell⟩ := hA (by rintro rfl; simp at hne)
              rw [if_neg (by omega)]
              refine ⟨g, b + ll.toNat * sz, by simp [addr_add], hg, hX, fun j x hx => ?_⟩
              rw [List.getElem?_drop] at hx
              rw [Nat.add_assoc]
              exact hcell _ x hx
            · rw [List.getElem?_drop] at hx
              rw [hpre] at hu
              exact hv _ u x hu hx
          · exact h.elim
        · rename_i b sz n k hh hx hlo hhi
          cases hi with
          | none => cases hhi
          | some hi =>
          cases lo with
          | some lo => cases hlo
          | none =>
          injection hhi with hhi
          have e2 := hval.int hhi
          split at h
          · rename_i hsz
            have hsz := beq_true hsz
            obtain ⟨hb, h⟩ := h
            rcases VR.osl_inv (hval.at hx) with ⟨hK, hz, e1⟩ | ⟨g, cap, cur, e', m, hK, hnm, e1, hc, hnc, hm, hcur⟩
            · subst hz
              have hh0 : hh = 0 := by omega
              subst hh0
              refine wp_val hs (vv := .slice none 0 0) ?_ (ret_get h) (.oslnil hK)
              simp only [execOp, ho, e1, e2, Option.map_none, Option.map_some]
              simp [Instr.sliceAt, Instr.slice, run_underlying hd, Instr.sliceBounds, Instr.sliceBound, asIntOf, sizeOf_run hje]
            · refine wp_val hs (vv := .slice (some ⟨g, 0, none⟩) hh.toNat cap) ?_ (ret_get h) (.osl hK (by omega) hc (by omega) hm hcur)
              simp only [execOp, ho, e1, e2, Option.map_none, Option.map_some]
              have hle : hh ≤ (cap : Int) := by omega
              simp [Instr.sliceAt, Instr.slice, run_underlying hd, Instr.sliceBounds, Instr.sliceBound, asIntOf, hb.1, hle, sizeOf_run hje, addr_add]
          · exact h.elim
        · rename_i b sz n k ll hx hlo hhi
          cases hi with
          | some hi => cases hhi
          | none =>
          cases lo with
          | none => cases hlo
          | some lo =>
          injection hlo with hlo
          have e2 := hval.int hlo
          split at h
          · rename_i hsz
            have hsz := beq_true hsz
            obtain ⟨hb, h⟩ := h
            rcases VR.osl_inv (hval.at hx) with ⟨hK, hz, e1⟩ | ⟨g, cap, cur, e', m, hK, hnm, e1, hc, hnc, hm, hcur⟩
            · subst hz
              have hh0 : ll = 0 := by omega
              subst hh0
              refine wp_val hs (vv := .slice none 0 0) ?_ (ret_get h) (.osuf fun h => by omega)
              simp only [execOp, ho, e1, e2, Option.map_none, Option.map_some]
              simp [Instr.sliceAt, Instr.slice, run_underlying hd, Instr.sliceBounds, Instr.sliceBound, asIntOf, sizeOf_run hje]
            · refine wp_val hs (vv := .slice (if cap = ll.toNat then some ⟨g, 0, none⟩ else some ⟨g, ll.toNat * sz, none⟩) (n - ll.toNat) (cap - ll.toNat)) ?_ (ret_get h) (.osuf fun hp => ⟨g, m, hK, by omega, by rw [if_neg (by omega)]⟩)
              simp only [execOp, ho, e1, e2, Option.map_none, Option.map_some]
              have hle : ll ≤ (n : Int) := hb.2
              simp [Instr.sliceAt, Instr.slice, run_underlying hd, Instr.sliceBounds, Instr.sliceBound, asIntOf, hb.1, hle, sizeOf_run hje, hjs, hsz, addr_add]
          · exact h.elim
        · exact h.elim
      · exact h.elim
    · exact h.elim
  · exact h.elim
theorem flat_le {w : World} {X : Nat → Prop} {K : KM} {g : Nat} {blk : OBlk} {cur : Array Value} (hrows : ∀ row ∈ blk.rows, row.length = blk.sz)
    (hu : ∀ (j : Nat) u, blk.rows.flatten[j]? = some u → ∃ x, cur[j]? = some x ∧ x.oneCell' = true ∧ VR w X K u x) : blk.rows.length * blk.sz ≤ cur.size := by
  have hflat := flat_len hrows
  by_cases h0 : blk.rows.flatten.length = 0
  · omega
  · obtain ⟨y, hy, _⟩ := hu (blk.rows.flatten.length - 1) _ (List.getElem?_eq_getElem (by omega))
    have := (Array.getElem?_eq_some_iff.1 hy).1
    omega
theorem s_cut (hT : TabOK P T) (hs : SRK E K c a w) (hval : Vals E K c a w val) {t : TypeId} {x : Operand} {lo hi : Option Operand} (ho : o.op = .slice t x lo hi none)
    (h : (cutA T (olk c.O) t (val x) (lo.map val) (hi.map val)).holds P (· = r)) : o.wp P a w (OpPost E c r a o.dst) NoQ := by
  unfold cutA at h
  split at h
  · rename_i ti hti
    split at h
    · rename_i e hk
      obtain ⟨⟨d, hd, hdk⟩, _⟩ := hT.get hti
      rw [hk] at hdk
      have := of_slice hdk
      subst this
      split at h
      · rename_i ei hei
        obtain ⟨_, ⟨je, hje, _, hjs, _⟩, _⟩ := hT.get hei
        split at h
        · rename_i b sz n k ll k' hh hx hlo hhi
          cases hi with
          | none => cases hhi
          | some hi =>
          cases lo with
          | none => cases hlo
          | some lo =>
          injection hlo with hlo
          injection hhi with hhi
          have e2 := hval.int hlo
          have e3 := hval.int hhi
          split at h
          · rename_i blk hb
            split at h
            · rename_i hsz hbsz hpos
              have hsz := beq_true hsz
              have hbsz := beq_true hbsz
              have hpos := Nat.le_of_ble_eq_true hpos
              obtain ⟨⟨h0, hlh, hhr⟩, h⟩ := h
              have h3 : (0 : Int) ≤ hh := by omega
              rcases VR.osl_inv (hval.at hx) with ⟨hK, hz, e1⟩ | ⟨g, cap, cur, e', m, hK, hnm, e1, hc, hnc, hm, hcur⟩
              · rcases hs.own b blk hb with ⟨k1, k2⟩ | ⟨g', k1, _⟩
                · rw [k2] at hhr
                  have hh0 : hh = 0 := by simp at hhr; omega
                  have ll0 : ll = 0 := by omega
                  subst hh0 ll0
                  refine wp_val hs (vv := .slice none 0 0) ?_ (ret_get h) (.osuf fun h => by simp at h)
                  simp only [execOp, ho, e1, e2, e3, Option.map_some, Option.map_none]
                  simp [Instr.sliceAt, Instr.slice, run_underlying hd, Instr.sliceBounds, Instr.sliceBound, asIntOf, sizeOf_run hje]
                · rw [hK] at k1; cases k1
              · rcases hs.own b blk hb with ⟨k1, _⟩ | ⟨g', k1, cur', hc', hu⟩
                · rw [hK] at k1; cases k1
                · have hkk := hK
                  rw [hK] at k1; injection k1 with k1; injection k1 with k1 k2; injection k1 with k1; subst k1 k2
                  rw [hc] at hc'; injection hc' with hc'; injection hc' with h1 h2; subst h1
                  have hfl := flat_le (g := g) (hs.rows b blk hb) hu
                  have hcap : blk.rows.length ≤ cap := by
                    rw [← hcur, ← hbsz] at hfl
                    exact Nat.le_of_mul_le_mul_right hfl (by omega)
                  refine wp_val hs (vv := .slice (if cap = ll.toNat then some ⟨g, 0, none⟩ else some ⟨g, ll.toNat * sz, none⟩) (hh.toNat - ll.toNat) (cap - ll.toNat)) ?_ (ret_get h) (.osuf fun hp => ⟨g, _, hkk, by omega, by rw [if_neg (by omega)]⟩)
                  simp only [execOp, ho, e1, e2, e3, Option.map_some, Option.map_none]
                  have hle : hh ≤ (cap : Int) := by omega
                  simp [Instr.sliceAt, Instr.slice, run_underlying hd, Instr.sliceBounds, Instr.sliceBound, asIntOf, h0, h3, hle, sizeOf_run hje, hjs, hsz, addr_add]
                  intro hc; omega
            · exact h.elim
          · exact h.elim
        · exact h.elim
      · exact h.elim
    · exact h.elim
  · exact h.elim
theorem s_cut3 (hT : TabOK P T) (hs : SRK E K c a w) (hval : Vals E K c a w val) {t : TypeId} {x lo hi mx : Operand} (ho : o.op = .slice t x (some lo) (some hi) (some mx))
    (h : (cut3A T t (val x) (val lo) (val hi) (val mx)).holds P (· = r)) : o.wp P a w (OpPost E c r a o.dst) NoQ := by
  unfold cut3A at h
  split at h
  · rename_i ti hti
    split at h
    · rename_i e hk
      obtain ⟨⟨d, hd, hdk⟩, _⟩ := hT.get hti
      rw [hk] at hdk
      have := of_slice hdk
      subst this
      split at h
      · rename_i ei hei
        obtain ⟨_, ⟨je, hje, _, hjs, _⟩, _⟩ := hT.get hei
        split at h
        · rename_i b sz n k ll k' hh k'' mm hx hlo hhi hmx
          have e2 := hval.int hlo
          have e3 := hval.int hhi
          have e4 := hval.int hmx
          obtain ⟨⟨h0, hlh, hhm, hmn⟩, h⟩ := h
          have h3 : (0 : Int) ≤ hh := by omega
          have h4 : (0 : Int) ≤ mm := by omega
          rcases VR.osl_inv (hval.at hx) with ⟨hK, hz, e1⟩ | ⟨g, cap, cur, e', m, hK, hnm, e1, hc, hnc, hm, hcur⟩
          · subst hz
            have hh0 : hh = 0 := by omega
            have ll0 : ll = 0 := by omega
            have mm0 : mm = 0 := by omega
            subst hh0 ll0 mm0
            refine wp_val hs (vv := .slice none 0 0) ?_ (ret_get h) .top
            simp only [execOp, ho, e1, e2, e3, e4, Option.map_some]
            simp [Instr.sliceAt, Instr.slice, run_underlying hd, Instr.sliceBounds, Instr.sliceBound, asIntOf, sizeOf_run hje]
          · refine wp_val hs (vv := .slice (if mm.toNat = ll.toNat then some ⟨g, 0, none⟩ else some ⟨g, ll.toNat * ei.size, none⟩) (hh.toNat - ll.toNat) (mm.toNat - ll.toNat)) ?_ (ret_get h) .top
            simp only [execOp, ho, e1, e2, e3, e4, Option.map_some]
            have hle : mm ≤ (cap : Int) := by omega
            simp [Instr.sliceAt, Instr.slice, run_underlying hd, Instr.sliceBounds, Instr.sliceBound, asIntOf, h0, h3, h4, hle, sizeOf_run hje, hjs, addr_add]
            rw [if_pos (by omega), if_pos (by omega)]
        · exact h.elim
      · exact h.elim
    · exact h.elim
  · exact h.elim
end
end
end Go.Abs
namespace Go.Abs
section
open Go.RowKit
set_option linter.unusedVariables false

theorem foldI_min {P : Program} {w : World} {k : IntKind} : ∀ {r : List AV} {a m : Int} {vs : List Value}, foldI minI k a r = some m → r.length = vs.length → (∀ (j : Nat) u v, r[j]? = some u → vs[j]? = some v → ∀ k n, u = .int k n → v = .int k n) →
    (vs.foldlM Builtin.min2 (.int k a)).run P w = .ok (.int k m) w
  | [], a, m, [], h, _, _ => by simp [foldI] at h; subst h; simp
  | u :: us, a, m, v :: vs, h, hl, hv => by
    cases u <;> simp only [foldI] at h
    case int k' b =>
      split at h
      · rename_i hk
        have := kindEq_iff hk
        subst this
        have e := hv 0 (.int k b) v (by simp) (by simp) k b rfl
        subst e
        have ih := foldI_min (P := P) (w := w) h (by simpa using hl) (fun j u v h1 h2 => hv (j + 1) u v (by simpa using h1) (by simpa using h2))
        simp only [List.foldlM_cons, Builtin.min2, Sem.run_bind, Sem.run_pure, Result.andThen_ok]
        exact ih
      · cases h
    all_goals cases h
  | [], _, _, _ :: _, _, h, _ => by simp at h
  | _ :: _, _, _, [], _, h, _ => by simp at h
theorem foldI_max {P : Program} {w : World} {k : IntKind} : ∀ {r : List AV} {a m : Int} {vs : List Value}, foldI maxI k a r = some m → r.length = vs.length → (∀ (j : Nat) u v, r[j]? = some u → vs[j]? = some v → ∀ k n, u = .int k n → v = .int k n) →
    (vs.foldlM Builtin.max2 (.int k a)).run P w = .ok (.int k m) w
  | [], a, m, [], h, _, _ => by simp [foldI] at h; subst h; simp
  | u :: us, a, m, v :: vs, h, hl, hv => by
    cases u <;> simp only [foldI] at h
    case int k' b =>
      split at h
      · rename_i hk
        have := kindEq_iff hk
        subst this
        have e := hv 0 (.int k b) v (by simp) (by simp) k b rfl
        subst e
        have ih := foldI_max (P := P) (w := w) h (by simpa using hl) (fun j u v h1 h2 => hv (j + 1) u v (by simpa using h1) (by simpa using h2))
        simp only [List.foldlM_cons, Builtin.max2, Sem.run_bind, Sem.run_pure, Result.andThen_ok]
        exact ih
      · cases h
    all_goals cases h
  | [], _, _, _ :: _, _, h, _ => by simp at h
  | _ :: _, _, _, [], _, h, _ => by simp at h

/-- cells of the machine's say what a list says -/
def ArrR (w : World) (X : Nat → Prop) (K : KM) (us : List AV) (vs : Array Value) : Prop :=
  us.length = vs.size ∧ (∀ (j : Nat) c, vs[j]? = some c → c.oneCell' = true) ∧ ∀ (j : Nat) u c, us[j]? = some u → vs[j]? = some c → VR w X K u c

theorem foldl_set (off : Nat) : ∀ (cs : List Value) (i : Nat) (acc : Array Value) (j : Nat), off + i + cs.length ≤ acc.size →
    ((cs.zipIdx i).foldl (fun (acc : Array Value) (p : Value × Nat) => acc.setIfInBounds (off + p.2) p.1) acc).size = acc.size ∧
    ((cs.zipIdx i).foldl (fun (acc : Array Value) (p : Value × Nat) => acc.setIfInBounds (off + p.2) p.1) acc)[j]? = if off + i ≤ j ∧ j < off + i + cs.length then cs[j - (off + i)]? else acc[j]?
  | [], i, acc, j, _ => by
    refine ⟨by simp, ?_⟩
    rw [if_neg (by simp)]
    simp
  | x :: cs, i, acc, j, h => by
    simp only [List.zipIdx_cons, List.foldl_cons]
    obtain ⟨h1, h2⟩ := foldl_set off cs (i + 1) (acc.setIfInBounds (off + i) x) j (by simp at h ⊢; omega)
    refine ⟨by rw [h1]; simp, ?_⟩
    rw [h2]
    simp only [List.length_cons]
    by_cases e : off + (i + 1) ≤ j ∧ j < off + (i + 1) + cs.length
    · rw [if_pos e, if_pos (by omega)]
      rw [show j - (off + i) = (j - (off + (i + 1))) + 1 by omega]
      simp
    · rw [if_neg e]
      by_cases e2 : j = off + i
      · subst e2
        rw [if_pos (by omega)]
        simp at h
        simp [show off + i < acc.size by omega]
      · rw [if_neg (by omega)]
        simp [Ne.symm e2]

section
variable {P : Program} {T : Tab} {E : Env} {K : KM} {c : Cfg} {a : Act} {w : World} {o : Oper} {r : Res} {val : Operand → AV} {X : Nat → Prop}

theorem map_vals (hval : Vals E K c a w val) (args : Array Operand) : (args.toList.map val).length = (args.map a.eval).toList.length ∧ ∀ (j : Nat) u v, (args.toList.map val)[j]? = some u → (args.map a.eval).toList[j]? = some v → FV w (XX E K c.O) K a.tmps u v := by
  refine ⟨by simp, fun j u v hu hv => ?_⟩
  simp only [List.getElem?_map, Array.getElem?_toList] at hu
  simp only [Array.toList_map, List.getElem?_map, Array.getElem?_toList] at hv
  cases hx : args[j]? with
  | none => rw [hx] at hu; cases hu
  | some x =>
    rw [hx] at hu hv
    injection hu with hu; injection hv with hv
    subst hu hv
    exact hval x

theorem s_min (hs : SRK E K c a w) (hval : Vals E K c a w val) {args : Array Operand} {ts : Array TypeId} (ho : o.op = .call { callee := .builtin .min, args := args, argTypes := ts })
    (h : Ans.holds P (match args.toList.map val with
    | .int k a :: r => match foldI minI k a r with | some m => retV (.int k m) | none => .no
    | _ => .no) (· = r)) : o.wp P a w (OpPost E c r a o.dst) NoQ := by
  split at h
  · rename_i k n us hus
    split at h
    · rename_i m hm
      obtain ⟨hl, hv⟩ := map_vals hval args
      rw [hus] at hl hv
      cases hvs : (args.map a.eval).toList with
      | nil => rw [hvs] at hl; simp at hl
      | cons v vs =>
        rw [hvs] at hl hv
        have e0 : v = .int k n := VR.int_inv (show VR w (XX E K c.O) K (.int k n) v from hv 0 (.int k n) v (by simp) (by simp))
        have hrun := foldI_min (P := P) (w := w) hm (by simpa using hl) (fun j u v' h1 h2 k n e => by
          have := hv (j + 1) u v' (by simpa using h1) (by simpa using h2)
          subst e
          exact VR.int_inv this)
        refine wp_val hs (vv := .int k m) ?_ (ret_get h) .int
        simp only [execOp, ho, resolve, invoke, builtin, Sem.run_bind, Sem.run_pure, Result.andThen_ok, Builtin.min_, hvs, e0, hrun]
    · exact h.elim
  · exact h.elim
theorem s_max (hs : SRK E K c a w) (hval : Vals E K c a w val) {args : Array Operand} {ts : Array TypeId} (ho : o.op = .call { callee := .builtin .max, args := args, argTypes := ts })
    (h : Ans.holds P (match args.toList.map val with
    | .int k a :: r => match foldI maxI k a r with | some m => retV (.int k m) | none => .no
    | _ => .no) (· = r)) : o.wp P a w (OpPost E c r a o.dst) NoQ := by
  split at h
  · rename_i k n us hus
    split at h
    · rename_i m hm
      obtain ⟨hl, hv⟩ := map_vals hval args
      rw [hus] at hl hv
      cases hvs : (args.map a.eval).toList with
      | nil => rw [hvs] at hl; simp at hl
      | cons v vs =>
        rw [hvs] at hl hv
        have e0 : v = .int k n := VR.int_inv (show VR w (XX E K c.O) K (.int k n) v from hv 0 (.int k n) v (by simp) (by simp))
        have hrun := foldI_max (P := P) (w := w) hm (by simpa using hl) (fun j u v' h1 h2 k n e => by
          have := hv (j + 1) u v' (by simpa using h1) (by simpa using h2)
          subst e
          exact VR.int_inv this)
        refine wp_val hs (vv := .int k m) ?_ (ret_get h) .int
        simp only [execOp, ho, resolve, invoke, builtin, Sem.run_bind, Sem.run_pure, Result.andThen_ok, Builtin.max_, hvs, e0, hrun]
    · exact h.elim
  · exact h.elim

theorem fill_sound (hval : Vals E K c a w val) {place place' : Nat → Option (Nat × Nat)} (hpl : ∀ i x, place i = some x → place' i = some x) :
    ∀ {parts : List (Nat × Operand)} {row row' : List AV} {cells : Array Value}, fillE place val parts row = some row' → ArrR w (XX E K c.O) K row cells →
      ∃ cells', Instr.fill place' cells (parts.map fun (i, x) => (i, a.eval x)) = some cells' ∧ ArrR w (XX E K c.O) K row' cells'
  | [], row, row', cells, h, hr => by
    simp only [fillE] at h
    injection h with h
    subst h
    exact ⟨cells, rfl, hr⟩
  | (i, x) :: parts, row, row', cells, h, hr => by
    simp only [fillE] at h
    split at h
    · cases h
    · rename_i off size hp
      split at h
      · cases h
      · rename_i cs hcs
        split at h
        · rename_i hl hb
          have hl := beq_true hl
          have hb := Nat.le_of_ble_eq_true hb
          split at h
          · rename_i row1 hsp
            obtain ⟨hlen, hget⟩ := spliceE_get hsp
            have hv0 : VR w (XX E K c.O) K (val x) (a.eval x) := (hval x).vr (by rintro d want u e; rw [e] at hcs; cases hcs)
            obtain ⟨h1, h2, h3⟩ := cellsOf_sound hcs hv0
            simp only [List.map_cons, Instr.fill, hpl i _ hp]
            obtain ⟨r1, r2, r3⟩ := hr
            rw [if_neg (by simp [h1, hl]; omega)]
            refine fill_sound hval hpl h ?_
            have fs := fun j => foldl_set off (a.eval x).cells.toList 0 cells j (by simp; omega)
            simp only [Nat.add_zero] at fs
            have heq : (Array.foldl (fun (acc : Array Value) (p : Value × Nat) => acc.setIfInBounds (off + p.2) p.1) cells (a.eval x).cells.zipIdx) = ((a.eval x).cells.toList.zipIdx 0).foldl (fun (acc : Array Value) (p : Value × Nat) => acc.setIfInBounds (off + p.2) p.1) cells := by
              rw [← Array.foldl_toList]; simp
            have hget' : ∀ j, (Array.foldl (fun (acc : Array Value) (p : Value × Nat) => acc.setIfInBounds (off + p.2) p.1) cells (a.eval x).cells.zipIdx)[j]? = if off ≤ j ∧ j < off + (a.eval x).cells.size then (a.eval x).cells[j - off]? else cells[j]? := by
              intro j
              rw [heq, (fs j).2]
              simp
            have hsize : (Array.foldl (fun (acc : Array Value) (p : Value × Nat) => acc.setIfInBounds (off + p.2) p.1) cells (a.eval x).cells.zipIdx).size = cells.size := by
              rw [heq]; exact (fs 0).1
            refine ⟨by rw [hlen, r1]; exact hsize.symm, fun j y hy => ?_, fun j u y hu hy => ?_⟩
            · have hy := (hget' j).symm.trans hy
              split at hy
              · exact h2 _ y hy
              · exact r2 _ y hy
            · have hy := (hget' j).symm.trans hy
              rw [hget] at hu
              by_cases e : off ≤ j ∧ j < off + cs.length
              · rw [if_pos e] at hu
                rw [if_pos (by omega)] at hy
                exact h3 _ u y hu hy
              · rw [if_neg e] at hu
                rw [if_neg (by omega)] at hy
                exact r3 _ u y hu hy
          · cases h
        · cases h
end
end
end Go.Abs
namespace Go.Abs
section
open Go.RowKit
set_option linter.unusedVariables false

section
variable {P : Program} {T : Tab} {E : Env} {K : KM} {c : Cfg} {a : Act} {w : World} {o : Oper} {r : Res} {val : Operand → AV} {X : Nat → Prop}

theorem places_sound (hT : TabOK P T) : ∀ {ff : List Field} {ps : List (Nat × Nat)}, placesE T (ff.map fun f => (f.offset, f.type)) = some ps → ff.mapM (fun f => (P.info? f.type).map fun i => (f.offset, i.size)) = some ps
  | [], ps, h => by simp [placesE] at h; subst h; rfl
  | f :: ff, ps, h => by
    simp only [List.map_cons, placesE] at h
    split at h
    · rename_i ti qs hti hqs
      injection h with h
      subst h
      obtain ⟨_, ⟨j, hj, _, hjs, _⟩, _⟩ := hT.get hti
      simp [List.mapM_cons, hj, places_sound hT hqs, hjs]
    · cases h

theorem range0 {α : Type} (f : Nat → α) : (Array.range 0).map f = #[] := Array.eq_empty_of_size_eq_zero (by simp)

theorem s_build (hT : TabOK P T) (hone : ∀ t i, T.get t = some i → oneCells i.zero = true) (hs : SRK E K c a w) (hval : Vals E K c a w val) {t : TypeId} {parts : Array (Nat × Operand)} (ho : o.op = .build t parts)
    (h : Ans.holds P (match T.get t with
    | some i => match i.k, (AV.ofVal i.zero).cellsOf with
      | .struct fs, some z => match placesE T fs with
        | some ps => match fillE (fun i => ps[i]?) val parts.toList z with
          | some cs => retV (.agg cs)
          | none => .no
        | none => .no
      | .array _ e, some z => match T.get e with
        | some ei => match fillE (fun i => some (i * ei.size, ei.size)) val parts.toList z with
          | some cs => retV (.agg cs)
          | none => .no
        | none => .no
      | _, _ => .no
    | none => .no) (· = r)) : o.wp P a w (OpPost E c r a o.dst) NoQ := by
  split at h
  · rename_i i hi
    obtain ⟨⟨d, hd, hdk⟩, ⟨j, hj, hjz, hjs, _⟩, _⟩ := hT.get hi
    have fin : ∀ (cells : Array Value) (cs : List AV), P.built t (parts.map fun (i, x) => (i, a.eval x)).toList = some cells → ArrR w (XX E K c.O) K cs cells → { v := .agg cs } = r → o.wp P a w (OpPost E c r a o.dst) NoQ := by
      intro cells cs hb hr he
      refine wp_val hs (vv := .agg cells) ?_ he (.agg hr.1 hr.2.1 hr.2.2)
      simp only [execOp, ho, Sem.run_bind, run_build w t _ cells hb, Result.andThen_ok, Sem.run_pure]
    have hz0 : ∀ z, (AV.ofVal i.zero).cellsOf = some z → ArrR w (XX E K c.O) K z i.zero.cells := by
      intro z hz
      obtain ⟨h1, h2, h3⟩ := cellsOf_sound hz (ofVal_sound w (XX E K c.O) K i.zero (hone t i hi))
      exact ⟨h1.symm, h2, h3⟩
    split at h
    · rename_i fs z hk hz
      rw [hk] at hdk
      obtain ⟨ff, rfl, hff⟩ := of_struct hdk
      split at h
      · rename_i ps hps
        split at h
        · rename_i cs hcs
          rw [hff] at hps
          have hm := places_sound hT hps
          obtain ⟨cells, hf, hr⟩ := fill_sound hval (place' := (ps.toArray[·]?)) (fun i x hx => by simpa using hx) hcs (hz0 z hz)
          refine fin cells cs ?_ hr h
          unfold Program.built
          simp only [hj, hd, hjz, hm]
          simpa using hf
        · exact h.elim
      · exact h.elim
    · rename_i n e z hk hz
      rw [hk] at hdk
      have := of_array hdk
      subst this
      split at h
      · rename_i ei hei
        obtain ⟨_, ⟨je, hje, _, hjes, _⟩, _⟩ := hT.get hei
        split at h
        · rename_i cs hcs
          obtain ⟨cells, hf, hr⟩ := fill_sound hval (place' := fun i => some (i * je.size, je.size)) (fun i x hx => by rw [hjes]; exact hx) hcs (hz0 z hz)
          refine fin cells cs ?_ hr h
          unfold Program.built
          simp only [hj, hd, hjz, hje]
          simpa using hf
        · exact h.elim
      · exact h.elim
    · exact h.elim
  · exact h.elim

theorem rep_get (z : List AV) : ∀ (n i : Nat), i < n * z.length → (List.replicate n z).flatten[i]? = z[i % z.length]?
  | 0, i, h => by simp at h
  | n + 1, i, h => by
    simp only [List.replicate_succ, List.flatten_cons]
    rcases Nat.lt_or_ge i z.length with hlt | hge
    · rw [List.getElem?_append_left hlt, Nat.mod_eq_of_lt hlt]
    · rw [List.getElem?_append_right hge, rep_get z n (i - z.length) (by rw [Nat.add_mul] at h; omega), Nat.mod_eq_sub_mod hge]
theorem chunk_flat (sz : Nat) : ∀ (n : Nat) (cs : List AV), cs.length = n * sz → (chunk sz n cs).flatten = cs ∧ (∀ row ∈ chunk sz n cs, row.length = sz) ∧ (chunk sz n cs).length = n
  | 0, cs, h => by simp at h; subst h; simp [chunk]
  | n + 1, cs, h => by
    rw [Nat.add_mul] at h
    obtain ⟨h1, h2, h3⟩ := chunk_flat sz n (cs.drop sz) (by simp; omega)
    refine ⟨by simp [chunk, h1], fun row hr => ?_, by simp [chunk, h3]⟩
    simp only [chunk, List.mem_cons] at hr
    rcases hr with rfl | hr
    · simp; omega
    · exact h2 row hr
theorem kdOf_fit {rows : List (List AV)} {j : Nat} {u : AV} (hj : rows.flatten[j]? = some u) : kdOf rows ≠ .any → (kdOf rows).fits u = true := by
  have hm : ∃ row ∈ rows, u ∈ row := by
    have := List.mem_of_getElem? hj
    simpa using this
  obtain ⟨row, hr, hu⟩ := hm
  obtain ⟨k, hk⟩ := List.getElem?_of_mem hu
  unfold kdOf
  split
  · rename_i h
    intro _
    exact allFit_get (List.all_eq_true.1 h row hr) hk
  · split
    · rename_i h
      intro _
      exact allFit_get (List.all_eq_true.1 h row hr) hk
    · intro h; exact absurd rfl h
theorem fit_any {kd : Kd} {u : AV} {v : Value} (hf : kd ≠ .any → kd.fits u = true) (h : VR w X K u v) : VR w (KdX kd X) (KdK kd K) u v := by
  cases hk : kd
  · exact fit_sound (by rw [hk] at hf; exact hf (by simp)) h
  · exact fit_sound (by rw [hk] at hf; exact hf (by simp)) h
  · exact h
theorem fill_has {b : Nat} (hhas : ∀ x, (val x).has b = false) {place : Nat → Option (Nat × Nat)} : ∀ {parts : List (Nat × Operand)} {row row' : List AV}, fillE place val parts row = some row' → (∀ (j : Nat) u, row[j]? = some u → u.has b = false) → ∀ (j : Nat) u, row'[j]? = some u → u.has b = false
  | [], row, row', h, hr => by simp only [fillE] at h; injection h with h; subst h; exact hr
  | (i, x) :: parts, row, row', h, hr => by
    simp only [fillE] at h
    split at h
    · cases h
    · split at h
      · cases h
      · rename_i cs hcs
        split at h
        · split at h
          · rename_i row1 hsp
            refine fill_has hhas h fun j u hu => ?_
            rw [(spliceE_get hsp).2] at hu
            split at hu
            · exact cellsOf_has hcs (hhas x) hu
            · exact hr j u hu
          · cases h
        · cases h

theorem s_buildSlice (hT : TabOK P T) (hone : ∀ t i, T.get t = some i → oneCells i.zero = true) (hs : SRK E K c a w) (hval : Vals E K c a w val) (hhas : ∀ x b, fresh b c = true → (val x).has b = false)
    {t : TypeId} {len : Nat} {parts : Array (Nat × Operand)} (ho : o.op = .buildSlice t len parts) (hf : freshD c r.nw r.D = true)
    (h : Ans.holds P (match T.get t with
    | some i => match i.k with
      | .slice e => match T.get e with
        | some ei => match (AV.ofVal ei.zero).cellsOf with
          | some z => match Nat.beq z.length ei.size && Nat.ble 1 ei.size with
            | true => match fillE (fun i => some (i * ei.size, ei.size)) val parts.toList (List.replicate len z).flatten with
              | some cs => match Nat.beq cs.length (len * ei.size), Nat.ble (len * ei.size) 1000000 with
                | true, true => .ret { v := .osl (idOf o.dst 0) ei.size len, D := [(idOf o.dst 0, { e := e, sz := ei.size, kd := kdOf (chunk ei.size len cs), rows := chunk ei.size len cs })], nw := true }
                | _, _ => .no
              | none => .no
            | false => .no
          | none => .no
        | none => .no
      | _ => .no
    | none => .no) (· = r)) : o.wp P a w (OpPost E c r a o.dst) NoQ := by
  split at h
  · rename_i i hi
    obtain ⟨⟨d, hd, hdk⟩, _⟩ := hT.get hi
    split at h
    · rename_i e hk
      rw [hk] at hdk
      have := of_slice hdk
      subst this
      split at h
      · rename_i ei hei
        obtain ⟨_, ⟨je, hje, hjz, hjs, _⟩, _⟩ := hT.get hei
        split at h
        · rename_i z hz
          split at h
          · rename_i hzl
            rw [Bool.and_eq_true] at hzl
            have hpos := Nat.le_of_ble_eq_true hzl.2
            have hzl := beq_true hzl.1
            split at h
            · rename_i cs hcs
              split at h
              · rename_i hcl hbig
                have hcl := beq_true hcl
                have hbig := Nat.le_of_ble_eq_true hbig
                have hr : _ = r := h
                have hf' := hf
                rw [← hr] at hf'
                have hfr := freshD_one hf'
                obtain ⟨h1, h2, h3⟩ := cellsOf_sound hz (ofVal_sound w (XX E K c.O) K ei.zero (hone e ei hei))
                have h0 : ArrR w (XX E K c.O) K (List.replicate len z).flatten ((Array.range (len * ei.size)).map (ei.zero.cells[· % ei.zero.cells.size]!)) := by
                  have hlen : (List.replicate len z).flatten.length = len * ei.size := by simp [hzl]
                  have hcell : ∀ j x, ((Array.range (len * ei.size)).map (ei.zero.cells[· % ei.zero.cells.size]!))[j]? = some x → j < len * ei.size ∧ ei.zero.cells[j % ei.zero.cells.size]? = some x := by
                    intro j x hx
                    have hj : j < len * ei.size := by
                      have := (Array.getElem?_eq_some_iff.1 hx).1
                      simpa using this
                    refine ⟨hj, ?_⟩
                    simp only [Array.getElem?_map, Array.getElem?_range, hj, if_true, Option.map_some, Option.some.injEq] at hx
                    have hpos : 0 < ei.zero.cells.size := by rw [h1, hzl]; exact hpos
                    have hm := Nat.mod_lt j hpos
                    rw [getElem!_pos ei.zero.cells _ hm] at hx
                    rw [← hx]; simp [hm]
                  refine ⟨by simp [hzl], fun j x hx => h2 _ x (hcell j x hx).2, fun j u x hu hx => ?_⟩
                  obtain ⟨hj, hx'⟩ := hcell j x hx
                  rw [rep_get z len j (by rw [hzl]; exact hj)] at hu
                  exact h3 _ u x hu (by rw [h1] at hx'; exact hx')
                obtain ⟨cells, hfl, ar⟩ := fill_sound hval (place' := fun i => some (i * ei.size, ei.size)) (fun i x hx => hx) hcs h0
                obtain ⟨c1, c2, c3⟩ := chunk_flat ei.size len cs hcl
                have hst := Step.alloc (fun _ => False) w (.cells cells e)
                have hcs' : cells.size = len * ei.size := by rw [← ar.1]; exact hcl
                refine wp_new (vv := .slice (some ⟨w.heap.size, 0, none⟩) len len) (w' := w.alloc (.cells cells e)) ?_ hr
                  (bind_new (cur := cells) hs hfr hst (Nat.le_refl _) c2 (heap_new w _) fun j u hj => ?_) ?_
                · have hnb : ¬ (len * ei.size > 2 ^ 24) := by omega
                  simp only [execOp, ho]
                  by_cases hz0 : len * ei.size = 0
                  · have hfl' : Instr.fill (fun i => some (i * ei.size, ei.size)) #[] (parts.toList.map fun (i, x) => (i, a.eval x)) = some cells := by
                      rw [hz0, range0] at hfl; exact hfl
                    have hfl'' : Instr.fill (fun i => some (i * ei.size, ei.size)) #[] (parts.toList.map fun x => (x.1, a.eval x.2)) = some cells := hfl'
                    simp [Instr.buildSlice, run_underlying hd, sizeOf_run hje, hjs, hz0, newRow, range0, hfl'']
                  · have hfl' : Instr.fill (fun i => some (i * ei.size, ei.size)) ((Array.range (len * ei.size)).map (ei.zero.cells[· % ei.zero.cells.size]!)) (parts.toList.map fun (i, x) => (i, a.eval x)) = some cells := hfl
                    simp [Instr.buildSlice, run_underlying hd, sizeOf_run hje, hjs, hz0, hnb, zeroValue, typeInfo, hje, hjz, newRow, hfl']
                · simp only at hj
                  have hj' := hj
                  rw [c1] at hj
                  have hlt : j < cells.size := by rw [← ar.1]; exact (List.getElem?_eq_some_iff.1 hj).1
                  have hy : cells[j]? = some cells[j] := by simp [hlt]
                  refine ⟨fun _ => ?_, cells[j], hy, ar.2.1 j _ hy, ?_⟩
                  · refine fill_has (fun x => hhas x _ hfr) hcs (fun p u' hu' => ?_) j u hj
                    have hm : u' ∈ z := by
                      have := List.mem_of_getElem? hu'
                      obtain ⟨l, h1, h2⟩ := List.mem_flatten.1 this
                      rw [List.eq_of_mem_replicate h1] at h2
                      exact h2
                    obtain ⟨q, hq⟩ := List.getElem?_of_mem hm
                    exact cellsOf_has hz (has_idless _ _ (ofVal_idless _)) hq
                  · refine fit_any (fun hne => kdOf_fit hj' hne) ?_
                    refine VR.keep (ar.2.2 j u _ hj hy) (hst.keep.mono fun _ _ h => h.elim) (fun g hg hX => ?_) (fun _ _ => rfl)
                    rcases hX with hX | rfl
                    · exact hX
                    · omega
                · refine .osl (upd_same _ _ _) (Nat.le_of_eq c3.symm) (heap_new w _) (Nat.le_refl _) ?_ (by rw [hcs'])
                  unfold maxLen
                  have : len ≤ len * ei.size := Nat.le_mul_of_pos_right _ hpos
                  omega
              · exact h.elim
            · exact h.elim
          · exact h.elim
        · exact h.elim
      · exact h.elim
    · exact h.elim
  · exact h.elim
theorem s_makeSlice (hT : TabOK P T) (hone : ∀ t i, T.get t = some i → oneCells i.zero = true) (hs : SRK E K c a w) (hval : Vals E K c a w val)
    {t : TypeId} {l cc : Operand} (ho : o.op = .makeSlice t l cc) (hf : freshD c r.nw r.D = true)
    (h : (makeA T o.dst t (val l) (val cc)).holds P (· = r)) : o.wp P a w (OpPost E c r a o.dst) NoQ := by
  unfold makeA at h
  split at h
  · rename_i i hi
    obtain ⟨⟨d, hd, hdk⟩, _⟩ := hT.get hi
    split at h
    · rename_i e hk
      rw [hk] at hdk
      have := of_slice hdk
      subst this
      split at h
      · rename_i ei hei
        obtain ⟨_, ⟨je, hje, hjz, hjs, hjb⟩, _⟩ := hT.get hei
        split at h
        · rename_i z hz
          split at h
          · rename_i hzl
            rw [Bool.and_eq_true, Bool.and_eq_true] at hzl
            have hfit := hzl.2
            have hpos := Nat.le_of_ble_eq_true hzl.1.2
            have hzl := beq_true hzl.1.1
            split at h
            · rename_i n m hl hc
              obtain ⟨⟨rfl, h0, hby, h63⟩, h⟩ := h
              have hr : _ = r := h
              have hf' := hf
              rw [← hr] at hf'
              have hfr := freshD_one hf'
              have el := hval.int hl
              have ec := hval.int hc
              obtain ⟨k, rfl⟩ := Int.eq_ofNat_of_zero_le h0
              rw [Int.toNat_natCast] at hr
              obtain ⟨h1, h2, h3⟩ := cellsOf_sound hz (ofVal_sound w (XX E K c.O) K ei.zero (hone e ei hei))
              have hrun := run_make (P := P) w t e je ei.zero hd hje hjz .i64 .i64 (k : Int) (k : Int) h0 (Int.le_refl _) (by rw [hjb]; omega) (by omega)
              rw [Int.toNat_natCast, hjs] at hrun
              have hst := Step.alloc (fun _ => False) w (.cells (madeCells ei.zero.cells (k * ei.size)) e)
              refine wp_new (vv := .slice (some ⟨w.heap.size, 0, none⟩) k k) (w' := w.alloc (.cells (madeCells ei.zero.cells (k * ei.size)) e)) ?_ hr
                (bind_new (cur := madeCells ei.zero.cells (k * ei.size)) hs hfr hst (Nat.le_refl _) (fun row hrow => by rw [List.eq_of_mem_replicate hrow]; exact hzl) (heap_new w _) fun j u hj => ?_) ?_
              · simp only [execOp, ho, el, ec, Sem.run_bind, hrun, Result.andThen_ok, Sem.run_pure]
              · have hlen : (List.replicate k z).flatten.length = k * ei.size := by simp [hzl]
                have hjl : j < k * ei.size := by rw [← hlen]; exact (List.getElem?_eq_some_iff.1 hj).1
                have hm : j % ei.zero.cells.size < ei.zero.cells.size := Nat.mod_lt _ (by rw [h1, hzl]; exact hpos)
                have hcell : (madeCells ei.zero.cells (k * ei.size))[j]? = some ei.zero.cells[j % ei.zero.cells.size] := by
                  simp only [madeCells, Array.getElem?_map, Array.getElem?_range, hjl, if_true, Option.map_some]
                  rw [getElem!_pos ei.zero.cells _ hm]
                have hx : ei.zero.cells[j % ei.zero.cells.size]? = some ei.zero.cells[j % ei.zero.cells.size] := by simp [hm]
                simp only at hj
                rw [rep_get z k j (by rw [hzl]; exact hjl)] at hj
                refine ⟨fun hk => (by cases hk), _, hcell, h2 _ _ hx, ?_⟩
                have hsc : u.scalar = true := by
                  have : ∀ {zs : List AV} {p : Nat}, allFit .pure zs = true → zs[p]? = some u → u.scalar = true := by
                    intro zs
                    induction zs with
                    | nil => intro p _ h; simp at h
                    | cons y ys ih =>
                      intro p hf hp
                      simp only [allFit, Bool.and_eq_true] at hf
                      cases p with
                      | zero => simp at hp; subst hp; exact hf.1
                      | succ p => exact ih hf.2 (by simpa using hp)
                  exact this hfit hj
                have hv := h3 _ u _ hj (by rw [← h1]; exact hx)
                have hv' : VR (w.alloc (.cells (madeCells ei.zero.cells (k * ei.size)) e)) (XX E K c.O) K u ei.zero.cells[j % ei.zero.cells.size] := VR.keep (X' := XX E K c.O) (K' := K) hv (hst.keep.mono fun _ _ h => h.elim) (fun _ _ h => h) (fun _ _ => rfl)
                exact scalar_sound hsc hv' _ _
              · refine .osl (upd_same _ _ _) (Nat.le_of_eq (by simp)) (heap_new w _) (Nat.le_refl _) (by unfold maxLen; omega) (by rw [size_madeCells])
            · exact h.elim
          · exact h.elim
        · exact h.elim
      · exact h.elim
    · exact h.elim
  · exact h.elim
end
end
end Go.Abs
namespace Go.Abs
section
open Go.RowKit
set_option linter.unusedVariables false

theorem run_append_nilsrc {P : Program} (w : World) (base t ty e : Nat) (i : TypeInfo) (size : Nat) (ht : P.underlying t = some (.slice e)) (hi : P.info? e = some i)
    (v : Value) (n : Nat) (xs : List Value) (hown : w.ownsRow base e size v n xs) (cp : Nat) : (Builtin.append_ #[t, t] ty #[v, .slice none 0 cp]).run P w = .ok v w := by
  rcases hown.2 with ⟨rfl, rfl⟩ | ⟨g, cap, cur, rfl, _, _, hnc, _⟩
  · simp [Builtin.append_, run_underlying ht, sizeOf, typeInfo, hi, Builtin.lenOf, Builtin.firstCells]
  · simp [Builtin.append_, run_underlying ht, sizeOf, typeInfo, hi, Builtin.lenOf, Builtin.firstCells, hnc, storeCells]

/-- What an append comes to: nothing; the spare cells of the row are written; a new row. -/
theorem append_core {P : Program} (w : World) (t ty e : Nat) (i : TypeInfo) (z : Value) (size : Nat) (ht : P.underlying t = some (.slice e)) (hi : P.info? e = some i) (hz : i.zero = some z)
    (hsize : i.size = size) (hzs : z.cells.size = size) (hsz : 0 < size)
    (v : Value) (n : Nat) (xs : List Value) (hxl : xs.length = n * size)
    (hold : (n = 0 ∧ v = .slice none 0 0) ∨ ∃ (g cap : Nat) (cur : Array Value), v = .slice (some ⟨g, 0, none⟩) n cap ∧ n ≤ cap ∧ cap ≤ maxLen ∧ cap * size = cur.size ∧ w.heap[g]? = some (.cells cur e (0, 0)) ∧ cur.toList.take (n * size) = xs)
    (A : Option Addr) (m cp : Nat) (news : List Value) (hl : news.length = m * size) (hnews : 0 < m → ∃ g o, A = some ⟨g, o, none⟩ ∧ ∀ (j : Nat) u, news[j]? = some u → w.cell? ⟨g, o + j, none⟩ = some u) (h1 : ∀ u ∈ news, u.oneCell' = true)
    (h63 : n + m ≤ maxLen) (hbytes : (n + m) * i.bytes ≤ 140737488355328) :
    ∃ v' w', (Builtin.append_ #[t, t] ty #[v, .slice A m cp]).run P w = .ok v' w' ∧
      ((m = 0 ∧ v' = v ∧ w' = w) ∨
       (∃ (g cap : Nat) (cur new : Array Value), v = .slice (some ⟨g, 0, none⟩) n cap ∧ cap * size = cur.size ∧ cap ≤ maxLen ∧ n + m ≤ cap ∧ w.heap[g]? = some (.cells cur e (0, 0)) ∧ v' = .slice (some ⟨g, 0, none⟩) (n + m) cap ∧ w' = w.setRow g new ∧ new.size = cur.size ∧ new.toList.take ((n + m) * size) = xs ++ news) ∨
       (∃ (cap : Nat) (cells : Array Value), v' = .slice (some ⟨w.heap.size, 0, none⟩) (n + m) cap ∧ w' = w.drew.alloc (.cells cells e) ∧ cells.size = cap * size ∧ n + m ≤ cap ∧ cap ≤ maxLen ∧ cells.toList.take ((n + m) * size) = xs ++ news)) := by
  subst hsize
  have hsmall : n + m ≤ 9223372036854775807 := by simp only [maxLen] at h63; omega
  have hlen : (xs ++ news).length = (n + m) * i.size := by rw [List.length_append, hxl, hl, Nat.add_mul]
  have grow : ∀ (cells : Array Value) (k : Nat), cells = xs.toArray ++ news.toArray ++ Builtin.zeroCells z.cells k → cells.toList.take ((n + m) * i.size) = xs ++ news ∧ cells.size = (n + m + k) * i.size := by
    rintro cells k rfl
    refine ⟨?_, by simp [size_zeroCells, hzs, hxl, hl, Nat.add_mul]⟩
    simp only [Array.toList_append]
    rw [List.take_append_of_le_length (by simp [hxl, hl, Nat.add_mul])]
    exact List.take_of_length_le (by simp [hxl, hl, Nat.add_mul])
  rcases Nat.eq_zero_or_pos m with h0 | h0
  · subst h0
    have hn : news = [] := List.eq_nil_of_length_eq_zero (by simpa using hl)
    subst hn
    refine ⟨v, w, ?_, .inl ⟨rfl, rfl, rfl⟩⟩
    rcases hold with ⟨rfl, rfl⟩ | ⟨g, cap, cur, rfl, hnc, _⟩
    · cases A <;> simp [Builtin.append_, run_underlying ht, sizeOf, typeInfo, hi, Builtin.lenOf, Builtin.firstCells, loadCells, loadCellsFrom]
    · cases A <;> simp [Builtin.append_, run_underlying ht, sizeOf, typeInfo, hi, Builtin.lenOf, Builtin.firstCells, hnc, storeCells, loadCells, loadCellsFrom]
  · obtain ⟨ga, oa, rfl, hc⟩ := hnews h0
    have hc' : ∀ (j : Nat) u, news[j]? = some u → w.cell? ((⟨ga, oa, none⟩ : Addr).add j) = some u := fun j u hu => by
      rw [show (⟨ga, oa, none⟩ : Addr).add j = ⟨ga, oa + j, none⟩ from by unfold Addr.add; split <;> simp_all]; exact hc j u hu
    rcases hold with ⟨rfl, rfl⟩ | ⟨g, cap, cur, rfl, hnc, hcm, hcur, hg, htake⟩
    · have hxs : xs = [] := List.eq_nil_of_length_eq_zero (by simpa using hxl)
      subst hxs
      simp only [Nat.zero_add] at hbytes hsmall h63
      have hr := run_append_nil (P := P) w t ty e i z ht hi hz ⟨ga, oa, none⟩ m cp news hl hc' h0 (by omega) (by omega)
      have hge := grownCap_ge w m 0 e
      refine ⟨_, _, hr, .inr (.inr ⟨_, _, by simp, rfl, ?_, by simpa using hge, grownCap_le_maxLen w m 0 e h63, ?_⟩)⟩
      · simp [size_zeroCells, hzs, hl, ← Nat.add_mul]
        congr 1; omega
      · have := (grow (([] : List Value).toArray ++ news.toArray ++ Builtin.zeroCells z.cells (grownCap w m 0 e - m)) _ rfl).1
        simpa using this
    · rcases Nat.lt_or_ge cap (n + m) with hlt | hge
      · have hr := run_append_grow (P := P) w t ty e i z ht hi hz ⟨g, 0, none⟩ n cap xs hxl (fun j u hu => by
          rw [← htake, List.getElem?_take] at hu
          split at hu
          · rw [show (⟨g, 0, none⟩ : Addr).add j = ⟨g, 0 + j, none⟩ from by unfold Addr.add; split <;> simp_all]
            simp only [World.cell?, hg, Nat.zero_add]
            simpa using hu
          · cases hu) ⟨ga, oa, none⟩ m cp news hl hc' hlt (by omega) (growslice_fits hlt hbytes)
        have hge := grownCap_ge w (n + m) cap e
        refine ⟨_, _, hr, .inr (.inr ⟨_, _, rfl, rfl, ?_, hge, grownCap_le_maxLen w (n + m) cap e h63, (grow _ _ rfl).1⟩)⟩
        rw [(grow _ _ rfl).2]; congr 1; omega
      · have hfit : n * i.size + news.length ≤ cur.size := by rw [hl, ← hcur, ← Nat.add_mul]; exact Nat.mul_le_mul_right _ hge
        have hr := run_append_room (P := P) w t ty e i ht hi g n cap cur hg ⟨ga, oa, none⟩ m cp news hl hc' h1 hge hfit
        refine ⟨_, _, hr, .inr (.inl ⟨g, cap, cur, _, rfl, hcur, hcm, hge, hg, rfl, rfl, ?_, ?_⟩)⟩
        · simp only [List.size_toArray, List.length_append, List.length_take, List.length_drop, Array.length_toList]; omega
        · simp only [htake]
          rw [List.take_append_of_le_length (by rw [hlen]; exact Nat.le_refl _)]
          exact List.take_of_length_le (by rw [hlen]; exact Nat.le_refl _)

section
variable {P : Program} {T : Tab} {E : Env} {K : KM} {c : Cfg} {a : Act} {w : World} {o : Oper} {r : Res} {val : Operand → AV} {X : Nat → Prop}

/-- what an append takes -/
structure Src (w : World) (X : Nat → Prop) (K : KM) (sz m : Nat) (rows : List (List AV)) (kd : Kd) (v : Value) : Prop where
  len : m = rows.length
  uni : ∀ row ∈ rows, row.length = sz
  val : ∃ (A : Option Addr) (cp : Nat) (news : List Value), v = .slice A m cp ∧ news.length = m * sz ∧ (0 < m → ∃ g o, A = some ⟨g, o, none⟩ ∧ ∀ (j : Nat) u, news[j]? = some u → w.cell? ⟨g, o + j, none⟩ = some u) ∧ (∀ u ∈ news, u.oneCell' = true) ∧
    ∀ (j : Nat) u x, rows.flatten[j]? = some u → news[j]? = some x → VR w (KdX kd X) (KdK kd K) u x

theorem src_sound (hs : SRK E K c a w) {esz m : Nat} {rows : List (List AV)} {kd : Kd} {u : AV} {v : Value} (h : srcRows (olk c.O) esz u = some (m, rows, kd)) (hv : VR w (XX E K c.O) K u v) : Src w (XX E K c.O) K esz m rows kd v := by
  unfold srcRows at h
  split at h
  · injection h with h; injection h with h1 h2; injection h2 with h2 h3; subst h1 h2 h3
    have := VR.nilsl_inv hv
    exact ⟨rfl, by simp, none, 0, [], this, by simp, fun h => by omega, by simp, by simp⟩
  · injection h with h; injection h with h1 h2; injection h2 with h2 h3; subst h1 h2 h3
    obtain ⟨A, cap, e1⟩ := VR.esl_inv hv
    exact ⟨rfl, by simp, some A, cap, [], e1, by simp, fun h => by omega, by simp, by simp⟩
  · split at h
    · rename_i hsz
      have hsz := beq_true hsz
      subst hsz
      injection h with h; injection h with h1 h2; injection h2 with h2 h3; subst h1 h2 h3
      obtain ⟨A, cap, e1, hn, hr, hcap, hA0, cs, hcs, hone, hA, hv'⟩ := VR.rsl_inv hv
      refine ⟨hn, hr, A, cap, cs, e1, by rw [hcs, flat_len hr, hn], fun hpos => ?_, hone, hv'⟩
      obtain ⟨g, b, e, _, _, hc⟩ := hA (by rintro rfl; simp at hn; omega)
      exact ⟨g, b, e, hc⟩
    · cases h
  · rename_i b sz n
    split at h
    · rename_i blk hb
      split at h
      · rename_i hsz hsz2
        have hsz := beq_true hsz
        have hsz2 := beq_true hsz2
        subst hsz
        injection h with h; injection h with h1 h2; injection h2 with h2 h3; subst h1 h2 h3
        have hr := hs.rows b blk hb
        rcases VR.osl_inv hv with ⟨hK, hz, e1⟩ | ⟨g, cap, cur, e', mm, hK, hnm, e1, hc, hnc, hm, hcur⟩
        · subst hz
          exact ⟨by simp, by simp, none, 0, [], e1, by simp, fun h => by omega, by simp, by simp⟩
        · rcases hs.own b blk hb with ⟨k1, _⟩ | ⟨g', k1, cur', hc', hu'⟩
          · rw [hK] at k1; cases k1
          · rw [hK] at k1; injection k1 with k1; injection k1 with k1 k2; injection k1 with k1; subst k1 k2
            rw [hc] at hc'; injection hc' with hc'; injection hc' with h1 h2; subst h1
            have hrt : ∀ row ∈ blk.rows.take n, row.length = sz := fun row h => by rw [← hsz2]; exact hr row (List.mem_of_mem_take h)
            have hlen : (blk.rows.take n).length = n := by rw [List.length_take]; omega
            have hfl := flat_len hrt
            rw [hlen] at hfl
            have hpre : ∀ (j : Nat) u, (blk.rows.take n).flatten[j]? = some u → blk.rows.flatten[j]? = some u := by
              intro j u hu
              have : blk.rows = blk.rows.take n ++ blk.rows.drop n := (List.take_append_drop _ _).symm
              rw [this, List.flatten_append, List.getElem?_append_left (List.getElem?_eq_some_iff.1 hu).1]
              exact hu
            have hsz3 : n * sz ≤ cur.size := by rw [← hcur]; exact Nat.mul_le_mul_right _ hnc
            refine ⟨hlen.symm, hrt, some ⟨g, 0, none⟩, cap, cur.toList.take (n * sz), e1, by simp; omega, fun _ => ⟨g, 0, rfl, fun j u hu => ?_⟩, fun x hx => ?_, fun j u x hu hx => ?_⟩
            · rw [List.getElem?_take] at hu
              split at hu
              · simp only [World.cell?, hc, Nat.zero_add]
                simpa using hu
              · cases hu
            · obtain ⟨j, hj⟩ := List.getElem?_of_mem hx
              rw [List.getElem?_take] at hj
              split at hj
              · rename_i hlt
                have : j < (blk.rows.take n).flatten.length := by omega
                obtain ⟨y, hy, h1y, _⟩ := hu' j _ (hpre j _ (List.getElem?_eq_getElem this))
                have hj' : cur[j]? = some x := by simpa using hj
                rw [hj'] at hy; injection hy with hy; subst hy; exact h1y
              · cases hj
            · rw [List.getElem?_take] at hx
              split at hx
              · rename_i hju
                obtain ⟨y, hy, _, hvy⟩ := hu' j u (hpre j u hu)
                have hx' : cur[j]? = some x := by simpa using hx
                rw [hx'] at hy; injection hy with hy; subst hy; exact hvy
              · cases hx
      · cases h
    · cases h
  · cases h

theorem takes_get {tk sk : Kd} {rows : List (List AV)} {A : Ans} {Q : Res → Prop} (h : (takesKd tk sk rows A).holds P Q) : A.holds P Q ∧ (tk = .any ↔ sk = .any) ∧ ∀ {w : World} {X : Nat → Prop} {K : KM} {j : Nat} {u : AV} {v : Value}, rows.flatten[j]? = some u → VR w (KdX sk X) (KdK sk K) u v → VR w (KdX tk X) (KdK tk K) u v := by
  unfold takesKd at h
  split at h
  · exact ⟨h, by simp, fun _ h => h⟩
  · refine ⟨h.2, by simp, fun hj hv => ?_⟩
    rename_i j u v
    obtain ⟨row, hr, hu⟩ := List.mem_flatten.1 (List.mem_of_getElem? hj)
    exact scalar_sound (h.1 row hr u hu) hv _ _
  · exact ⟨h, by simp, fun _ h => VR.sub h fun _ _ _ => trivial⟩
  · exact ⟨h, by simp, fun _ h => h⟩
  · exact ⟨h, by simp, fun _ h => h⟩
  · exact h.elim
theorem hasRow_app (b : Nat) : ∀ xs ys : List (List AV), hasRow b (xs ++ ys) = (hasRow b xs || hasRow b ys)
  | [], ys => by simp [hasRow]
  | x :: xs, ys => by simp only [List.cons_append, hasRow, hasRow_app b xs ys, Bool.or_assoc]
theorem hasRow_take {b : Nat} {xs : List (List AV)} (h : hasRow b xs = false) (n : Nat) : hasRow b (xs.take n) = false := by
  rw [← List.take_append_drop n xs, hasRow_app, Bool.or_eq_false_iff] at h
  exact h.1
theorem srcRows_any {own : Nat → Option OBlk} {esz m : Nat} {u : AV} {rows : List (List AV)} {kd : Kd} (h : srcRows own esz u = some (m, rows, kd)) (hk : kd = .any) : ∃ b blk n, own b = some blk ∧ blk.kd = .any ∧ rows = blk.rows.take n := by
  unfold srcRows at h
  split at h
  · injection h with h; injection h with _ h; injection h with _ h; subst h; cases hk
  · injection h with h; injection h with _ h; injection h with _ h; subst h; cases hk
  · split at h
    · injection h with h; injection h with _ h; injection h with _ h; subst h; cases hk
    · cases h
  · split at h
    · rename_i blk hb
      split at h
      · injection h with h; injection h with _ h; injection h with h1 h2; exact ⟨_, blk, _, hb, h2.trans hk, h1.symm⟩
      · cases h
    · cases h
  · cases h

theorem hasRow_purge (b : Nat) : ∀ rows : List (List AV), hasRow b (purgeR b rows) = false
  | [] => rfl
  | r :: rs => by
    have : ∀ xs : List AV, AV.hasL b (purgeL b xs) = false := by
      intro xs
      induction xs with
      | nil => rfl
      | cons x xs ih =>
        unfold purgeL
        cases hx : x.has b
        · simp only [AV.hasL, hx, ih, Bool.or_self]
        · simp only [AV.hasL, ih, Bool.or_false]; rfl
    simp only [purgeR, hasRow, this, hasRow_purge b rs, Bool.or_self]

/-- Rows are appended to a block of one's own (or to the nil slice), id b; nothing else speaks of b. -/
theorem append_bind (hs : SRK E K c a w) {b t ty e sz n m : Nat} {ti ei : TypeInfo} {z : Value} (ht : P.underlying t = some (.slice e)) (hi : P.info? e = some ei) (hz : ei.zero = some z) (hsize : ei.size = sz) (hzs : z.cells.size = sz) (hsz : 0 < sz)
    {kd skd : Kd} {old rows : List (List AV)} {v x : Value} (hpn : Nat.ble (b % 16) 1 = true) (hnb : kd = .any → hasRow b (old ++ rows) = false)
    (hfr : ∀ t, (lk c.fr t).has b = false) (hO : ∀ i x, olk c.O i = some x → i ≠ b → x.kd = .any → hasRow b x.rows = false)
    (hold : (old = [] ∧ n = 0 ∧ v = .slice none 0 0) ∨ ∃ (g cap : Nat) (cur : Array Value), (olk c.O b).isSome = true ∧ blkOf K b = some g ∧ v = .slice (some ⟨g, 0, none⟩) n cap ∧ n ≤ cap ∧ cap ≤ maxLen ∧ cap * sz = cur.size ∧ w.heap[g]? = some (.cells cur e (0, 0)) ∧
      ∀ (j : Nat) u, old.flatten[j]? = some u → ∃ y, cur[j]? = some y ∧ y.oneCell' = true ∧ VR w (KdX kd (XX E K c.O)) (KdK kd K) u y)
    (hold_len : old.length = n) (hold_uni : ∀ row ∈ old, row.length = sz)
    (hsrc : Src w (XX E K c.O) K sz m rows skd x) (htk : ∀ {w : World} {X : Nat → Prop} {K : KM} {j : Nat} {u : AV} {v : Value}, rows.flatten[j]? = some u → VR w (KdX skd X) (KdK skd K) u v → VR w (KdX kd X) (KdK kd K) u v)
    (h63 : n + m ≤ maxLen) (hbytes : (n + m) * ei.bytes ≤ 140737488355328) :
    ∃ v' w' K', (Builtin.append_ #[t, t] ty #[v, x]).run P w = .ok v' w' ∧ SRK E K' ⟨c.fr, setO b { e := e, sz := sz, kd := kd, rows := old ++ rows } c.O⟩ a w' ∧ VR w' (XX E K' (setO b { e := e, sz := sz, kd := kd, rows := old ++ rows } c.O)) K' (.osl b sz (n + m)) v' := by
  obtain ⟨hml, huni, A, cp, news, rfl, hnl, hcell, hone, hvn⟩ := hsrc
  -- the cells that are there
  obtain ⟨xs, hxl, hold', hxs⟩ : ∃ xs : List Value, xs.length = n * sz ∧ ((n = 0 ∧ v = .slice none 0 0) ∨ ∃ (g cap : Nat) (cur : Array Value), v = .slice (some ⟨g, 0, none⟩) n cap ∧ n ≤ cap ∧ cap ≤ maxLen ∧ cap * sz = cur.size ∧ w.heap[g]? = some (.cells cur e (0, 0)) ∧ cur.toList.take (n * sz) = xs) ∧
      ∀ (j : Nat) u, old.flatten[j]? = some u → ∃ y, xs[j]? = some y ∧ y.oneCell' = true ∧ VR w (KdX kd (XX E K c.O)) (KdK kd K) u y := by
    rcases hold with ⟨rfl, rfl, rfl⟩ | ⟨g, cap, cur, hb, hK, rfl, hnc, hm, hcur, hc, hu⟩
    · exact ⟨[], by simp, .inl ⟨rfl, rfl⟩, by simp⟩
    · have : n * sz ≤ cur.size := by rw [← hcur]; exact Nat.mul_le_mul_right _ hnc
      refine ⟨cur.toList.take (n * sz), by simp; omega, .inr ⟨g, cap, cur, rfl, hnc, hm, hcur, hc, rfl⟩, fun j u hj => ?_⟩
      obtain ⟨y, hy, h1, hv⟩ := hu j u hj
      refine ⟨y, ?_, h1, hv⟩
      have hlt : j < n * sz := by
        have := (List.getElem?_eq_some_iff.1 hj).1
        rw [flat_len hold_uni, hold_len] at this; exact this
      rw [List.getElem?_take, if_pos hlt]
      simpa using hy
  have hfl_old := flat_len hold_uni
  rw [hold_len] at hfl_old
  have hall : ∀ (j : Nat) u, (old ++ rows).flatten[j]? = some u → ∃ y, (xs ++ news)[j]? = some y ∧ y.oneCell' = true ∧ VR w (KdX kd (XX E K c.O)) (KdK kd K) u y ∧ j < (n + m) * sz := by
    intro j u hj
    have hjl : j < (n + m) * sz := by
      have := (List.getElem?_eq_some_iff.1 hj).1
      rw [List.flatten_append, List.length_append, hfl_old, flat_len huni, ← hml, ← Nat.add_mul] at this; exact this
    rw [List.flatten_append] at hj
    rcases Nat.lt_or_ge j (n * sz) with hlt | hge
    · rw [List.getElem?_append_left (by omega)] at hj
      obtain ⟨y, hy, h1, hv⟩ := hxs j u hj
      exact ⟨y, by rw [List.getElem?_append_left (by omega)]; exact hy, h1, hv, hjl⟩
    · rw [List.getElem?_append_right (by omega), hfl_old] at hj
      have hlt2 : j - n * sz < news.length := by
        rw [hnl]; rw [Nat.add_mul] at hjl; omega
      have hy : news[j - n * sz]? = some news[j - n * sz] := List.getElem?_eq_getElem hlt2
      exact ⟨_, by rw [List.getElem?_append_right (by omega), hxl]; exact hy, hone _ (List.getElem_mem hlt2), htk hj (hvn _ u _ hj hy), hjl⟩
  have hrl : (old ++ rows).length = n + m := by rw [List.length_append, hold_len, ← hml]
  have huni' : ∀ row ∈ old ++ rows, row.length = sz := by
    intro row hr
    rcases List.mem_append.1 hr with h | h
    · exact hold_uni row h
    · exact huni row h
  have hKd : ∀ (x : Option Nat × Nat) (j : Nat) u i, (old ++ rows).flatten[j]? = some u → u.has i = true → KdK kd (upd K b x) i = KdK kd K i := by
    intro x j u i hj hu
    cases hk : kd
    · rfl
    · rfl
    · show upd K b x i = K i
      refine upd_other _ _ ?_
      rintro rfl
      rw [hasRow_get (hnb hk) hj] at hu; cases hu
  -- what the new row says, in a world in which only b's old block may have turned
  have bind : ∀ (w' : World) (g cap : Nat) (cells : Array Value), Step (fun r => (olk c.O b).isSome = true ∧ blkOf K b = some r) w w' → (w.heap.size ≤ g ∨ ((olk c.O b).isSome = true ∧ blkOf K b = some g)) →
      w'.heap[g]? = some (.cells cells e (0, 0)) → cells.toList.take ((n + m) * sz) = xs ++ news → cap * sz = cells.size → cap ≤ maxLen → n + m ≤ cap →
      ∃ K', SRK E K' ⟨c.fr, setO b { e := e, sz := sz, kd := kd, rows := old ++ rows } c.O⟩ a w' ∧ VR w' (XX E K' (setO b { e := e, sz := sz, kd := kd, rows := old ++ rows } c.O)) K' (.osl b sz (n + m)) (.slice (some ⟨g, 0, none⟩) (n + m) cap) := by
    intro w' g cap cells hst hg hc htk' hcs hcm hnm
    refine ⟨_, hs.rebind (blk := { e := e, sz := sz, kd := kd, rows := old ++ rows }) hpn hst hfr hO hg huni' ⟨cells, hc, fun j u hj => ?_⟩, .osl (upd_same _ _ _) (Nat.le_of_eq hrl.symm) hc hnm hcm hcs⟩
    obtain ⟨y, hy, h1, hv, hjl⟩ := hall j u hj
    refine ⟨y, ?_, h1, ?_⟩
    · rw [← htk', List.getElem?_take, if_pos hjl] at hy
      simpa using hy
    · refine hv.keep (KdX_keep (hst.keep.mono fun r _ ⟨h1, h2⟩ => .inl ⟨b, h1, h2⟩)) (KdX_sub fun r hr hX => ?_) (fun i hi => hKd _ j u i hj hi)
      rcases hX with ⟨i, hi', hk⟩ | hX
      · by_cases e' : i = b
        · subst e'
          rw [upd_blk] at hk
          injection hk with hk; subst hk
          rcases hg with hg | ⟨h1, h2⟩
          · omega
          · exact .inl ⟨i, h1, h2⟩
        · rw [upd_blk_other _ _ e'] at hk
          rw [olk_setO, if_neg (fun e'' => e' e''.symm)] at hi'
          exact .inl ⟨i, hi', hk⟩
      · exact .inr hX
  obtain ⟨v', w', hrun, hcases⟩ := append_core (P := P) w t ty e ei z sz ht hi hz hsize hzs hsz v n xs hxl hold' A m cp news hnl hcell hone h63 hbytes
  have mine : ∀ (g cap : Nat), v = .slice (some ⟨g, 0, none⟩) n cap → (olk c.O b).isSome = true ∧ blkOf K b = some g := by
    intro g cap hv
    rcases hold with ⟨_, _, rfl⟩ | ⟨g', cap', cur, hb, hK, rfl, _⟩
    · cases hv
    · injection hv with h1; injection h1 with h1; injection h1 with h1; subst h1; exact ⟨hb, hK⟩
  rcases hcases with ⟨hm0, rfl, rfl⟩ | ⟨g, cap, cur, new, hv, hcs, hcm, hnm, hg, rfl, rfl, hns, htk'⟩ | ⟨cap, cells, rfl, rfl, hcs, hnm, hcm, htk'⟩
  · subst hm0
    have hn0 : news = [] := List.eq_nil_of_length_eq_zero (by simpa using hnl)
    rcases hold' with ⟨hn, rfl⟩ | ⟨g, cap, cur, rfl, hnc, hcm, hcur, hg, htk'⟩
    · subst hn
      have hr0 : old ++ rows = [] := List.eq_nil_of_length_eq_zero hrl
      refine ⟨_, _, _, hrun, hs.rebindNil (blk := { e := e, sz := sz, kd := kd, rows := old ++ rows }) hpn hfr hO hr0, ?_⟩
      exact .oslnil (upd_same _ _ _)
    · obtain ⟨K', h1, h2⟩ := bind w' g cap cur (Step.refl _ _) (.inr (mine g cap rfl)) hg (by rw [hn0]; simpa using htk') hcur hcm (by simpa using hnc)
      exact ⟨_, _, K', hrun, h1, h2⟩
  · obtain ⟨hb, hK⟩ := mine g cap hv
    obtain ⟨K', h1, h2⟩ := bind _ g cap new ((Step.setRow hg hns).mono fun r _ hr => ⟨hb, by rw [hr]; exact hK⟩) (.inr ⟨hb, hK⟩) (setRow_heap w g cur _ e (0, 0) hg) htk' (by rw [hns]; exact hcs) hcm hnm
    exact ⟨_, _, K', hrun, h1, h2⟩
  · have hst : Step (fun r => (olk c.O b).isSome = true ∧ blkOf K b = some r) w (w.drew.alloc (.cells cells e)) := (Step.drawn _ w (w.drawn + 1)).trans (Step.alloc _ w.drew _)
    obtain ⟨K', h1, h2⟩ := bind _ w.heap.size cap cells hst (.inl (Nat.le_refl _)) (heap_new w.drew _) htk' hcs.symm hcm hnm
    exact ⟨_, _, K', hrun, h1, h2⟩
end
end
end Go.Abs
namespace Go.Abs
section
open Go.RowKit
set_option linter.unusedVariables false

section
variable {P : Program} {T : Tab} {E : Env} {K : KM} {c : Cfg} {a : Act} {w : World} {o : Oper} {r : Res} {val : Operand → AV} {X : Nat → Prop}

theorem Src.sub {X X' : Nat → Prop} {sz m : Nat} {rows : List (List AV)} {kd : Kd} {v : Value} (h : Src w X K sz m rows kd v) (hX : ∀ g, g < w.heap.size → X' g → X g) : Src w X' K sz m rows kd v := by
  obtain ⟨h1, h2, A, cp, news, h3, h4, h5, h6, h7⟩ := h
  exact ⟨h1, h2, A, cp, news, h3, h4, h5, h6, fun j u x hu hx => (h7 j u x hu hx).sub (KdX_sub hX)⟩

theorem run_append_op {s x : Operand} {t : TypeId} (ho : o.op = .call { callee := .builtin .append, args := #[s, x], argTypes := #[t, t] }) {v' : Value} {w' : World}
    (h : (Builtin.append_ #[t, t] o.type #[a.eval s, a.eval x]).run P w = .ok v' w') : (execOp a.eval o).run P w = .ok (.value v') w' := by
  simp only [execOp, ho, resolve, invoke, builtin, List.map_toArray, List.map_cons, List.map_nil, Sem.run_bind, Sem.run_pure, Result.andThen_ok, h]

theorem olk_delO (b : Nat) : ∀ (O : List (Nat × OBlk)) (s : Nat), olk (delO b O) s = if b = s then none else olk O s
  | [], s => by simp [delO, olk]
  | (i, x) :: r, s => by
    unfold delO
    cases hb : Nat.beq i b with
    | true =>
      have := beq_true hb
      subst this
      rw [olk_delO i r s, olk_cons]
      by_cases e : i = s
      · rw [if_pos e, if_pos e]
      · rw [if_neg e, if_neg e, if_neg e]
    | false =>
      have := beq_false hb
      rw [olk_cons, olk_cons, olk_delO b r s]
      by_cases e : i = s
      · subst e; rw [if_pos rfl, if_neg (fun e => this e.symm), if_pos rfl]
      · rw [if_neg e, if_neg e]
/-- A block gets another id; the elder one is in no use any more. -/
theorem SRK.rename (h : SRK E K c a w) {b b' : Nat} {blk : OBlk} (hpn : Nat.ble (b' % 16) 1 = true) (hb : olk c.O b = some blk) (h1 : olk c.O b' = none) (h2 : ∀ t, (lk c.fr t).has b' = false) (h3 : ∀ i x, olk c.O i = some x → x.kd = .any → hasRow b' x.rows = false) :
    ∃ K', (∀ i, i ≠ b' → K' i = K i) ∧ K' b' = K b ∧ SRK E K' ⟨c.fr, setO b' blk (delO b c.O)⟩ a w := by
  have hne : b ≠ b' := by rintro rfl; rw [hb] at h1; cases h1
  have hlk : ∀ i, olk (setO b' blk (delO b c.O)) i = if b' = i then some blk else if b = i then none else olk c.O i := fun i => by rw [olk_setO, olk_delO]
  obtain ⟨x, hx⟩ : ∃ x, K b = some x := by
    rcases h.own b blk hb with ⟨k, _⟩ | ⟨g, k, _⟩
    · exact ⟨_, k⟩
    · exact ⟨_, k⟩
  have hK : ∀ i, i ≠ b' → upd K b' x i = K i := fun i hi => upd_other _ _ hi
  have hKb : upd K b' x b' = K b := by rw [upd_same, hx]
  have hblk : ∀ i g, (olk (setO b' blk (delO b c.O)) i).isSome = true → blkOf (upd K b' x) i = some g → ∃ i', (olk c.O i').isSome = true ∧ blkOf K i' = some g ∧ ((i = b' ∧ i' = b) ∨ (i ≠ b' ∧ i ≠ b ∧ i' = i)) := by
    intro i g hi hg
    rw [hlk] at hi
    by_cases e : b' = i
    · subst e
      refine ⟨b, by rw [hb]; rfl, ?_, .inl ⟨rfl, rfl⟩⟩
      have : blkOf (upd K b' x) b' = blkOf K b := by unfold blkOf; rw [hKb]
      rw [← this]; exact hg
    · rw [if_neg e] at hi
      by_cases e2 : b = i
      · rw [if_pos e2] at hi; cases hi
      · rw [if_neg e2] at hi
        exact ⟨i, hi, by rw [← upd_blk_other K x (fun e' => e e'.symm)]; exact hg, .inr ⟨fun e' => e e'.symm, fun e' => e2 e'.symm, rfl⟩⟩
  have hX : ∀ g, g < w.heap.size → XX E (upd K b' x) (setO b' blk (delO b c.O)) g → XX E K c.O g := by
    rintro g hg (⟨i, hi, hk⟩ | hX)
    · obtain ⟨i', k1, k2, _⟩ := hblk i g hi hk
      exact .inl ⟨i', k1, k2⟩
    · exact .inr hX
  refine ⟨upd K b' x, hK, hKb, h.size, h.defers, h.ext, fun t => (h.fr t).keep (Keep.refl _ _) hX fun i hi => hK i (by rintro rfl; rw [h2 t] at hi; cases hi), fun i y hi => ?_, fun i y hi => ?_, fun i i' g k1 k2 l1 l2 => ?_, fun i g k1 l1 => ?_, pin_upd h.pin hpn⟩
  · simp only [hlk] at hi
    by_cases e : b' = i
    · rw [if_pos e] at hi; injection hi with hi; subst hi; exact h.rows b blk hb
    · rw [if_neg e] at hi
      by_cases e2 : b = i
      · rw [if_pos e2] at hi; cases hi
      · rw [if_neg e2] at hi; exact h.rows i y hi
  · simp only [hlk] at hi
    have keepB : ∀ {i y g}, olk c.O i = some y → BlkR w (XX E K c.O) K g y → BlkR w (XX E (upd K b' x) (setO b' blk (delO b c.O))) (upd K b' x) g y := by
      intro i y g hy hB
      refine hB.keep rfl (Keep.refl _ _) hX fun hk j u i' hj hu => hK i' ?_
      rintro rfl
      rw [hasRow_get (h3 i y hy hk) hj] at hu; cases hu
    by_cases e : b' = i
    · rw [if_pos e] at hi; injection hi with hi; subst hi; subst e
      rcases h.own b blk hb with ⟨k1, k2⟩ | ⟨g, k1, k2⟩
      · exact .inl ⟨hKb.trans k1, k2⟩
      · exact .inr ⟨g, hKb.trans k1, keepB hb k2⟩
    · rw [if_neg e] at hi
      by_cases e2 : b = i
      · rw [if_pos e2] at hi; cases hi
      · rw [if_neg e2] at hi
        rcases h.own i y hi with ⟨k1, k2⟩ | ⟨g, k1, k2⟩
        · exact .inl ⟨(hK i fun e' => e e'.symm).trans k1, k2⟩
        · exact .inr ⟨g, (hK i fun e' => e e'.symm).trans k1, keepB hi k2⟩
  · obtain ⟨j, m1, m2, m3⟩ := hblk i g k1 l1
    obtain ⟨j', n1, n2, n3⟩ := hblk i' g k2 l2
    have := h.inj j j' g m1 n1 m2 n2
    rcases m3 with ⟨rfl, rfl⟩ | ⟨m4, m5, rfl⟩ <;> rcases n3 with ⟨rfl, rfl⟩ | ⟨n4, n5, rfl⟩
    · rfl
    · exact absurd this.symm n5
    · exact absurd this m5
    · exact this
  · obtain ⟨j, m1, m2, _⟩ := hblk i g k1 l1
    exact h.mine j g m1 m2
theorem Src.other {K' : KM} {sz m : Nat} {rows : List (List AV)} {kd : Kd} {v : Value} (h : Src w X K sz m rows kd v) (hk : kd = .any → ∀ (j : Nat) u i, rows.flatten[j]? = some u → u.has i = true → K' i = K i) : Src w X K' sz m rows kd v := by
  obtain ⟨h1, h2, A, cp, news, h3, h4, h5, h6, h7⟩ := h
  refine ⟨h1, h2, A, cp, news, h3, h4, h5, h6, fun j u x hu hx => ?_⟩
  have := h7 j u x hu hx
  cases kd
  · exact this
  · exact this
  · exact VR.keep this (Keep.refl _ _) (fun _ _ h => h) fun i hi => hk rfl j u i hu hi

theorem s_append {dr : Bool} (hT : TabOK P T) (hone : ∀ t i, T.get t = some i → oneCells i.zero = true ∧ i.zero.cells.size = i.size) (hs : SRK E K c a w) (hval : Vals E K c a w val)
    {t : TypeId} {s x : Operand} (ho : o.op = .call { callee := .builtin .append, args := #[s, x], argTypes := #[t, t] }) (hf : freshD c r.nw r.D = true)
    (h : (appendA dr T (olk c.O) o.dst t (val s) (val x)).holds P (· = r)) : o.wp P a w (OpPost E c r a o.dst) NoQ := by
  unfold appendA at h
  split at h
  · rename_i ti hti
    split at h
    · rename_i e hk
      obtain ⟨⟨d, hd, hdk⟩, _⟩ := hT.get hti
      rw [hk] at hdk
      have := of_slice hdk
      subst this
      split at h
      · rename_i ei hei
        obtain ⟨_, ⟨je, hje, hjz, hjs, hjb⟩, _⟩ := hT.get hei
        obtain ⟨ho1, hzs⟩ := hone e ei hei
        split at h
        · rename_i m rows skd hsrc hpos
          have hpos := Nat.le_of_ble_eq_true hpos
          have hxv : VR w (XX E K c.O) K (val x) (a.eval x) := (hval x).vr (by rintro d want u e'; rw [e'] at hsrc; cases hsrc)
          have src := src_sound hs hsrc hxv
          split at h
          · rename_i hsv
            have esv := VR.nilsl_inv (hval.at hsv)
            obtain ⟨⟨hby, hml⟩, p, h⟩ := h
            have fin : ∀ kd : Kd, kd ≠ .any → (takesKd kd skd rows (.ret { v := .osl (idOf o.dst 0) ei.size m, D := [(idOf o.dst 0, { e := e, sz := ei.size, kd := kd, rows := rows })], nw := true })).holds P (· = r) → o.wp P a w (OpPost E c r a o.dst) NoQ := by
              intro kd hkd h
              obtain ⟨hr, _, htk⟩ := takes_get h
              have hr : _ = r := hr
              have hf' := hf
              rw [← hr] at hf'
              have hfr := freshD_one hf'
              obtain ⟨f1, f2, f3⟩ := fresh_of hfr
              obtain ⟨v', w', K', hrun, hs', hv'⟩ := append_bind (P := P) (ti := je) (ty := o.type) (hpn := fresh_pin hfr) hs hd hje hjz hjs hzs hpos (old := []) (n := 0) (fun e => absurd e hkd) f2 (fun i x hi _ hk => f3 i x hi hk) (.inl ⟨rfl, rfl, esv⟩) rfl (by simp) src htk (by unfold maxLen; omega) (by rw [hjb]; simpa using hby)
              simp only [List.nil_append, Nat.zero_add] at hs' hv'
              exact wp_new (run_append_op ho hrun) hr hs' hv'
            cases p
            · exact fin _ (by simp) h
            · exact fin _ (by simp) h
          · rename_i b sz n hsv
            split at h
            · rename_i blk hb
              split at h
              · rename_i hsz hbsz hbe
                rw [Bool.and_eq_true, Bool.and_eq_true] at hsz
                have hbp := hsz.1.2
                have hao := hsz.2
                replace hsz := beq_true hsz.1.1
                have hbsz := beq_true hbsz
                have hbe := beq_true hbe
                obtain ⟨⟨hby, hml⟩, h⟩ := h
                obtain ⟨hr, hkd, htk⟩ := takes_get h
                have hr : _ = r := hr
                cases dr with
                | true =>
                simp only at hr
                have hf' := hf
                rw [← hr] at hf'
                have hfr := freshD_one hf'
                obtain ⟨f1, f2, f3⟩ := fresh_of hfr
                obtain ⟨K1, hK1, hKb, hs1⟩ := hs.rename (fresh_pin hfr) hb f1 f2 f3
                have hrb : blk.kd = .any → hasRow (idOf o.dst 0) rows = false := by
                  intro hk'
                  obtain ⟨b', blk', n', q1, q2, q3⟩ := srcRows_any hsrc (hkd.1 hk')
                  rw [q3]; exact hasRow_take (f3 b' blk' q1 q2) n'
                have hX1 : ∀ g, g < w.heap.size → XX E K1 (setO (idOf o.dst 0) blk (delO b c.O)) g → XX E K c.O g := by
                  rintro g hg (⟨i, hi, hk⟩ | hX)
                  · rw [olk_setO, olk_delO] at hi
                    by_cases e : idOf o.dst 0 = i
                    · subst e
                      exact .inl ⟨b, by rw [hb]; rfl, by rw [← hk]; unfold blkOf; rw [hKb]⟩
                    · rw [if_neg e] at hi
                      by_cases e2 : b = i
                      · rw [if_pos e2] at hi; cases hi
                      · rw [if_neg e2] at hi
                        exact .inl ⟨i, hi, by rw [← hk]; exact (blkOf_eq (hK1 i fun e' => e e'.symm)).symm⟩
                  · exact .inr hX
                have huni := hs.rows b blk hb
                have hnle : n ≤ blk.rows.length ∧ ((blk.rows.take n = [] ∧ n = 0 ∧ a.eval s = .slice none 0 0) ∨ ∃ (g cap : Nat) (cur : Array Value), (olk (setO (idOf o.dst 0) blk (delO b c.O)) (idOf o.dst 0)).isSome = true ∧ blkOf K1 (idOf o.dst 0) = some g ∧ a.eval s = .slice (some ⟨g, 0, none⟩) n cap ∧ n ≤ cap ∧ cap ≤ maxLen ∧ cap * ei.size = cur.size ∧ w.heap[g]? = some (.cells cur e (0, 0)) ∧
                    ∀ (j : Nat) u, (blk.rows.take n).flatten[j]? = some u → ∃ y, cur[j]? = some y ∧ y.oneCell' = true ∧ VR w (KdX blk.kd (XX E K1 (setO (idOf o.dst 0) blk (delO b c.O)))) (KdK blk.kd K1) u y) := by
                  rcases VR.osl_inv (hval.at hsv) with ⟨hK, hz, e1⟩ | ⟨g, cap, cur, e', mm, hK, hnm, e1, hc, hnc, hm, hcur⟩
                  · subst hz; exact ⟨Nat.zero_le _, .inl ⟨by simp, rfl, e1⟩⟩
                  · rcases hs.own b blk hb with ⟨k1, _⟩ | ⟨g', k1, cur', hc', hu⟩
                    · rw [hK] at k1; cases k1
                    · rw [hK] at k1; injection k1 with k1; injection k1 with k1 k2; injection k1 with k1; subst k1 k2
                      rw [hc] at hc'; injection hc' with hc'; injection hc' with h1 h2; subst h1
                      refine ⟨hnm, .inr ⟨g, cap, cur, by rw [olk_setO, if_pos rfl]; rfl, by rw [← blkOf_of hK]; unfold blkOf; rw [hKb], e1, hnc, hm, by rw [← hsz]; exact hcur, by rw [← hbe, ← h2]; exact hc, fun j u hj => ?_⟩⟩
                      have hpre : blk.rows.flatten[j]? = some u := by
                        have : blk.rows = blk.rows.take n ++ blk.rows.drop n := (List.take_append_drop _ _).symm
                        rw [this, List.flatten_append, List.getElem?_append_left (List.getElem?_eq_some_iff.1 hj).1]
                        exact hj
                      obtain ⟨y, hy, h1y, hvy⟩ := hu j u hpre
                      refine ⟨y, hy, h1y, ?_⟩
                      have hvy := VR.sub hvy (KdX_sub hX1)
                      revert hvy
                      cases hbk : blk.kd with
                      | pure => exact fun h => h
                      | flat => exact fun h => h
                      | any =>
                        intro h
                        refine VR.keep h (Keep.refl _ _) (fun _ _ h => h) fun i hi => hK1 i fun e => ?_
                        rw [e, hasRow_get (f3 b blk hb hbk) hpre] at hi
                        cases hi
                obtain ⟨v', w', K', hrun, hs', hv'⟩ := append_bind (P := P) (c := ⟨c.fr, setO (idOf o.dst 0) blk (delO b c.O)⟩) (ti := je) (ty := o.type) (b := idOf o.dst 0) (hpn := fresh_pin hfr) hs1 hd hje hjz hjs hzs hpos (old := blk.rows.take n) (n := n) (fun hk' => by rw [hasRow_app, hasRow_take (f3 b blk hb hk') n, hrb hk']; rfl) f2
                  (fun i y hi hi' hk => by
                    rw [olk_setO, olk_delO, if_neg (fun e => hi' e.symm)] at hi
                    by_cases e2 : b = i
                    · rw [if_pos e2] at hi; cases hi
                    · rw [if_neg e2] at hi; exact f3 i y hi hk) hnle.2
                  (by rw [List.length_take]; omega) (fun row hr' => by rw [← hbsz]; exact huni row (List.mem_of_mem_take hr')) ((src.sub hX1).other fun hk' j u i hj hi => hK1 i fun e => (by
                    rw [e, hasRow_get (hrb (hkd.2 hk')) hj] at hi; cases hi)) htk (by unfold maxLen; omega) (by rw [hjb]; exact hby)
                subst hr
                unfold Oper.wp
                rw [run_append_op ho hrun]
                have hblk : ({ e := e, sz := ei.size, kd := blk.kd, rows := blk.rows.take n ++ rows } : OBlk) = { blk with rows := blk.rows.take n ++ rows } := by rw [← hbe, ← hbsz]
                rw [hblk] at hs' hv'
                rw [← hsz] at hv'
                have hlk : ∀ (y : OBlk) i x, olk (setO (idOf o.dst 0) y (delO b c.O)) i = some x → olk (setO (idOf o.dst 0) y (setO (idOf o.dst 0) blk (delO b c.O))) i = some x := by
                  intro y i x hi
                  rw [olk_setO] at hi ⊢
                  by_cases e : idOf o.dst 0 = i
                  · rw [if_pos e] at hi ⊢; exact hi
                  · rw [if_neg e] at hi ⊢; rw [olk_setO, if_neg e]; exact hi
                exact ⟨K', v', rfl, hs'.weak (fun t => .inl rfl) (hlk _), VR.sub hv' fun g _ hg => XX.sub (fun i x hi => ⟨x, hlk _ i x hi⟩) g hg⟩
                | false =>
                have hX : ∀ g, g < w.heap.size → XX E K (purgeO b c.O) g → XX E K c.O g := fun g _ hg => XX.sub (fun i x hi => by
                  rw [olk_purge] at hi
                  cases hy : olk c.O i with
                  | none => rw [hy] at hi; cases hi
                  | some y => exact ⟨y, rfl⟩) g hg
                have hpb : (olk (purgeO b c.O) b).isSome = true := by rw [olk_purge, hb]; rfl
                have hfr : ∀ t, (lk (purgeF b c.fr) t).has b = false := by
                  intro t
                  rw [lk_purge]
                  split
                  · rfl
                  · rename_i h'; simpa using h'
                have hO : ∀ i x, olk (purgeO b c.O) i = some x → i ≠ b → x.kd = .any → hasRow b x.rows = false := by
                  intro i x hi _ hk
                  rw [olk_purge] at hi
                  cases hy : olk c.O i with
                  | none => rw [hy] at hi; cases hi
                  | some y =>
                    rw [hy] at hi
                    injection hi with hi
                    cases hyk : y.kd <;> simp only [hyk] at hi
                    · rw [← hi, hyk] at hk; cases hk
                    · rw [← hi, hyk] at hk; cases hk
                    · rw [← hi]; exact hasRow_purge b y.rows
                have huni := hs.rows b blk hb
                have hnle : n ≤ blk.rows.length ∧ ((blk.rows.take n = [] ∧ n = 0 ∧ a.eval s = .slice none 0 0) ∨ ∃ (g cap : Nat) (cur : Array Value), (olk (purgeO b c.O) b).isSome = true ∧ blkOf K b = some g ∧ a.eval s = .slice (some ⟨g, 0, none⟩) n cap ∧ n ≤ cap ∧ cap ≤ maxLen ∧ cap * ei.size = cur.size ∧ w.heap[g]? = some (.cells cur e (0, 0)) ∧
                    ∀ (j : Nat) u, (blk.rows.take n).flatten[j]? = some u → ∃ y, cur[j]? = some y ∧ y.oneCell' = true ∧ VR w (KdX blk.kd (XX E K (purgeO b c.O))) (KdK blk.kd K) u y) := by
                  rcases VR.osl_inv (hval.at hsv) with ⟨hK, hz, e1⟩ | ⟨g, cap, cur, e', mm, hK, hnm, e1, hc, hnc, hm, hcur⟩
                  · subst hz; exact ⟨Nat.zero_le _, .inl ⟨by simp, rfl, e1⟩⟩
                  · rcases hs.own b blk hb with ⟨k1, _⟩ | ⟨g', k1, cur', hc', hu⟩
                    · rw [hK] at k1; cases k1
                    · rw [hK] at k1; injection k1 with k1; injection k1 with k1 k2; injection k1 with k1; subst k1 k2
                      rw [hc] at hc'; injection hc' with hc'; injection hc' with h1 h2; subst h1
                      refine ⟨hnm, .inr ⟨g, cap, cur, hpb, blkOf_of hK, e1, hnc, hm, by rw [← hsz]; exact hcur, by rw [← hbe, ← h2]; exact hc, fun j u hj => ?_⟩⟩
                      have hpre : blk.rows.flatten[j]? = some u := by
                        have : blk.rows = blk.rows.take n ++ blk.rows.drop n := (List.take_append_drop _ _).symm
                        rw [this, List.flatten_append, List.getElem?_append_left (List.getElem?_eq_some_iff.1 hj).1]
                        exact hj
                      obtain ⟨y, hy, h1y, hvy⟩ := hu j u hpre
                      exact ⟨y, hy, h1y, hvy.sub (KdX_sub hX)⟩
                obtain ⟨v', w', K', hrun, hs', hv'⟩ := append_bind (P := P) (c := ⟨purgeF b c.fr, purgeO b c.O⟩) (ti := je) (ty := o.type) (b := b) (hpn := hbp) (hs.purge b) hd hje hjz hjs hzs hpos (old := blk.rows.take n) (n := n) (fun e => by rw [e] at hao; cases hao) hfr hO hnle.2
                  (by rw [List.length_take]; omega) (fun row hr' => by rw [← hbsz]; exact huni row (List.mem_of_mem_take hr')) (src.sub hX) htk (by unfold maxLen; omega) (by rw [hjb]; exact hby)
                subst hr
                unfold Oper.wp
                rw [run_append_op ho hrun]
                have hblk : ({ e := e, sz := ei.size, kd := blk.kd, rows := blk.rows.take n ++ rows } : OBlk) = { blk with rows := blk.rows.take n ++ rows } := by rw [← hbe, ← hbsz]
                rw [hblk] at hs' hv'
                rw [← hsz] at hv'
                exact ⟨K', v', rfl, hs', hv'⟩
              · exact h.elim
            · exact h.elim
          · exact h.elim
        · exact h.elim
      · exact h.elim
    · exact h.elim
  · exact h.elim

/-! ### calls -/
theorem xfreeT_get : ∀ {xs : List AV} {j : Nat} {u : AV}, AV.xfreeT xs = true → xs[j]? = some u → u = .top ∨ u.scalar = true
  | [], _, _, _, hj => by simp at hj
  | x :: xs, 0, u, h, hj => by
    simp at hj; subst hj
    cases x <;> first | exact .inl rfl | (right; simp only [AV.xfreeT, Bool.and_eq_true] at h; exact h.1)
  | x :: xs, j + 1, u, h, hj => by
    simp at hj
    have : AV.xfreeT xs = true := by
      cases x <;> first | exact h | (simp only [AV.xfreeT, Bool.and_eq_true] at h; exact h.2)
    exact xfreeT_get this hj
theorem xfreeL_get : ∀ {xs : List AV} {j : Nat} {u : AV}, AV.xfreeL xs = true → xs[j]? = some u → u.scalar = true
  | [], _, _, _, h => by simp at h
  | x :: xs, 0, u, h, hj => by simp at hj; subst hj; simp [AV.xfreeL] at h; exact h.1
  | x :: xs, j + 1, u, h, hj => by simp at hj; simp [AV.xfreeL] at h; exact xfreeL_get h.2 hj

theorem KdX_pf {kd : Kd} (hkd : kd ≠ .any) {u : AV} {v : Value} (h : VR w (KdX kd X) (KdK kd K) u v) : VR w (fun _ => False) K0 u v := by
  cases kd
  · exact VR.sub h fun _ _ h => h.elim
  · exact VR.sub h fun _ _ h => h.elim
  · exact absurd rfl hkd

theorem viewCell_sound (hs : SRK E K c a w) {u u' : AV} {v : Value} (h : viewCell (olk c.O) u = some u') (hv : VR w (XX E K c.O) K u v) : VR w (fun _ => False) K0 u' v := by
  have idl : ∀ {u}, VR w (XX E K c.O) K u v → u.idless = true → VR w (fun _ => False) K0 u v := fun hv hi => (idless_sound hv hi K0).sub fun _ _ h => h.elim
  unfold viewCell at h
  split at h
  · rename_i b sz n
    split at h
    · rename_i blk hb
      have fin : Nat.beq sz blk.sz = true → blk.kd ≠ .any → VR w (fun _ => False) K0 (.rsl sz n (blk.rows.take n)) v := by
        intro hsz hkd
        have hsz := beq_true hsz
        have huni := hs.rows b blk hb
        have hsrc : srcRows (olk c.O) sz (.osl b sz n) = some (n, blk.rows.take n, blk.kd) := by
          simp only [srcRows, hb]
          rw [show Nat.beq sz sz = true from Nat.beq_refl sz, show Nat.beq blk.sz sz = true from by rw [← hsz]; exact Nat.beq_refl sz]
        obtain ⟨hl, hu, A, cp, news, e0, hnl, hcell, hone, hvn⟩ := src_sound hs hsrc hv
        have hcs : news.length = (blk.rows.take n).flatten.length := by rw [hnl, flat_len hu, ← hl]
        rcases VR.osl_inv hv with ⟨hK, hz, e1⟩ | ⟨g, cap, cur, e', mm, hK, hnm, e1, hc, hnc, hm, hcur⟩
        · subst hz e1
          exact .rsl (cs := []) (by simp) (by simp) (Nat.le_refl _) (fun _ => rfl) (by simp) (by simp) (by simp) (by simp)
        · rw [e1] at e0
          injection e0 with e2 e3 e4
          subst e1
          refine .rsl hl hu hnc (fun h => by cases h) hcs hone (fun hne => ?_) (fun j u x hu hx => KdX_pf hkd (hvn j u x hu hx))
          have hpos : 0 < n := by
            rcases Nat.eq_zero_or_pos n with h | h
            · subst h; simp at hne
            · exact h
          obtain ⟨g', o', e5, hc'⟩ := hcell hpos
          rw [← e2] at e5
          injection e5 with e5; injection e5 with e5 e6; subst e5 e6
          exact ⟨g, 0, rfl, (Array.getElem?_eq_some_iff.1 hc).1, fun h => h, hc'⟩
      split at h
      · rename_i h1 h2; injection h with h; subst h; exact fin h1 (by rw [h2]; simp)
      · rename_i h1 h2; injection h with h; subst h; exact fin h1 (by rw [h2]; simp)
      · cases h
    · cases h
  · cases h
  · cases h
  · cases h
  · cases h
  · split at h
    · rename_i hi; injection h with h; subst h; exact idl hv hi
    · cases h

theorem viewCells_sound (hs : SRK E K c a w) : ∀ {us us' : List AV} {f : Nat → Option Value}, viewCells (olk c.O) us = some us' → us'.length = us.length ∧ ∀ (j : Nat) u' v, us'[j]? = some u' → (∀ u, us[j]? = some u → VR w (XX E K c.O) K u v) → VR w (fun _ => False) K0 u' v
  | [], us', f, h => by simp [viewCells] at h; subst h; simp
  | x :: xs, us', f, h => by
    simp only [viewCells] at h
    split at h
    · rename_i y ys hy hys
      injection h with h
      subst h
      obtain ⟨h1, h2⟩ := viewCells_sound hs (f := f) hys
      refine ⟨by simp [h1], fun j u' v hj hv => ?_⟩
      cases j with
      | zero => simp at hj; subst hj; exact viewCell_sound hs hy (hv x (by simp))
      | succ j => simp at hj; exact h2 j u' v hj (fun u hu => hv u (by simpa using hu))
    · cases h

theorem viewRows_len {own : Nat → Option OBlk} : ∀ {us us' : List (List AV)}, viewRows own us = some us' → us'.length = us.length ∧ ∀ (j : Nat) r', us'[j]? = some r' → ∃ r, us[j]? = some r ∧ viewCells own r = some r'
  | [], us', h => by simp [viewRows] at h; subst h; simp
  | x :: xs, us', h => by
    simp only [viewRows] at h
    split at h
    · rename_i y ys hy hys
      injection h with h
      subst h
      obtain ⟨h1, h2⟩ := viewRows_len hys
      refine ⟨by simp [h1], fun j r' hj => ?_⟩
      cases j with
      | zero => simp at hj; subst hj; exact ⟨x, by simp, hy⟩
      | succ j => simp at hj; obtain ⟨r, h3, h4⟩ := h2 j r' hj; exact ⟨r, by simpa using h3, h4⟩
    · cases h
theorem viewCells_len {own : Nat → Option OBlk} : ∀ {us us' : List AV}, viewCells own us = some us' → us'.length = us.length ∧ ∀ (j : Nat) u', us'[j]? = some u' → ∃ u, us[j]? = some u ∧ viewCell own u = some u'
  | [], us', h => by simp [viewCells] at h; subst h; simp
  | x :: xs, us', h => by
    simp only [viewCells] at h
    split at h
    · rename_i y ys hy hys
      injection h with h
      subst h
      obtain ⟨h1, h2⟩ := viewCells_len hys
      refine ⟨by simp [h1], fun j r' hj => ?_⟩
      cases j with
      | zero => simp at hj; subst hj; exact ⟨x, by simp, hy⟩
      | succ j => simp at hj; obtain ⟨r, h3, h4⟩ := h2 j r' hj; exact ⟨r, by simpa using h3, h4⟩
    · cases h
theorem viewRows_flat {own : Nat → Option OBlk} : ∀ {us us' : List (List AV)}, viewRows own us = some us' → us'.flatten.length = us.flatten.length ∧ ∀ (j : Nat) u', us'.flatten[j]? = some u' → ∃ u, us.flatten[j]? = some u ∧ viewCell own u = some u'
  | [], us', h => by simp [viewRows] at h; subst h; simp
  | x :: xs, us', h => by
    simp only [viewRows] at h
    split at h
    · rename_i y ys hy hys
      injection h with h
      subst h
      obtain ⟨h1, h2⟩ := viewRows_flat hys
      obtain ⟨c1, c2⟩ := viewCells_len hy
      refine ⟨by simp [h1, c1], fun j u' hj => ?_⟩
      rw [List.flatten_cons] at hj ⊢
      by_cases hlt : j < y.length
      · rw [List.getElem?_append_left hlt] at hj
        obtain ⟨u, h3, h4⟩ := c2 j u' hj
        exact ⟨u, by rw [List.getElem?_append_left (by rw [← c1]; exact hlt)]; exact h3, h4⟩
      · rw [List.getElem?_append_right (by omega)] at hj
        obtain ⟨u, h3, h4⟩ := h2 _ u' hj
        exact ⟨u, by rw [List.getElem?_append_right (by omega), ← c1]; exact h3, h4⟩
    · cases h
theorem view1_sound (hs : SRK E K c a w) {u u' : AV} {v : Value} (h : view1 (olk c.O) u = some u') (hv : VR w (XX E K c.O) K u v) : VR w (fun _ => False) K0 u' v := by
  unfold view1 at h
  split at h
  · rename_i b sz n
    split at h
    · rename_i blk hb
      split at h
      · rename_i hkd
        split at h
        · rename_i rs hsz hrs
          injection h with h
          subst h
          have hsz := beq_true hsz
          have huni := hs.rows b blk hb
          have hsrc : srcRows (olk c.O) sz (.osl b sz n) = some (n, blk.rows.take n, blk.kd) := by
            simp only [srcRows, hb]
            rw [show Nat.beq sz sz = true from Nat.beq_refl sz, show Nat.beq blk.sz sz = true from by rw [← hsz]; exact Nat.beq_refl sz]
          obtain ⟨hl, hu, A, cp, news, e0, hnl, hcell, hone, hvn⟩ := src_sound hs hsrc hv
          obtain ⟨f1, f2⟩ := viewRows_flat hrs
          obtain ⟨g1, g2⟩ := viewRows_len hrs
          have hcs : news.length = rs.flatten.length := by rw [f1, hnl, flat_len hu, ← hl]
          have hu' : ∀ r ∈ rs, r.length = sz := by
            intro r hr
            obtain ⟨j, hj, hje⟩ := List.getElem_of_mem hr
            obtain ⟨r0, h5, h6⟩ := g2 j r (by rw [List.getElem?_eq_getElem hj, hje])
            rw [(viewCells_len h6).1]
            exact hu r0 (List.mem_of_getElem? h5)
          rcases VR.osl_inv hv with ⟨hK, hz, e1⟩ | ⟨g, cap, cur, e', mm, hK, hnm, e1, hc, hnc, hm, hcur⟩
          · subst hz e1
            have hrs0 : rs = [] := by simpa using g1
            subst hrs0
            exact .rsl (cs := []) (by simp) (by simp) (Nat.le_refl _) (fun _ => rfl) (by simp) (by simp) (by simp) (by simp)
          · rw [e1] at e0
            injection e0 with e2 e3 e4
            subst e1
            refine .rsl (by rw [g1]; exact hl) hu' hnc (fun h => by cases h) hcs hone (fun hne => ?_) (fun j u x hu0 hx => ?_)
            · have hpos : 0 < n := by
                rcases Nat.eq_zero_or_pos n with h | h
                · have hrs0 : rs = [] := by subst h; simpa using g1
                  rw [hrs0] at hne; simp at hne
                · exact h
              obtain ⟨g', o', e5, hc'⟩ := hcell hpos
              rw [← e2] at e5
              injection e5 with e5; injection e5 with e5 e6; subst e5 e6
              exact ⟨g, 0, rfl, (Array.getElem?_eq_some_iff.1 hc).1, fun h => h, hc'⟩
            · obtain ⟨u0, h7, h8⟩ := f2 j u hu0
              refine viewCell_sound hs h8 ?_
              have := hvn j u0 x h7 hx
              rw [hkd] at this
              exact this
        · cases h
      · exact viewCell_sound hs h hv
    · cases h
  · rename_i b off
    split at h
    · rename_i blk hb
      split at h
      · rename_i row hkd hrow
        split at h
        · rename_i r' hr'
          injection h with h
          subst h
          obtain ⟨g, hK, rfl⟩ := VR.ovar_inv hv
          rcases hs.own b blk hb with ⟨k1, k2⟩ | ⟨g', k1, hblk⟩
          · rw [show blkOf K b = none from by simp [blkOf, k1]] at hK; cases hK
          · have hlt := hs.live_lt (by simp [hb]) hK
            rw [blkOf_of k1] at hK; injection hK with hK; subst hK
            have hrr := hblk.row (hs.rows b blk hb) (i := 0) (row := row) (by rw [hrow]; rfl)
            simp only [Nat.zero_mul] at hrr
            obtain ⟨cs, c1, c2, c3, c4⟩ := hrr.list
            obtain ⟨v1, v2⟩ := viewCells_sound hs (f := fun _ => none) hr'
            have := VR.rptr (w := w) (X := fun _ => False) (K := K0) (xs := r') (off := off) (g := g') (o := 0) (cs := cs) (by rw [c1, v1]) c3 hlt (fun h => h) c2
              (fun j u x hu hx => v2 j u x hu fun u0 hu0 => c4 j u0 x hu0 hx)
            simpa using this
        · cases h
      · cases h
    · cases h
  · rename_i xs
    split at h
    · rename_i ys hys
      injection h with h
      subst h
      obtain ⟨vs, rfl, l1, h1, v1⟩ := VR.agg_inv hv
      obtain ⟨w1, w2⟩ := viewCells_sound hs (f := fun _ => none) hys
      exact .agg (by rw [w1, l1]) h1 fun j u x hu hx => w2 j u x hu fun u0 hu0 => v1 j u0 x hu0 hx
    · cases h
  · exact viewCell_sound hs h hv

theorem views1_sound (hs : SRK E K c a w) : ∀ {us us' : List AV}, views1 (olk c.O) us = some us' → us'.length = us.length ∧ ∀ (j : Nat) u' v, us'[j]? = some u' → (∀ u, us[j]? = some u → VR w (XX E K c.O) K u v) → VR w (fun _ => False) K0 u' v
  | [], us', h => by simp [views1] at h; subst h; simp
  | x :: xs, us', h => by
    simp only [views1] at h
    split at h
    · rename_i y ys hy hys
      injection h with h
      subst h
      obtain ⟨h1, h2⟩ := views1_sound hs hys
      refine ⟨by simp [h1], fun j u' v hj hv => ?_⟩
      cases j with
      | zero => simp at hj; subst hj; exact view1_sound hs hy (hv x (by simp))
      | succ j => simp at hj; exact h2 j u' v hj (fun u hu => hv u (by simpa using hu))
    · cases h
theorem view_sound (hs : SRK E K c a w) {u u' : AV} {v : Value} (h : view (olk c.O) u = some u') (hv : VR w (XX E K c.O) K u v) : VR w (fun _ => False) K0 u' v := by
  unfold view at h
  split at h
  · split at h
    · rename_i cs hcs
      injection h with h
      subst h
      obtain ⟨vs, rfl, l1, v1⟩ := VR.func_inv hv
      obtain ⟨w1, w2⟩ := views1_sound hs hcs
      exact .func (by rw [w1, l1]) fun j u x hu hx => w2 j u x hu fun u0 hu0 => v1 j u0 x hu0 hx
    · cases h
  · exact view1_sound hs h hv
theorem views_sound (hs : SRK E K c a w) : ∀ {us us' : List AV}, views (olk c.O) us = some us' → us'.length = us.length ∧ ∀ (j : Nat) u' v, us'[j]? = some u' → (∀ u, us[j]? = some u → VR w (XX E K c.O) K u v) → VR w (fun _ => False) K0 u' v
  | [], us', h => by simp [views] at h; subst h; simp
  | x :: xs, us', h => by
    simp only [views] at h
    split at h
    · rename_i y ys hy hys
      injection h with h
      subst h
      obtain ⟨h1, h2⟩ := views_sound hs hys
      refine ⟨by simp [h1], fun j u' v hj hv => ?_⟩
      cases j with
      | zero => simp at hj; subst hj; exact view_sound hs hy (hv x (by simp))
      | succ j => simp at hj; exact h2 j u' v hj (fun u hu => hv u (by simpa using hu))
    · cases h

/-! what has no id is seen as it is -/
theorem viewCell_idless {own : Nat → Option OBlk} {u u' : AV} (h : viewCell own u = some u') (hi : u.idless = true) : u' = u := by
  unfold viewCell at h
  split at h
  · simp [AV.idless] at hi
  · cases h
  · cases h
  · cases h
  · cases h
  · rw [hi] at h; injection h with h; exact h.symm
theorem viewCells_idless {own : Nat → Option OBlk} : ∀ {us us' : List AV}, viewCells own us = some us' → AV.idlessL us = true → us' = us
  | [], us', h, _ => by simp [viewCells] at h; exact h
  | x :: xs, us', h, hi => by
    simp only [viewCells] at h
    simp only [AV.idlessL, Bool.and_eq_true] at hi
    split at h
    · rename_i y ys hy hys
      injection h with h
      subst h
      rw [viewCell_idless hy hi.1, viewCells_idless hys hi.2]
    · cases h
theorem view1_idless {own : Nat → Option OBlk} {u u' : AV} (h : view1 own u = some u') (hi : u.idless = true) : u' = u := by
  unfold view1 at h
  split at h
  · simp [AV.idless] at hi
  · simp [AV.idless] at hi
  · split at h
    · rename_i ys hys
      injection h with h
      subst h
      rw [viewCells_idless hys (by simpa [AV.idless] using hi)]
    · cases h
  · exact viewCell_idless h hi
theorem views1_idless {own : Nat → Option OBlk} : ∀ {us us' : List AV}, views1 own us = some us' → AV.idlessL us = true → us' = us
  | [], us', h, _ => by simp [views1] at h; exact h
  | x :: xs, us', h, hi => by
    simp only [views1] at h
    simp only [AV.idlessL, Bool.and_eq_true] at hi
    split at h
    · rename_i y ys hy hys
      injection h with h
      subst h
      rw [view1_idless hy hi.1, views1_idless hys hi.2]
    · cases h
theorem view_idless {own : Nat → Option OBlk} {u u' : AV} (h : view own u = some u') (hi : u.idless = true) : u' = u := by
  unfold view at h
  split at h
  · split at h
    · rename_i cs hcs
      injection h with h
      subst h
      rw [views1_idless hcs (by simpa [AV.idless] using hi)]
    · cases h
  · exact view1_idless h hi
theorem views_idless {own : Nat → Option OBlk} : ∀ {us us' : List AV}, views own us = some us' → AV.idlessL us = true → us' = us
  | [], us', h, _ => by simp [views] at h; exact h
  | x :: xs, us', h, hi => by
    simp only [views] at h
    simp only [AV.idlessL, Bool.and_eq_true] at hi
    split at h
    · rename_i y ys hy hys
      injection h with h
      subst h
      rw [view_idless hy hi.1, views_idless hys hi.2]
    · cases h
end
end
end Go.Abs
namespace Go.Abs
section
open Go.RowKit
set_option linter.unusedVariables false

section
variable {P : Program} {T : Tab} {E : Env} {K : KM} {c : Cfg} {a : Act} {w : World} {o : Oper} {r : Res} {val : Operand → AV} {X : Nat → Prop}

theorem Step.of_below {w w' : World} (h : Below w.heap.size w w') : Step (fun _ => False) w w' :=
  ⟨⟨h.size, fun g hg _ => h.block g hg, fun g cur e hc => ⟨cur, by rw [h.block g (Array.getElem?_eq_some_iff.1 hc).1]; exact hc, rfl⟩⟩, h.os, h.tape, h.output⟩

theorem xfree1_vr {x : AV} {v : Value} (hx : x.xfree1 = true) (hn : ∀ p e sz n rows, x ≠ .fsl p e sz n rows) (h : VR w X K x v) : ∀ X' K', VR w X' K' x v := by
  intro X' K'
  cases x with
  | agg xs =>
    simp only [AV.xfree1] at hx
    obtain ⟨vs, rfl, l1, h1, v1⟩ := VR.agg_inv h
    exact .agg l1 h1 fun j u y hu hy => by
      rcases xfreeT_get hx hu with rfl | hsc
      · exact .top
      · exact scalar_sound hsc (v1 j u y hu hy) _ _
  | fsl p e sz n rows => exact absurd rfl (hn p e sz n rows)
  | _ => simp only [AV.xfree1] at hx; exact scalar_sound hx h _ _

/-- A result is taken over: a fresh slice becomes a block of one's own. 'X': what the call was told to keep off; w1: the world behind it. -/
theorem adopt1_sound (hs : SRK E K c a w) {id : Nat} {x : AV} {v : Value} {w1 : World} (hst : Step (fun _ => False) w w1) (hrr : RR1 w1 w.heap.size X x v)
    (hX : (∀ g, XX E K c.O g → X g) ∨ x.xfree1 = true) (hf : (adopt1 id x).2 = [] ∨ fresh id c = true) :
    ∃ K', SRK E K' ⟨c.fr, setD (adopt1 id x).2 c.O⟩ a w1 ∧ VR w1 (XX E K' (setD (adopt1 id x).2 c.O)) K' (adopt1 id x).1 v ∧ ((adopt1 id x).2 = [] → K' = K) := by
  have plain : (∀ p e sz n rows, x ≠ .fsl p e sz n rows) → (adopt1 id x) = (x, []) → VR w1 X K0 x v → ∃ K', SRK E K' ⟨c.fr, setD (adopt1 id x).2 c.O⟩ a w1 ∧ VR w1 (XX E K' (setD (adopt1 id x).2 c.O)) K' (adopt1 id x).1 v ∧ ((adopt1 id x).2 = [] → K' = K) := by
    intro hn e hv
    rw [e]
    refine ⟨K, hs.move hst, ?_, fun _ => rfl⟩
    rcases hX with hX | hX
    · exact (hv.sub fun g _ h => hX g h).any K
    · exact xfree1_vr hX hn hv _ _
  cases x with
  | fsl p e sz n rows =>
    simp only [adopt1, setD] at hf ⊢
    have hf : fresh id c = true := hf.resolve_left (by simp)
    obtain ⟨f1, f2, f3⟩ := fresh_of hf
    obtain ⟨hn, huni, hcase⟩ := hrr
    rcases hcase with ⟨hn0, rfl⟩ | ⟨g, cap, cur, rfl, hnc, hBg, hc, hcm, hcur, hu⟩
    · subst hn0
      have hr0 : rows = [] := List.eq_nil_of_length_eq_zero hn.symm
      exact ⟨_, (hs.move hst).rebindNil (fresh_pin hf) (blk := { e := e, sz := sz, kd := kdP p, rows := rows }) f2 (fun i x hi _ hk => f3 i x hi hk) hr0, .oslnil (upd_same _ _ _), fun h => by cases h⟩
    · refine ⟨_, bind_new (blk := { e := e, sz := sz, kd := kdP p, rows := rows }) hs hf hst hBg huni hc fun j u hj => ?_, (.osl (upd_same _ _ _) (Nat.le_of_eq hn) hc hnc hcm hcur), fun h => by cases h⟩
      obtain ⟨y, hy, h1, hv⟩ := hu j u hj
      refine ⟨(by intro hk; cases p <;> cases hk), y, hy, h1, ?_⟩
      cases p
      · refine hv.sub fun h _ hX' => .inr ?_
        rcases hX' with hX' | hX'
        · rcases hX with hX | hX
          · exact .inl (hX h hX')
          · simp [AV.xfree1] at hX
        · exact .inr hX'
      · exact hv.sub fun h _ _ => .inl rfl
  | _ => exact plain (by intros; simp) rfl hrr

theorem adopt_sound_own (hs : SRK E K c a w) {d : Option Nat} {x : AV} {v : Value} {w1 : World} (hst : Step (fun _ => False) w w1) (hrr : RR w1 w.heap.size X x v)
    (hX : (∀ g, XX E K c.O g → X g) ∨ x.xfree = true) (hok : okTup x = true) (hf : freshD c (adopt false d x).nw (adopt false d x).D = true) :
    ∃ K', SRK E K' (c.eff (adopt false d x)) a w1 ∧ VR w1 (XX E K' (c.eff (adopt false d x)).O) K' (adopt false d x).v v := by
  have one : ∀ y, adopt false d x = { v := (adopt1 (idOf d 0) y).1, D := (adopt1 (idOf d 0) y).2, nw := true } → RR1 w1 w.heap.size X y v → ((∀ g, XX E K c.O g → X g) ∨ y.xfree1 = true) → ∃ K', SRK E K' (c.eff (adopt false d x)) a w1 ∧ VR w1 (XX E K' (c.eff (adopt false d x)).O) K' (adopt false d x).v v := by
    intro y e hrr hX
    rw [e] at hf ⊢
    suffices h : _ ∨ _ by
      obtain ⟨K', h1, h2, _⟩ := adopt1_sound hs hst hrr hX h
      exact ⟨K', h1, h2⟩
    cases hD : (adopt1 (idOf d 0) y).2 with
    | nil => exact .inl rfl
    | cons p ps =>
      right
      cases y <;> simp only [adopt1] at hD <;> first | (cases hD; done) | skip
      simp only [adopt1] at hf
      exact freshD_one hf
  cases x with
  | tup xs =>
    cases xs with
    | nil =>
      obtain ⟨vs, rfl, l1, v1⟩ := VR.tup_inv (show VR w1 X K0 (.tup []) v from hrr)
      exact ⟨K, hs.move hst, .tup l1 (by simp)⟩
    | cons x xs =>
      obtain ⟨vs, rfl, hvl, ⟨c0, hc0, hr0⟩, hrest⟩ := hrr
      have hX1 : (∀ g, XX E K c.O g → X g) ∨ x.xfree1 = true := by
        rcases hX with hX | hX
        · exact .inl hX
        · simp only [AV.xfree, Bool.and_eq_true] at hX; exact .inr hX.1
      have hfr : (adopt1 (idOf d 0) x).2 = [] ∨ fresh (idOf d 0) c = true := by
        cases hD : (adopt1 (idOf d 0) x).2 with
        | nil => exact .inl rfl
        | cons p ps =>
          right
          cases x <;> simp only [adopt1] at hD <;> first | (cases hD; done) | skip
          simp only [adopt, adopt1] at hf
          exact freshD_one hf
      obtain ⟨K', hs', hv', hKK⟩ := adopt1_sound hs hst hr0 hX1 hfr
      refine ⟨K', hs', .tup (by simp [hvl]) fun j u y hu hy => ?_⟩
      cases j with
      | zero =>
        simp only [List.getElem?_cons_zero, Option.some.injEq] at hu
        rw [hc0] at hy
        injection hy with hy
        subst hy hu
        exact hv'
      | succ j =>
        simp only [List.getElem?_cons_succ] at hu
        have hv := hrest j u y hu hy
        -- a fresh slice at the head: plain values behind it
        by_cases hfsl : ∃ p e sz n rows, x = .fsl p e sz n rows
        · obtain ⟨p, e, sz, n, rows, rfl⟩ := hfsl
          simp only [okTup] at hok
          exact scalar_sound (xfreeL_get hok hu) hv _ _
        · have hD : (adopt1 (idOf d 0) x) = (x, []) := by
            cases x <;> first | rfl | exact absurd ⟨_, _, _, _, _, rfl⟩ hfsl
          have hO : (c.eff (adopt false d (.tup (x :: xs)))).O = c.O := by simp [Cfg.eff, adopt, hD, setD]
          rw [hO]
          rcases hX with hX | hX
          · rw [hKK (by rw [hD])]
            exact (hv.sub fun g _ h => hX g h).any K
          · simp only [AV.xfree, Bool.and_eq_true] at hX
            exact scalar_sound (xfreeL_get hX.2 hu) hv _ _
  | _ => exact one _ rfl hrr hX

theorem seen1_sound (hs : SRK E K c a w) {x : AV} {v : Value} {w1 : World} (hst : Step (fun _ => False) w w1) (hrr : RR1 w1 w.heap.size X x v)
    (hX : (∀ g, XX E K c.O g → X g) ∨ x.xfree1 = true) : VR w1 (XX E K c.O) K (seen1 x) v := by
  have hlive : ∀ g, XX E K c.O g → g < w.heap.size := by
    rintro g (⟨b, hb, hk⟩ | ⟨_, hg⟩)
    · exact hs.live_lt hb hk
    · exact Nat.lt_of_lt_of_le hg hs.ext.size
  have plain : (∀ p e sz n rows, x ≠ .fsl p e sz n rows) → seen1 x = x → VR w1 X K0 x v → VR w1 (XX E K c.O) K (seen1 x) v := by
    intro hn e hv
    rw [e]
    rcases hX with hX | hX
    · exact (hv.sub fun g _ h => hX g h).any K
    · exact xfree1_vr hX hn hv _ _
  cases x with
  | fsl p e sz n rows =>
    obtain ⟨hn, huni, hcase⟩ := hrr
    simp only [seen1]
    rcases hcase with ⟨hn0, rfl⟩ | ⟨g, cap, cur, rfl, hnc, hBg, hc, hcm, hcur, hu⟩
    · subst hn0
      have hr0 : rows = [] := List.eq_nil_of_length_eq_zero hn.symm
      subst hr0
      exact .rsl (cs := []) (by simp) (by simp) (Nat.le_refl _) (fun _ => rfl) (by simp) (by simp) (by simp) (by simp)
    · have hfl := flat_len huni
      have hsz : rows.flatten.length ≤ cur.size := by rw [hfl, ← hn, ← hcur]; exact Nat.mul_le_mul_right _ hnc
      have hget : ∀ (j : Nat) y, (cur.toList.take rows.flatten.length)[j]? = some y → j < rows.flatten.length ∧ cur[j]? = some y := by
        intro j y hy
        rw [List.getElem?_take] at hy
        split at hy
        · rename_i h; exact ⟨h, by simpa using hy⟩
        · cases hy
      refine .rsl (cs := cur.toList.take rows.flatten.length) hn huni hnc (fun h => by cases h) (by rw [List.length_take, Array.length_toList]; exact Nat.min_eq_left hsz) (fun y hy => ?_) (fun _ => ⟨g, 0, rfl, (Array.getElem?_eq_some_iff.1 hc).1, fun h => by have := hlive g h; omega, fun j y hy => ?_⟩) (fun j u y hu' hy => ?_)
      · obtain ⟨j, hj⟩ := List.getElem?_of_mem hy
        obtain ⟨hlt, hcj⟩ := hget j y hj
        obtain ⟨z, hz, h1, _⟩ := hu j _ (List.getElem?_eq_getElem hlt)
        rw [hcj] at hz; injection hz with hz; subst hz; exact h1
      · simp only [World.cell?, hc, Nat.zero_add]
        simpa using (hget j y hy).2
      · obtain ⟨z, hz, _, hv⟩ := hu j u hu'
        rw [(hget j y hy).2] at hz; injection hz with hz; subst hz
        refine hv.sub fun h _ hx => ?_
        rcases hX with hX | hX
        · exact .inr (.inl (hX h hx))
        · simp only [AV.xfree1] at hX; exact .inl hX
  | _ => exact plain (by intros; simp) rfl hrr

theorem adopt_sound (hs : SRK E K c a w) {dr : Bool} {d : Option Nat} {x : AV} {v : Value} {w1 : World} (hst : Step (fun _ => False) w w1) (hrr : RR w1 w.heap.size X x v)
    (hX : (∀ g, XX E K c.O g → X g) ∨ x.xfree = true) (hok : okTup x = true) (hf : freshD c (adopt dr d x).nw (adopt dr d x).D = true) :
    ∃ K', SRK E K' (c.eff (adopt dr d x)) a w1 ∧ VR w1 (XX E K' (c.eff (adopt dr d x)).O) K' (adopt dr d x).v v := by
  cases dr
  · exact adopt_sound_own hs hst hrr hX hok hf
  · have one : ∀ y, adopt true d x = { v := seen1 y } → RR1 w1 w.heap.size X y v → ((∀ g, XX E K c.O g → X g) ∨ y.xfree1 = true) → ∃ K', SRK E K' (c.eff (adopt true d x)) a w1 ∧ VR w1 (XX E K' (c.eff (adopt true d x)).O) K' (adopt true d x).v v := by
      intro y e hrr hX
      rw [e]
      exact ⟨K, hs.move hst, seen1_sound hs hst hrr hX⟩
    cases x with
    | tup xs =>
      cases xs with
      | nil =>
        obtain ⟨vs, rfl, l1, v1⟩ := VR.tup_inv (show VR w1 X K0 (.tup []) v from hrr)
        exact ⟨K, hs.move hst, .tup l1 (by simp)⟩
      | cons x xs =>
        obtain ⟨vs, rfl, hvl, ⟨c0, hc0, hr0⟩, hrest⟩ := hrr
        have hX1 : (∀ g, XX E K c.O g → X g) ∨ x.xfree1 = true := by
          rcases hX with hX | hX
          · exact .inl hX
          · simp only [AV.xfree, Bool.and_eq_true] at hX; exact .inr hX.1
        refine ⟨K, hs.move hst, .tup (by simp [hvl]) fun j u y hu hy => ?_⟩
        cases j with
        | zero =>
          simp only [List.getElem?_cons_zero, Option.some.injEq] at hu
          rw [hc0] at hy
          injection hy with hy
          subst hy hu
          exact seen1_sound hs hst hr0 hX1
        | succ j =>
          simp only [List.getElem?_cons_succ] at hu
          have hv := hrest j u y hu hy
          rcases hX with hX | hX
          · exact (hv.sub fun g _ h => hX g h).any K
          · simp only [AV.xfree, Bool.and_eq_true] at hX
            exact scalar_sound (xfreeL_get hX.2 hu) hv _ _
    | _ => exact one _ rfl hrr hX

theorem s_call {dr : Bool} (hs : SRK E K c a w) (hval : Vals E K c a w val) {f : Operand} {args : Array Operand} {ts : Array TypeId} (ho : o.op = .call { callee := .value f, args := args, argTypes := ts }) (hf : freshD c r.nw r.D = true)
    (h : Ans.holds P (match view (olk c.O) (val f), views (olk c.O) (args.toList.map val) with
    | some (.func g caps), some as => .call g (as ++ caps) fun r => match (val f).idless && AV.idlessL (args.toList.map val) || r.xfree, okTup r with
      | true, true => match drs dr, isF r with
        | true, true => .exB fun p => .ret (adopt p o.dst r)
        | dr, _ => .ret (adopt dr o.dst r)
      | _, _ => .no
    | _, _ => .no) (· = r)) : o.wp P a w (OpPost E c r a o.dst) NoQ := by
  split at h
  · rename_i g caps as hvf hvs
    obtain ⟨x, ⟨⟨fn, hfn, hname, hbody⟩, hfun⟩, h⟩ := h
    simp only at h
    split at h
    · rename_i hxf hok
      obtain ⟨dr', hr⟩ : ∃ dr', adopt dr' o.dst x = r := by
        split at h
        · obtain ⟨p, h⟩ := h; exact ⟨p, h⟩
        · exact ⟨_, h⟩
      -- the callee's value
      have hnf : ∀ d want u, val f ≠ .opt d want u := by rintro d want u e; rw [e] at hvf; simp [view, view1, viewCell] at hvf
      have hfv := view_sound hs hvf ((hval f).vr hnf)
      obtain ⟨cv, ef, cl, cvv⟩ := VR.func_inv hfv
      obtain ⟨ml, mv⟩ := map_vals hval args
      obtain ⟨al, av⟩ := views_sound hs hvs
      have hnoa : ∀ (j : Nat) u, (args.toList.map val)[j]? = some u → ∀ d want u', u ≠ .opt d want u' := by
        have aux : ∀ {us us' : List AV}, views (olk c.O) us = some us' → ∀ (j : Nat) u, us[j]? = some u → ∀ d want u', u ≠ .opt d want u' := by
          intro us
          induction us with
          | nil => intro us' _ j u hu; simp at hu
          | cons y ys ih =>
            intro us' h j u hu d want u' e
            simp only [views] at h
            split at h
            · rename_i z zs hz hzs
              cases j with
              | zero => simp at hu; subst hu; rw [e] at hz; simp [view, view1, viewCell] at hz
              | succ j => exact ih hzs j u (by simpa using hu) d want u' e
            · cases h
        exact aux hvs
      have hsize : (as ++ caps).length = (args.map a.eval ++ cv).size := by
        simp only [List.length_append, Array.size_append, Array.size_map, al, List.length_map, Array.length_toList, cl]
      have hargs0 : ∀ (j : Nat) u v, (as ++ caps)[j]? = some u → (args.map a.eval ++ cv)[j]? = some v → VR w (fun _ => False) K0 u v := by
        intro j u v hu hv
        have hasl : as.length = (args.map a.eval).size := by simp [al]
        rcases Nat.lt_or_ge j as.length with hlt | hge
        · rw [List.getElem?_append_left hlt] at hu
          rw [Array.getElem?_append_left (by omega)] at hv
          refine av j u v hu fun u0 hu0 => FV.vr (mv j u0 v hu0 (by simpa using hv)) (hnoa j u0 hu0)
        · rw [List.getElem?_append_right hge] at hu
          rw [Array.getElem?_append_right (by omega)] at hv
          rw [hasl] at hu
          exact cvv _ u v hu hv
      obtain ⟨X, hXvals, hX⟩ : ∃ X : Nat → Prop, (∀ (j : Nat) u v, (as ++ caps)[j]? = some u → (args.map a.eval ++ cv)[j]? = some v → VR w X K0 u v) ∧ ((∀ g, XX E K c.O g → X g ∧ g < w.heap.size) ∨ x.xfree = true) := by
        rw [Bool.or_eq_true, Bool.and_eq_true] at hxf
        rcases hxf with ⟨hi1, hi2⟩ | hxf
        · refine ⟨XX E K c.O, fun j u v hu hv => ?_, .inl fun g hg => ⟨hg, ?_⟩⟩
          · have e1 := view_idless hvf hi1
            have e2 := views_idless hvs hi2
            have hfv' := (hval f).vr hnf
            rw [← e1] at hfv'
            obtain ⟨cv', ef', cl', cvv'⟩ := VR.func_inv hfv'
            rw [ef] at ef'
            injection ef' with _ _ ec
            subst ec
            have hasl : as.length = (args.map a.eval).size := by simp [al]
            rcases Nat.lt_or_ge j as.length with hlt | hge
            · rw [List.getElem?_append_left hlt] at hu
              rw [Array.getElem?_append_left (by omega)] at hv
              rw [e2] at hu
              exact idless_sound (FV.vr (mv j u v hu (by simpa using hv)) (hnoa j u hu)) (idlessL_get hi2 hu) K0
            · rw [List.getElem?_append_right hge] at hu
              rw [Array.getElem?_append_right (by omega)] at hv
              rw [hasl] at hu
              rw [← e1] at hi1
              exact idless_sound (cvv' _ u v hu hv) (idlessL_get (by simpa [AV.idless] using hi1) hu) K0
          · rcases hg with ⟨b, hb, hk⟩ | ⟨_, hg⟩
            · exact hs.live_lt hb hk
            · exact Nat.lt_of_lt_of_le hg hs.ext.size
        · exact ⟨fun _ => False, hargs0, .inr hxf⟩
      unfold Oper.wp
      have hrun : (execOp a.eval o).run P w = .ok (.enter g (args.map a.eval ++ cv)) w := by
        simp only [execOp, ho, resolve, ef, Deferred.ofValue, Sem.run_bind, Sem.run_pure, Result.andThen_ok, invoke, callFunc, run_program]
        simp [hfn, hname, hbody]
      rw [hrun, Oper.upon_enter]
      refine (hfun X w _ (E.hwi _ hs.ext) hsize hXvals).mono ?_
      rintro e w1 ⟨v, rfl, hrr, hb⟩
      have hst := Step.of_below hb
      rw [← hr] at hf
      obtain ⟨K', hs', hv'⟩ := adopt_sound hs hst hrr hX hok hf
      rw [hr] at hs' hv'
      exact ⟨K', v, rfl, hs', hv'⟩
    · exact h.elim
  · exact h.elim

theorem s_clear (hT : TabOK P T) (hone : ∀ t i, T.get t = some i → oneCells i.zero = true ∧ i.zero.cells.size = i.size) (hs : SRK E K c a w) (hval : Vals E K c a w val)
    {t : TypeId} {x : Operand} (ho : o.op = .call { callee := .builtin .clear, args := #[x], argTypes := #[t] })
    (h : (clearA T (olk c.O) t (val x)).holds P (· = r)) : o.wp P a w (OpPost E c r a o.dst) NoQ := by
  unfold clearA at h
  split at h
  · rename_i ti hti
    split at h
    · rename_i e hk
      obtain ⟨⟨d, hd, hdk⟩, _⟩ := hT.get hti
      rw [hk] at hdk
      have := of_slice hdk
      subst this
      split at h
      · rename_i ei hei
        obtain ⟨_, ⟨je, hje, hjz, hjs, hjb⟩, _⟩ := hT.get hei
        obtain ⟨ho1, hzs⟩ := hone e ei hei
        split at h
        · rename_i b sz lo n hx
          split at h
          · rename_i blk hb
            split at h
            · rename_i z hsz hesz hz
              have hsz := beq_true hsz
              have hesz := beq_true hesz
              split at h
              · rename_i hzl hpos hfit
                have hzl := beq_true hzl
                have hpos := Nat.le_of_ble_eq_true hpos
                obtain ⟨hle, h⟩ := h
                have hr : _ = r := h
                obtain ⟨A, cap, e1, hA⟩ := VR.osuf_inv (hval.at hx)
                have hrows := hs.rows b blk hb
                have hrun0 : ∀ w', ((match (some (TypeDesc.slice e)), (Value.slice A n cap) with
                    | _, _ => (Builtin.clear_ #[t] o.type #[.slice A n cap])).run P w = .ok (.tuple #[]) w') → (execOp a.eval o).run P w = .ok (.value (.tuple #[])) w' := by
                  intro w' hw
                  simp only [execOp, ho, resolve, invoke, builtin, List.map_toArray, List.map_cons, List.map_nil, e1, Sem.run_bind, Sem.run_pure, Result.andThen_ok]
                  simp only at hw
                  rw [hw]; rfl
                have hnew : ∀ row ∈ blk.rows.take lo ++ List.replicate n z ++ blk.rows.drop (lo + n), row.length = blk.sz := by
                  intro row hrow
                  rw [List.mem_append, List.mem_append] at hrow
                  rcases hrow with (hrow | hrow) | hrow
                  · exact hrows row (List.mem_of_mem_take hrow)
                  · rw [(List.mem_replicate.1 hrow).2, hzl, hsz]
                  · exact hrows row (List.mem_of_mem_drop hrow)
                have hlen : (blk.rows.take lo ++ List.replicate n z ++ blk.rows.drop (lo + n)).length = blk.rows.length := by
                  simp only [List.length_append, List.length_take, List.length_replicate, List.length_drop]; omega
                by_cases hn : n = 0
                · subst hn
                  have hsame : blk.rows.take lo ++ List.replicate 0 z ++ blk.rows.drop (lo + 0) = blk.rows := by simp
                  subst hr
                  have hrun : (execOp a.eval o).run P w = .ok (.value (.tuple #[])) w := by
                    refine hrun0 w ?_
                    cases A <;> simp [Builtin.clear_, run_underlying hd]
                  unfold Oper.wp
                  rw [hrun]
                  refine ⟨K, _, rfl, ?_, .top⟩
                  rw [hsame]
                  refine hs.weak (fun t => .inl rfl) fun i y hi => ?_
                  simp only [Cfg.eff, setD, olk_setO] at hi
                  by_cases e : b = i
                  · subst e; rw [if_pos rfl] at hi; injection hi with hi; subst hi; exact hb
                  · rw [if_neg e] at hi; exact hi
                · obtain ⟨g, m, hK, hm, rfl⟩ := hA (by omega)
                  rcases hs.own b blk hb with ⟨k1, _⟩ | ⟨g', k1, cur, hc, hu⟩
                  · rw [hK] at k1; cases k1
                  · have hkk := hK
                    rw [hK] at k1; injection k1 with k1; injection k1 with k1 k2; injection k1 with k1; subst k1 k2
                    have hzv := ofVal_sound w (XX E K c.O) K ei.zero ho1
                    obtain ⟨q1, q2, q3⟩ := cellsOf_sound hz hzv
                    have hflat := flat_len hrows
                    have hcur : blk.rows.flatten.length ≤ cur.size := by
                      by_cases h0 : blk.rows.flatten.length = 0
                      · omega
                      · obtain ⟨y, hy, _⟩ := hu (blk.rows.flatten.length - 1) _ (List.getElem?_eq_getElem (by omega))
                        have := (Array.getElem?_eq_some_iff.1 hy).1
                        omega
                    have hzc : (Builtin.zeroCells ei.zero.cells n).toList.length = n * blk.sz := by
                      simp [Builtin.zeroCells, hzs, ← hesz, hsz]
                    have hzget : ∀ (j : Nat), j < n * blk.sz → ∃ y, (Builtin.zeroCells ei.zero.cells n).toList[j]? = some y ∧ ei.zero.cells[j % blk.sz]? = some y := by
                      intro j hj
                      have hm' : j % blk.sz < ei.zero.cells.size := by rw [hzs, ← hesz, hsz]; exact Nat.mod_lt _ (by omega)
                      refine ⟨ei.zero.cells[j % blk.sz], ?_, by simp [hm']⟩
                      have hzs' : ei.zero.cells.size = blk.sz := by rw [hzs, ← hesz, hsz]
                      simp [Builtin.zeroCells, hzs', hj]
                      exact getElem!_pos ei.zero.cells (j % blk.sz) hm'
                    have hbnd : lo * blk.sz + n * blk.sz ≤ cur.size := by
                      refine Nat.le_trans ?_ hcur
                      rw [hflat, ← Nat.add_mul]
                      exact Nat.mul_le_mul_right _ hle
                    have hone' : ∀ y ∈ (Builtin.zeroCells ei.zero.cells n).toList, y.oneCell' = true := by
                      intro y hy
                      obtain ⟨j, hj⟩ := List.getElem?_of_mem hy
                      have hjl : j < n * blk.sz := by rw [← hzc]; exact (List.getElem?_eq_some_iff.1 hj).1
                      obtain ⟨y', h1', h2'⟩ := hzget j hjl
                      rw [hj] at h1'; injection h1' with h1'; subst h1'
                      exact q2 _ _ h2'
                    have hrun1 := run_storeCells_at P g (lo * blk.sz) blk.e (Builtin.zeroCells ei.zero.cells n).toList 0 cur w hc (by rw [hzc]; simpa using hbnd) hone'
                    simp only [Nat.add_zero] at hrun1
                    generalize hnewc : (cur.toList.take (lo * blk.sz) ++ (Builtin.zeroCells ei.zero.cells n).toList ++ cur.toList.drop (lo * blk.sz + (Builtin.zeroCells ei.zero.cells n).toList.length)).toArray = new at hrun1
                    have hns : new.size = cur.size := by
                      rw [← hnewc]
                      simp only [List.size_toArray, List.length_append, List.length_take, List.length_drop, Array.length_toList, hzc]
                      omega
                    have hst : Step (fun r => r = g) w (w.setRow g new) := Step.setRow hc hns
                    have hkeep : Keep (XX E K c.O) w (w.setRow g new) := hst.keep.mono fun r _ hr' => .inl ⟨b, by simp [hb], by rw [hr']; exact blkOf_of hkk⟩
                    have hrun : (execOp a.eval o).run P w = .ok (.value (.tuple #[])) (w.setRow g new) := by
                      refine hrun0 _ ?_
                      rw [← hsz] at hrun1
                      have hz1 : ∀ w : World, (zeroValue e).run P w = .ok ei.zero w := fun w => by simp [zeroValue, typeInfo, hje, hjz]
                      have : ∀ k, n = k + 1 → (Builtin.clear_ #[t] o.type #[.slice (some ⟨g, lo * sz, none⟩) n cap]).run P w = .ok (.tuple #[]) (w.setRow g new) := by
                        rintro k rfl
                        simp only [Builtin.clear_]
                        simp [run_underlying hd, hz1, hrun1]
                      exact this (n - 1) (by omega)
                    subst hr
                    unfold Oper.wp
                    rw [hrun]
                    refine ⟨K, _, rfl, ?_, .top⟩
                    refine hs.write (blk := { blk with rows := blk.rows.take lo ++ List.replicate n z ++ blk.rows.drop (lo + n) }) hb (blkOf_of hkk) hlen hst hnew ?_
                    refine ⟨new, setRow_heap w g cur _ blk.e (0, 0) hc, fun p u' hp => ?_⟩
                    have htk : (blk.rows.take lo).flatten.length = lo * blk.sz := by
                      rw [flat_len (sz := blk.sz) fun row hr => hrows row (List.mem_of_mem_take hr), List.length_take]; congr 1; omega
                    have hrp : (List.replicate n z).flatten.length = n * blk.sz := by
                      rw [flat_len (sz := blk.sz) fun row hr => by rw [(List.mem_replicate.1 hr).2, hzl, hsz], List.length_replicate]
                    have hsplit : blk.rows.flatten = (blk.rows.take lo).flatten ++ (blk.rows.drop lo).flatten := by rw [← List.flatten_append, List.take_append_drop]
                    have hsplit2 : blk.rows.flatten = (blk.rows.take (lo + n)).flatten ++ (blk.rows.drop (lo + n)).flatten := by rw [← List.flatten_append, List.take_append_drop]
                    have htk2 : (blk.rows.take (lo + n)).flatten.length = (lo + n) * blk.sz := by
                      rw [flat_len (sz := blk.sz) fun row hr => hrows row (List.mem_of_mem_take hr), List.length_take]; congr 1; omega
                    have hadd : (lo + n) * blk.sz = lo * blk.sz + n * blk.sz := Nat.add_mul ..
                    have hl1 : (cur.toList.take (lo * blk.sz)).length = lo * blk.sz := by simp only [List.length_take, Array.length_toList]; omega
                    have hl2 : (cur.toList.take (lo * blk.sz) ++ (Builtin.zeroCells ei.zero.cells n).toList).length = lo * blk.sz + n * blk.sz := by rw [List.length_append, hl1, hzc]
                    simp only [List.flatten_append] at hp
                    have old : blk.rows.flatten[p]? = some u' → (p < lo * blk.sz ∨ lo * blk.sz + n * blk.sz ≤ p) → ∃ x, new[p]? = some x ∧ x.oneCell' = true ∧ VR (w.setRow g new) (KdX blk.kd (XX E K c.O)) (KdK blk.kd K) u' x := by
                      intro hp' hwhere
                      obtain ⟨y, hy, h1y, hvy⟩ := hu p u' hp'
                      refine ⟨y, ?_, h1y, hvy.keep (KdX_keep hkeep) (fun _ _ h => h) (fun _ _ => rfl)⟩
                      have hy' : cur.toList[p]? = some y := by simpa using hy
                      rw [← hnewc]
                      simp only [List.getElem?_toArray]
                      rcases hwhere with hlt | hge
                      · rw [List.append_assoc, List.getElem?_append_left (by omega), List.getElem?_take, if_pos hlt]; exact hy'
                      · rw [List.getElem?_append_right (by omega), hl2, List.getElem?_drop, hzc]
                        rw [← hy']; congr 1; omega
                    by_cases c1 : p < lo * blk.sz
                    · rw [List.append_assoc, List.getElem?_append_left (by omega)] at hp
                      exact old (by rw [hsplit, List.getElem?_append_left (by omega)]; exact hp) (.inl c1)
                    · by_cases c2 : p < lo * blk.sz + n * blk.sz
                      · rw [List.append_assoc, List.getElem?_append_right (by omega), List.getElem?_append_left (by omega), htk, rep_get z n _ (by rw [hzl, hsz]; omega), hzl, hsz] at hp
                        obtain ⟨y, hy1, hy2⟩ := hzget (p - lo * blk.sz) (by omega)
                        refine ⟨y, ?_, q2 _ _ hy2, ?_⟩
                        · rw [← hnewc]
                          simp only [List.getElem?_toArray]
                          rw [List.append_assoc, List.getElem?_append_right (by omega), hl1, List.getElem?_append_left (by omega)]
                          exact hy1
                        · have hvx := fit_sound (allFit_get hfit hp) (q3 _ _ _ hp hy2)
                          exact hvx.keep (KdX_keep hkeep) (fun _ _ h => h) (fun _ _ => rfl)
                      · rw [List.getElem?_append_right (by rw [List.length_append]; omega), List.length_append, htk, hrp] at hp
                        refine old ?_ (.inr (by omega))
                        rw [hsplit2, List.getElem?_append_right (by omega), htk2, hadd]
                        exact hp
              · exact h.elim
            · exact h.elim
          · exact h.elim
        · exact h.elim
      · exact h.elim
    · exact h.elim
  · exact h.elim

theorem move_get {α : Type} (L : List α) (a b k p : Nat) (h1 : a ≤ b) (h2 : b + k ≤ L.length) : (L.take a ++ (L.drop b).take k ++ L.drop (a + k))[p]? = L[if p < a then p else if p < a + k then b + (p - a) else p]? := by
  have l1 : (L.take a).length = a := by rw [List.length_take]; omega
  have l2 : ((L.drop b).take k).length = k := by rw [List.length_take, List.length_drop]; omega
  by_cases c1 : p < a
  · rw [if_pos c1, List.append_assoc, List.getElem?_append_left (by omega), List.getElem?_take, if_pos c1]
  · rw [if_neg c1]
    by_cases c2 : p < a + k
    · rw [if_pos c2, List.append_assoc, List.getElem?_append_right (by omega), List.getElem?_append_left (by omega), l1, List.getElem?_take, if_pos (by omega), List.getElem?_drop]
    · rw [if_neg c2, List.getElem?_append_right (by rw [List.length_append]; omega), List.length_append, l1, l2, List.getElem?_drop]
      congr 1; omega
theorem flat_take {rows : List (List AV)} {sz : Nat} (hr : ∀ row ∈ rows, row.length = sz) {k : Nat} (hk : k ≤ rows.length) : (rows.take k).flatten = rows.flatten.take (k * sz) := by
  have hl : (rows.take k).flatten.length = k * sz := by
    rw [flat_len (sz := sz) fun row h => hr row (List.mem_of_mem_take h), List.length_take, Nat.min_eq_left hk]
  have : rows.flatten = (rows.take k).flatten ++ (rows.drop k).flatten := by rw [← List.flatten_append, List.take_append_drop]
  rw [this, List.take_left' hl]
theorem flat_drop {rows : List (List AV)} {sz : Nat} (hr : ∀ row ∈ rows, row.length = sz) {k : Nat} (hk : k ≤ rows.length) : (rows.drop k).flatten = rows.flatten.drop (k * sz) := by
  have hl : (rows.take k).flatten.length = k * sz := by
    rw [flat_len (sz := sz) fun row h => hr row (List.mem_of_mem_take h), List.length_take, Nat.min_eq_left hk]
  have : rows.flatten = (rows.take k).flatten ++ (rows.drop k).flatten := by rw [← List.flatten_append, List.take_append_drop]
  rw [this, List.drop_left' hl]
theorem s_appSelf (hT : TabOK P T) (hs : SRK E K c a w) (hval : Vals E K c a w val)
    {t : TypeId} {s x : Operand} (ho : o.op = .call { callee := .builtin .append, args := #[s, x], argTypes := #[t, t] })
    (h : (appSelfA T (olk c.O) t (val s) (val x)).holds P (· = r)) : o.wp P a w (OpPost E c r a o.dst) NoQ := by
  unfold appSelfA at h
  split at h
  · rename_i ti hti
    split at h
    · rename_i e hk
      obtain ⟨⟨d, hd, hdk⟩, _⟩ := hT.get hti
      rw [hk] at hdk
      have := of_slice hdk
      subst this
      split at h
      · rename_i ei hei
        obtain ⟨_, ⟨je, hje, hjz, hjs, hjb⟩, _⟩ := hT.get hei
        split at h
        · rename_i b sz n b' sz' lo m hsv hx
          split at h
          · rename_i blk hb
            split at h
            · rename_i hbb hss hsz
              have hbb := beq_true hbb
              have hss := beq_true hss
              have hsz := beq_true hsz
              subst hbb hss
              split at h
              · rename_i hesz hbe hpos
                have hesz := beq_true hesz
                have hbe := beq_true hbe
                have hpos := Nat.le_of_ble_eq_true hpos
                obtain ⟨⟨hnlo, hle⟩, h⟩ := h
                have hr : _ = r := h
                obtain ⟨A, cp, e2, hA⟩ := VR.osuf_inv (hval.at hx)
                have hrows := hs.rows b blk hb
                have hnew : ∀ row ∈ blk.rows.take n ++ (blk.rows.drop lo).take m ++ blk.rows.drop (n + m), row.length = blk.sz := by
                  intro row hrow
                  rw [List.mem_append, List.mem_append] at hrow
                  rcases hrow with (hrow | hrow) | hrow
                  · exact hrows row (List.mem_of_mem_take hrow)
                  · exact hrows row (List.mem_of_mem_drop (List.mem_of_mem_take hrow))
                  · exact hrows row (List.mem_of_mem_drop hrow)
                have hlen : (blk.rows.take n ++ (blk.rows.drop lo).take m ++ blk.rows.drop (n + m)).length = blk.rows.length := by
                  simp only [List.length_append, List.length_take, List.length_drop]; omega
                by_cases hm : m = 0
                · subst hm
                  have hsame : blk.rows.take n ++ (blk.rows.drop lo).take 0 ++ blk.rows.drop (n + 0) = blk.rows := by simp
                  subst hr
                  have hrun : (Builtin.append_ #[t, t] o.type #[a.eval s, a.eval x]).run P w = .ok (a.eval s) w := by
                    rw [e2]
                    rcases VR.osl_inv (hval.at hsv) with ⟨hK, hz, e1⟩ | ⟨g, cap, cur, e', mm, hK, hnm, e1, hc, hnc, hmx, hcur⟩
                    · rw [e1]
                      cases A <;> simp [Builtin.append_, run_underlying hd, sizeOf, typeInfo, hje, Builtin.lenOf, Builtin.firstCells, loadCells, loadCellsFrom]
                    · rw [e1]
                      cases A <;> simp [Builtin.append_, run_underlying hd, sizeOf, typeInfo, hje, Builtin.lenOf, Builtin.firstCells, hnc, storeCells, loadCells, loadCellsFrom]
                  unfold Oper.wp
                  rw [run_append_op ho hrun]
                  refine ⟨K, _, rfl, ?_, ?_⟩
                  · rw [hsame]
                    refine hs.weak (fun t => .inl rfl) fun i y hi => ?_
                    simp only [Cfg.eff, setD, olk_setO] at hi
                    by_cases e : b = i
                    · subst e; rw [if_pos rfl] at hi; injection hi with hi; subst hi; exact hb
                    · rw [if_neg e] at hi; exact hi
                  · rcases VR.osl_inv (hval.at hsv) with ⟨hK, hz, e1⟩ | ⟨g, cap, cur, e', mm, hK, hnm, e1, hc, hnc, hmx, hcur⟩
                    · subst hz; rw [e1]; exact .oslnil hK
                    · rw [e1]; exact .osl hK hnm hc hnc hmx hcur
                · obtain ⟨g, mm, hK, hmm, rfl⟩ := hA (by omega)
                  rcases hs.own b blk hb with ⟨k1, _⟩ | ⟨g', k1, cur, hc, hu⟩
                  · rw [hK] at k1; cases k1
                  · have hkk := hK
                    rw [hK] at k1; injection k1 with k1; injection k1 with k1 k2; injection k1 with k1; subst k1 k2
                    rcases VR.osl_inv (hval.at hsv) with ⟨hK', hz, e1⟩ | ⟨g', cap, cur', e', mm, hK', hnm, e1, hc', hnc, hmx, hcur⟩
                    · rw [hkk] at hK'; cases hK'
                    · rw [hkk] at hK'; injection hK' with hK'; injection hK' with k3 k4; injection k3 with k3; subst k3 k4
                      rw [hc] at hc'; injection hc' with hc'; injection hc' with h1' h2'; subst h1'
                      have hfl := flat_le (g := g) hrows hu
                      have hflat := flat_len hrows
                      have hB : blk.rows.length * blk.sz = blk.rows.length * sz := by rw [← hsz]
                      have hN : n * sz ≤ lo * sz := Nat.mul_le_mul_right _ hnlo
                      have hL : lo * sz + m * sz ≤ blk.rows.length * sz := by rw [← Nat.add_mul]; exact Nat.mul_le_mul_right _ hle
                      have hcs : lo * sz + m * sz ≤ cur.size := by omega
                      have hge : n + m ≤ cap := by
                        have : (n + m) * sz ≤ cap * sz := by rw [hcur, Nat.add_mul]; omega
                        exact Nat.le_of_mul_le_mul_right this (by omega)
                      have hjsz : je.size = sz := by rw [hjs, hesz]
                      generalize hnews : (cur.toList.drop (lo * sz)).take (m * sz) = news
                      have hl : news.length = m * je.size := by
                        rw [← hnews, hjsz, List.length_take, List.length_drop, Array.length_toList]; omega
                      have hget : ∀ (j : Nat) u, news[j]? = some u → j < m * sz ∧ cur[lo * sz + j]? = some u := by
                        intro j u hj
                        rw [← hnews, List.getElem?_take] at hj
                        split at hj
                        · rename_i hlt
                          rw [List.getElem?_drop] at hj
                          exact ⟨hlt, by simpa using hj⟩
                        · cases hj
                      have hcell : ∀ (j : Nat) u, news[j]? = some u → w.cell? ((⟨g, lo * sz, none⟩ : Addr).add j) = some u := by
                        intro j u hj
                        rw [show (⟨g, lo * sz, none⟩ : Addr).add j = ⟨g, lo * sz + j, none⟩ from by unfold Addr.add; split <;> simp_all]
                        simp only [World.cell?, hc]
                        exact (hget j u hj).2
                      have hone : ∀ u ∈ news, u.oneCell' = true := by
                        intro u hmem
                        obtain ⟨j, hj⟩ := List.getElem?_of_mem hmem
                        obtain ⟨q1, q2⟩ := hget j u hj
                        obtain ⟨y, hy, h1y, _⟩ := hu (lo * sz + j) _ (List.getElem?_eq_getElem (by omega))
                        rw [q2] at hy; injection hy with hy; subst hy
                        exact h1y
                      have hc0 : w.heap[g]? = some (.cells cur e (0, 0)) := by rw [← hbe]; exact hc
                      have hrun := run_append_room (P := P) w t o.type e je hd hje g n cap cur hc0 ⟨g, lo * sz, none⟩ m cp news hl hcell hone hge (by rw [hl, hjsz]; omega)
                      rw [hjsz] at hl
                      rw [hl, hjsz] at hrun
                      generalize hnewc : (cur.toList.take (n * sz) ++ news ++ cur.toList.drop (n * sz + m * sz)).toArray = new at hrun
                      have hns : new.size = cur.size := by
                        rw [← hnewc]
                        simp only [List.size_toArray, List.length_append, List.length_take, List.length_drop, Array.length_toList, hl]
                        omega
                      have hst : Step (fun r => r = g) w (w.setRow g new) := Step.setRow hc hns
                      have hkeep : Keep (XX E K c.O) w (w.setRow g new) := hst.keep.mono fun r _ hr' => .inl ⟨b, by simp [hb], by rw [hr']; exact blkOf_of hkk⟩
                      subst hr
                      unfold Oper.wp
                      rw [run_append_op ho (by rw [e1, e2]; exact hrun)]
                      have hheap := setRow_heap w g cur new blk.e (0, 0) hc
                      refine ⟨K, _, rfl, ?_, .osl hkk (by omega) hheap hge hmx (by rw [hns]; exact hcur)⟩
                      refine hs.write (blk := { blk with rows := blk.rows.take n ++ (blk.rows.drop lo).take m ++ blk.rows.drop (n + m) }) hb (blkOf_of hkk) hlen hst hnew ?_
                      refine ⟨new, hheap, fun p u' hp => ?_⟩
                      have hrd : ∀ row ∈ blk.rows.drop lo, row.length = blk.sz := fun row h => hrows row (List.mem_of_mem_drop h)
                      simp only [List.flatten_append] at hp
                      rw [flat_take hrows (by omega), flat_take hrd (by rw [List.length_drop]; omega), flat_drop hrows (by omega), flat_drop hrows (by omega), ← hsz, Nat.add_mul, move_get _ _ _ _ _ hN (by omega)] at hp
                      obtain ⟨y, hy, h1y, hvy⟩ := hu _ u' hp
                      refine ⟨y, ?_, h1y, hvy.keep (KdX_keep hkeep) (fun _ _ h => h) (fun _ _ => rfl)⟩
                      rw [← hnewc, ← hnews]
                      simp only [List.getElem?_toArray]
                      rw [move_get _ _ _ _ _ hN (by rw [Array.length_toList]; omega)]
                      simpa using hy
              · exact h.elim
            · exact h.elim
          · exact h.elim
        · exact h.elim
      · exact h.elim
    · exact h.elim
  · exact h.elim

theorem run_copy_op {d s : Operand} {t : TypeId} (ho : o.op = .call { callee := .builtin .copy, args := #[d, s], argTypes := #[t, t] }) {v' : Value} {w' : World}
    (h : (Builtin.copy_ #[t, t] o.type #[a.eval d, a.eval s]).run P w = .ok v' w') : (execOp a.eval o).run P w = .ok (.value v') w' := by
  simp only [execOp, ho, resolve, invoke, builtin, List.map_toArray, List.map_cons, List.map_nil, Sem.run_bind, Sem.run_pure, Result.andThen_ok, h]
theorem dstOf_vr {b sz lo m : Nat} {u : AV} {v : Value} (hd : dstOf u = some (b, sz, lo, m)) (hm : 1 ≤ m) (hv : VR w X K u v) : ∃ g mm cp, K b = some (some g, mm) ∧ v = .slice (some ⟨g, lo * sz, none⟩) m cp := by
  cases u <;> simp only [dstOf] at hd <;> try cases hd
  · rcases VR.osl_inv hv with ⟨_, hz, _⟩ | ⟨g, cap, cur, e', mm, hK, _, e1, _⟩
    · omega
    · exact ⟨g, mm, cap, hK, by rw [Nat.zero_mul]; exact e1⟩
  · obtain ⟨A, cp, e1, hA⟩ := VR.osuf_inv hv
    obtain ⟨g, mm, hK, _, rfl⟩ := hA (by omega)
    exact ⟨g, mm, cp, hK, e1⟩
theorem s_copy (hT : TabOK P T) (hs : SRK E K c a w) (hval : Vals E K c a w val)
    {t : TypeId} {s x : Operand} (ho : o.op = .call { callee := .builtin .copy, args := #[s, x], argTypes := #[t, t] })
    (h : (copyA T (olk c.O) t (val s) (val x)).holds P (· = r)) : o.wp P a w (OpPost E c r a o.dst) NoQ := by
  unfold copyA at h
  split at h
  · rename_i ti hti
    split at h
    · rename_i e hk
      obtain ⟨⟨d, hd, hdk⟩, _⟩ := hT.get hti
      rw [hk] at hdk
      have := of_slice hdk
      subst this
      split at h
      · rename_i ei hei
        obtain ⟨_, ⟨je, hje, hjz, hjs, hjb⟩, _⟩ := hT.get hei
        split at h
        · rename_i b sz lo m hdst he1
          have he1 := beq_true he1
          split at h
          · rename_i blk n rows kd hb hsrc
            split at h
            · rename_i hkd hsz hbsz hbe
              have hsz := beq_true hsz
              have hbsz := beq_true hbsz
              have hbe := beq_true hbe
              obtain ⟨⟨hle, hm1, hn1⟩, h⟩ := h
              obtain ⟨hr, _, htk⟩ := takes_get h
              have hr : _ = r := hr
              have hxv : VR w (XX E K c.O) K (val x) (a.eval x) := (hval x).vr (by rintro d want u e'; rw [e'] at hsrc; cases hsrc)
              have hsv : VR w (XX E K c.O) K (val s) (a.eval s) := (hval s).vr (by rintro d want u e'; rw [e'] at hdst; cases hdst)
              obtain ⟨hlen, huni, A, cp, news, e2, hnl, hA, hone, hvr⟩ := src_sound hs hsrc hxv
              obtain ⟨ga, oa, rfl, hcell⟩ := hA (by omega)
              obtain ⟨g, mm, cpd, hK, e1⟩ := dstOf_vr hdst hm1 hsv
              subst hsz
              rw [Nat.mul_one] at e1 hnl
              rcases hs.own b blk hb with ⟨k1, _⟩ | ⟨g', k1, cur, hc, hu⟩
              · rw [hK] at k1; cases k1
              · rw [hK] at k1; injection k1 with k1; injection k1 with k1 k2; injection k1 with k1; subst k1 k2
                have hrows := hs.rows b blk hb
                have hfl := flat_le (g := g) hrows hu
                rw [hbsz, Nat.mul_one] at hfl
                have hcl : (news.take (min n m)).length = min n m := by rw [List.length_take]; omega
                have hrun := run_copy_row (P := P) w t t o.type e g lo m cpd ⟨ga, oa, none⟩ n cp cur blk.e (news.take (min n m)) hd (by rw [hje]; simp; omega) hc hcl (fun j u hj => by
                  rw [List.getElem?_take] at hj
                  split at hj
                  · rw [show (⟨ga, oa, none⟩ : Addr).add j = ⟨ga, oa + j, none⟩ from by unfold Addr.add; split <;> simp_all]
                    exact hcell j u hj
                  · cases hj) (by rw [hcl]; omega) (fun u hu' => hone u (List.mem_of_mem_take hu'))
                rw [hcl] at hrun
                generalize hnewc : (cur.toList.take lo ++ news.take (min n m) ++ cur.toList.drop (lo + min n m)).toArray = new at hrun
                have hns : new.size = cur.size := by
                  rw [← hnewc]
                  simp only [List.size_toArray, List.length_append, List.length_drop, hcl]
                  rw [List.length_take, Array.length_toList]; omega
                have hst : Step (fun r => r = g) w (w.setRow g new) := Step.setRow hc hns
                have hkeep : Keep (XX E K c.O) w (w.setRow g new) := hst.keep.mono fun r _ hr' => .inl ⟨b, by simp [hb], by rw [hr']; exact blkOf_of hK⟩
                have hheap := setRow_heap w g cur new blk.e (0, 0) hc
                have hnew : ∀ row ∈ blk.rows.take lo ++ rows.take (min n m) ++ blk.rows.drop (lo + min n m), row.length = blk.sz := by
                  intro row hrow
                  rw [List.mem_append, List.mem_append] at hrow
                  rcases hrow with (hrow | hrow) | hrow
                  · exact hrows row (List.mem_of_mem_take hrow)
                  · rw [hbsz]; exact huni row (List.mem_of_mem_take hrow)
                  · exact hrows row (List.mem_of_mem_drop hrow)
                have hlen' : (blk.rows.take lo ++ rows.take (min n m) ++ blk.rows.drop (lo + min n m)).length = blk.rows.length := by
                  simp only [List.length_append, List.length_take, List.length_drop]; omega
                subst hr
                unfold Oper.wp
                rw [run_copy_op ho (by rw [e1, e2]; exact hrun)]
                refine ⟨K, _, rfl, ?_, .int⟩
                refine hs.write (blk := { blk with rows := blk.rows.take lo ++ rows.take (min n m) ++ blk.rows.drop (lo + min n m) }) hb (blkOf_of hK) hlen' hst hnew ?_
                refine ⟨new, hheap, fun p u' hp => ?_⟩
                have h1r : ∀ row ∈ blk.rows, row.length = 1 := fun row h => by rw [← hbsz]; exact hrows row h
                simp only [List.flatten_append] at hp
                rw [flat_take h1r (by omega), flat_take huni (by omega), flat_drop h1r (by omega), Nat.mul_one, Nat.mul_one, Nat.mul_one] at hp
                have hfb := flat_len h1r
                have hfr := flat_len huni
                rw [Nat.mul_one] at hfb hfr
                have l1 : (blk.rows.flatten.take lo).length = lo := by rw [List.length_take]; omega
                have l2 : (rows.flatten.take (min n m)).length = min n m := by rw [List.length_take]; omega
                have c1l : (cur.toList.take lo).length = lo := by rw [List.length_take, Array.length_toList]; omega
                have old : ∀ q u, blk.rows.flatten[q]? = some u → (q < lo ∨ lo + min n m ≤ q) → ∃ y, new[q]? = some y ∧ y.oneCell' = true ∧ VR (w.setRow g new) (KdX blk.kd (XX E K c.O)) (KdK blk.kd K) u y := by
                  intro q u hq hor
                  obtain ⟨y, hy, h1y, hvy⟩ := hu q u hq
                  refine ⟨y, ?_, h1y, hvy.keep (KdX_keep hkeep) (fun _ _ h => h) (fun _ _ => rfl)⟩
                  rw [← hnewc]
                  simp only [List.getElem?_toArray]
                  rcases hor with hq' | hq'
                  · rw [List.append_assoc, List.getElem?_append_left (by omega), List.getElem?_take, if_pos hq']
                    simpa using hy
                  · rw [List.getElem?_append_right (by rw [List.length_append]; omega), List.length_append, c1l, hcl, List.getElem?_drop, show lo + min n m + (q - (lo + min n m)) = q by omega]
                    simpa using hy
                by_cases c1 : p < lo
                · rw [List.append_assoc, List.getElem?_append_left (by omega), List.getElem?_take, if_pos c1] at hp
                  exact old p u' hp (.inl c1)
                · by_cases c2 : p < lo + min n m
                  · rw [List.append_assoc, List.getElem?_append_right (by omega), List.getElem?_append_left (by omega), l1, List.getElem?_take, if_pos (by omega)] at hp
                    have hpl : p - lo < news.length := by omega
                    refine ⟨news[p - lo], ?_, hone _ (List.getElem_mem hpl), ?_⟩
                    · rw [← hnewc]
                      simp only [List.getElem?_toArray]
                      rw [List.append_assoc, List.getElem?_append_right (by omega), List.getElem?_append_left (by omega), c1l, List.getElem?_take, if_pos (by omega), List.getElem?_eq_getElem hpl]
                    · have hvx := htk hp (hvr (p - lo) u' _ hp (List.getElem?_eq_getElem hpl))
                      rw [hkd]
                      exact hvx.keep (KdX_keep hkeep) (fun _ _ h => h) (fun _ _ => rfl)
                  · rw [List.getElem?_append_right (by rw [List.length_append]; omega), List.length_append, l1, l2, List.getElem?_drop, show lo + min n m + (p - (lo + min n m)) = p by omega] at hp
                    exact old p u' hp (.inr (by omega))
            · exact h.elim
          · exact h.elim
        · exact h.elim
      · exact h.elim
    · exact h.elim
  · exact h.elim
theorem viewM1_sound (hs : SRK E K c a w) {b : Nat} {u u' : AV} {v : Value} (hb : (olk c.O b).isSome = true) (h : viewM1 (olk c.O) b u = some u') (hv : VR w (XX E K c.O) K u v) : VR w (fun g => blkOf K b = some g) K0 u' v := by
  unfold viewM1 at h
  split at h
  · rename_i b' off
    split at h
    · cases h
    · rename_i hne
      have hne := beq_false hne
      split at h
      · rename_i blk hb'
        split at h
        · rename_i row hkd hrow
          split at h
          · rename_i hfit
            injection h with h
            subst h
            obtain ⟨g, hK, rfl⟩ := VR.ovar_inv hv
            rcases hs.own b' blk hb' with ⟨k1, k2⟩ | ⟨g', k1, hblk⟩
            · rw [show blkOf K b' = none from by simp [blkOf, k1]] at hK; cases hK
            · have hlt := hs.live_lt (by simp [hb']) hK
              have hK' := hK
              rw [blkOf_of k1] at hK; injection hK with hK; subst hK
              have hrr := hblk.row (hs.rows b' blk hb') (i := 0) (row := row) (by rw [hrow]; rfl)
              simp only [Nat.zero_mul] at hrr
              obtain ⟨cs, c1, c2, c3, c4⟩ := hrr.list
              have hng : ¬ blkOf K b = some g' := fun hg => hne (hs.inj b b' g' hb (by simp [hb']) hg hK')
              have := VR.rptr (w := w) (X := fun g => blkOf K b = some g) (K := K0) (xs := row) (off := off) (g := g') (o := 0) (cs := cs) c1 c3 hlt hng c2
                (fun j u x hu hx => scalar_sound (allFit_get hfit hu) (c4 j u x hu hx) _ _)
              simpa using this
          · cases h
        · cases h
      · cases h
  · split at h
    · rename_i hi
      injection h with h
      subst h
      exact (idless_sound hv hi K0).sub fun g _ hg => .inl ⟨b, hb, hg⟩
    · cases h
theorem viewsM1_sound (hs : SRK E K c a w) {b : Nat} (hb : (olk c.O b).isSome = true) : ∀ {us us' : List AV}, viewsM1 (olk c.O) b us = some us' → us'.length = us.length ∧ ∀ (j : Nat) u' v, us'[j]? = some u' → (∀ u, us[j]? = some u → VR w (XX E K c.O) K u v) → VR w (fun g => blkOf K b = some g) K0 u' v
  | [], us', h => by simp [viewsM1] at h; subst h; simp
  | x :: xs, us', h => by
    simp only [viewsM1] at h
    split at h
    · rename_i y ys hy hys
      injection h with h
      subst h
      obtain ⟨h1, h2⟩ := viewsM1_sound hs hb hys
      refine ⟨by simp [h1], fun j u' v hj hv => ?_⟩
      cases j with
      | zero => simp at hj; subst hj; exact viewM1_sound hs hb hy (hv x (by simp))
      | succ j => exact h2 j u' v (by simpa using hj) fun u hu => hv u (by simpa using hu)
    · cases h
theorem viewM_sound (hs : SRK E K c a w) {b : Nat} {u u' : AV} {v : Value} (hb : (olk c.O b).isSome = true) (h : viewM (olk c.O) b u = some u') (hv : VR w (XX E K c.O) K u v) : VR w (fun g => blkOf K b = some g) K0 u' v := by
  unfold viewM at h
  split at h
  · rename_i f caps
    split at h
    · rename_i cs hcs
      injection h with h
      subst h
      obtain ⟨vs, rfl, l1, v1⟩ := VR.func_inv hv
      obtain ⟨h1, h2⟩ := viewsM1_sound hs hb hcs
      exact .func (by rw [h1, l1]) fun j u c' hu hc => h2 j u c' hu fun u0 hu0 => v1 j u0 c' hu0 hc
    · cases h
  · exact viewM1_sound hs hb h hv
theorem viewsM_sound (hs : SRK E K c a w) {b : Nat} (hb : (olk c.O b).isSome = true) : ∀ {us us' : List AV}, viewsM (olk c.O) b us = some us' → us'.length = us.length ∧ (∀ (j : Nat) u, us[j]? = some u → ∀ d want u', u ≠ .opt d want u') ∧ ∀ (j : Nat) u' v, us'[j]? = some u' → (∀ u, us[j]? = some u → VR w (XX E K c.O) K u v) → VR w (fun g => blkOf K b = some g) K0 u' v
  | [], us', h => by simp [viewsM] at h; subst h; simp
  | x :: xs, us', h => by
    simp only [viewsM] at h
    split at h
    · rename_i y ys hy hys
      injection h with h
      subst h
      obtain ⟨h1, h0, h2⟩ := viewsM_sound hs hb hys
      refine ⟨by simp [h1], fun j u hu d want u' e => ?_, fun j u' v hj hv => ?_⟩
      · cases j with
        | zero => simp at hu; subst hu; rw [e] at hy; simp [viewM, viewM1, AV.idless] at hy
        | succ j => exact h0 j u (by simpa using hu) d want u' e
      · cases j with
        | zero => simp at hj; subst hj; exact viewM_sound hs hb hy (hv x (by simp))
        | succ j => exact h2 j u' v (by simpa using hj) fun u hu => hv u (by simpa using hu)
    · cases h
theorem s_callM (hs : SRK E K c a w) (hval : Vals E K c a w val) {f : Operand} {args : Array Operand} {ts : Array TypeId} (ho : o.op = .call { callee := .value f, args := args, argTypes := ts }) (hf : freshD c r.nw r.D = true)
    (h : (callMA (olk c.O) o.dst (val f) (args.toList.map val)).holds P (· = r)) : o.wp P a w (OpPost E c r a o.dst) NoQ := by
  unfold callMA at h
  split at h
  · rename_i g b sz n rest hfv hargs
    split at h
    · rename_i blk hb
      split at h
      · rename_i us hsz hkd hus
        have hsz := beq_true hsz
        obtain ⟨hn, x, ⟨⟨fn, hfn, hname, hbody⟩, hfun⟩, h⟩ := h
        dsimp only at h
        split at h
        · rename_i e' sz' n' rows'
          have hr : _ = r := h
          have hf' := hf
          rw [← hr] at hf'
          have hfr := freshD_one hf'
          obtain ⟨f1, f2, f3⟩ := fresh_of hfr
          have hbs : (olk c.O b).isSome = true := by simp [hb]
          obtain ⟨K1, hK1, hKb, hs1⟩ := hs.rename (fresh_pin hfr) hb f1 f2 f3
          -- the arguments
          obtain ⟨x0, xs, hal, hx0, hxs⟩ : ∃ x0 xs, args.toList = x0 :: xs ∧ val x0 = .osl b sz n ∧ xs.map val = rest := by
            cases hl : args.toList with
            | nil => rw [hl] at hargs; cases hargs
            | cons x0 xs => rw [hl] at hargs; injection hargs with h1 h2; exact ⟨x0, xs, rfl, h1, h2⟩
          obtain ⟨v1, v2, v3⟩ := viewsM_sound hs hbs hus
          have e0 := VR.osl_inv (hval.at hx0)
          have hae : args.map a.eval = #[a.eval x0] ++ (xs.map a.eval).toArray := by
            have : args = (x0 :: xs).toArray := by rw [← hal]
            rw [this]; simp
          have hrowsb := hs.rows b blk hb
          have hown : OwnV w (fun g => blkOf K b = some g) blk.e blk.sz blk.rows (a.eval x0) ∧ (∀ g, ownBlk (a.eval x0) = some g ↔ blkOf K b = some g) := by
            rcases e0 with ⟨hK, hz, e1⟩ | ⟨g0, cap, cur, e0', m, hK, hnm, e1, hc, hnc, hm, hcur⟩
            · have hr0 : blk.rows = [] := List.eq_nil_of_length_eq_zero (by omega)
              refine ⟨⟨hrowsb, .inl ⟨hr0, e1⟩⟩, fun g => ?_⟩
              rw [e1, show blkOf K b = none from by simp [blkOf, hK]]
              simp [ownBlk]
            · rcases hs.own b blk hb with ⟨k1, _⟩ | ⟨g', k1, cur', hc', hu⟩
              · rw [hK] at k1; cases k1
              · have hkk := hK
                rw [hK] at k1; injection k1 with k1; injection k1 with k1 k2; injection k1 with k1; subst k1
                rw [hc] at hc'; injection hc' with hc'; injection hc' with h1 h2; subst h1 h2
                refine ⟨⟨hrowsb, .inr ⟨g0, cap, cur, by rw [e1, hn], by omega, hm, by rw [← hsz]; exact hcur, hc, blkOf_of hkk, fun j u hj => ?_⟩⟩, fun g => ?_⟩
                · obtain ⟨y, hy, h1y, hvy⟩ := hu j u hj
                  rw [hkd] at hvy
                  exact ⟨y, hy, h1y, hvy⟩
                · rw [e1, blkOf_of hkk]; simp [ownBlk]
          have hvs : ∀ (j : Nat) u c', us[j]? = some u → (xs.map a.eval).toArray[j]? = some c' → VR w (fun g => blkOf K b = some g) K0 u c' := by
            intro j u c' hu hc
            refine v3 j u c' hu fun u0 hu0 => ?_
            rw [← hxs, List.getElem?_map] at hu0
            simp only [List.getElem?_toArray, List.getElem?_map] at hc
            cases hxj : xs[j]? with
            | none => rw [hxj] at hc; cases hc
            | some y =>
              rw [hxj] at hu0 hc
              injection hu0 with hu0
              injection hc with hc
              subst hu0 hc
              exact (hval y).vr (v2 j _ (by rw [← hxs, List.getElem?_map, hxj]; rfl))
          have ef : a.eval f = .func (.func g) #[] #[] := by
            obtain ⟨cv, e1, l1, _⟩ := VR.func_inv (hval.at hfv)
            have : cv = #[] := Array.eq_empty_of_size_eq_zero (by simpa using l1.symm)
            rw [e1, this]
          unfold Oper.wp
          have hrun : (execOp a.eval o).run P w = .ok (.enter g (#[a.eval x0] ++ (xs.map a.eval).toArray)) w := by
            simp only [execOp, ho, resolve, ef, Deferred.ofValue, Sem.run_bind, Sem.run_pure, Result.andThen_ok, invoke, callFunc, run_program]
            simp [hfn, hname, hbody, hae]
          rw [hrun, Oper.upon_enter]
          have hwi : ∀ w', Ext0 (fun g => ownBlk (a.eval x0) = some g) w w' → WI w' := by
            intro w' hx
            refine E.hwi _ ⟨hx.os.trans hs.ext.os, hx.tape.trans hs.ext.tape, hx.output.trans hs.ext.output, Nat.le_trans hs.ext.size hx.size, fun g hg hX => ?_, fun g cur e hc => ?_⟩
            · rw [hx.block g (Nat.lt_of_lt_of_le hg hs.ext.size) fun ho => ?_]
              · exact hs.ext.block g hg hX
              · rcases hs.mine b g hbs ((hown.2 g).1 ho) with h | h
                · exact hX h
                · omega
            · obtain ⟨c1, h1, s1⟩ := hs.ext.shape g cur e hc
              obtain ⟨c2, h2, s2⟩ := hx.shape g c1 e h1
              exact ⟨c2, h2, s2.trans s1⟩
          refine (hfun _ w _ _ hown.1 hwi (by simp [v1, ← hxs]) hvs).mono ?_
          rintro en w1 ⟨v, rfl, ⟨p, e2, sz2, n2, rows2, hx2, hn2, hrows2, hcase⟩, hext⟩
          injection hx2 with q1 q2 q3 q4 q5
          subst q2 q3 q4 q5
          have hkb' : blkOf K1 (idOf o.dst 0) = blkOf K b := by unfold blkOf; rw [hKb]
          have hsome : (olk (setO (idOf o.dst 0) blk (delO b c.O)) (idOf o.dst 0)).isSome = true := by rw [olk_setO, if_pos rfl]; rfl
          have hst : Step (fun r => (olk (setO (idOf o.dst 0) blk (delO b c.O)) (idOf o.dst 0)).isSome = true ∧ blkOf K1 (idOf o.dst 0) = some r) w w1 :=
            ⟨⟨hext.size, fun g' hg' hnx => hext.block g' hg' fun ho' => hnx ⟨hsome, by rw [hkb']; exact (hown.2 g').1 ho'⟩, hext.shape⟩, hext.os, hext.tape, hext.output⟩
          have hO1 : ∀ i y, olk (setO (idOf o.dst 0) blk (delO b c.O)) i = some y → i ≠ idOf o.dst 0 → y.kd = .any → hasRow (idOf o.dst 0) y.rows = false := by
            intro i y hi hi' hk
            rw [olk_setO, olk_delO, if_neg (fun e => hi' e.symm)] at hi
            by_cases e2 : b = i
            · rw [if_pos e2] at hi; cases hi
            · rw [if_neg e2] at hi; exact f3 i y hi hk
          have hlk : ∀ (y : OBlk) i x, olk (setO (idOf o.dst 0) y (delO b c.O)) i = some x → olk (setO (idOf o.dst 0) y (setO (idOf o.dst 0) blk (delO b c.O))) i = some x := by
            intro y i x hi
            rw [olk_setO] at hi ⊢
            by_cases e : idOf o.dst 0 = i
            · rw [if_pos e] at hi ⊢; exact hi
            · rw [if_neg e] at hi ⊢; rw [olk_setO, if_neg e]; exact hi
          subst hr
          rcases hcase with ⟨hr0, rfl⟩ | ⟨g', cap, cur, rfl, hnc, hg', hc', hcm, hcs, hcells⟩
          · subst hr0
            have hn0 : n' = 0 := by simpa using hn2
            subst hn0
            cases hbk : blkOf K b with
            | none =>
              have hst0 : Step (fun _ => False) w w1 := hst.mono fun g' _ hx => by
                have := hx.2
                rw [hkb', hbk] at this; cases this
              have hs2 := (hs1.move hst0).rebindNil (fresh_pin hfr) (b := idOf o.dst 0) (blk := { e := e', sz := sz', kd := .pure, rows := [] }) f2 hO1 rfl
              exact ⟨_, _, rfl, hs2.weak (fun t => .inl rfl) (hlk _), .oslnil (upd_same _ _ _)⟩
            | some g0 =>
              rcases hs.own b blk hb with ⟨k1, _⟩ | ⟨g1, k1, cur1, hc1, _⟩
              · rw [show blkOf K b = none from by simp [blkOf, k1]] at hbk; cases hbk
              · obtain ⟨cur2, hc2, _⟩ := hext.shape g1 cur1 blk.e hc1
                have hs2 := hs1.rebind (fresh_pin hfr) (b := idOf o.dst 0) (g := g1) (blk := { e := blk.e, sz := sz', kd := .pure, rows := [] }) hst f2 hO1 (.inr ⟨hsome, by rw [hkb']; exact blkOf_of k1⟩) (by simp) ⟨cur2, hc2, by simp⟩
                have hs3 := hs2.rebindNil (fresh_pin hfr) (b := idOf o.dst 0) (blk := { e := e', sz := sz', kd := .pure, rows := [] }) f2 (fun i y hi hi' hk => by
                  simp only [olk_setO] at hi
                  rw [if_neg (fun e => hi' e.symm)] at hi
                  exact hO1 i y (by rw [olk_setO]; exact hi) hi' hk) rfl
                refine ⟨_, _, rfl, hs3.weak (fun t => .inl rfl) (fun i x hi => ?_), .oslnil (upd_same _ _ _)⟩
                simp only [Cfg.eff, setD] at hi
                rw [olk_setO] at hi ⊢
                by_cases e : idOf o.dst 0 = i
                · rw [if_pos e] at hi ⊢; exact hi
                · rw [if_neg e] at hi ⊢; rw [olk_setO, if_neg e, olk_setO, if_neg e]; exact hi
          · have hg2 : w.heap.size ≤ g' ∨ ((olk (setO (idOf o.dst 0) blk (delO b c.O)) (idOf o.dst 0)).isSome = true ∧ blkOf K1 (idOf o.dst 0) = some g') := by
              rcases hg' with hg' | hg'
              · exact .inl hg'
              · exact .inr ⟨hsome, by rw [hkb']; exact (hown.2 g').1 hg'⟩
            have hs2 := hs1.rebind (fresh_pin hfr) (b := idOf o.dst 0) (g := g') (blk := { e := e', sz := sz', kd := .pure, rows := rows' }) hst f2 hO1 hg2 hrows2 ⟨cur, hc', fun j u hj => hcells j u hj⟩
            refine ⟨_, _, rfl, hs2.weak (fun t => .inl rfl) (hlk _), .osl (upd_same _ _ _) (by rw [hn2]; exact Nat.le_refl _) hc' hnc hcm hcs⟩
        · exact h.elim
      · exact h.elim
    · exact h.elim
  · exact h.elim

/-! ### a call that writes blocks in place -/
theorem olk_appS : ∀ (l m : List (Nat × OBlk)) (b : Nat), olk (l ++ m) b = match olk l b with | some x => some x | none => olk m b
  | [], m, b => by simp [olk]
  | (i, x) :: r, m, b => by
    rw [List.cons_append, olk_cons, olk_cons, olk_appS r m b]
    by_cases h : i = b <;> simp [h]
theorem olk_setDS : ∀ (D O : List (Nat × OBlk)) (b : Nat), olk (setD D O) b = match olk D b with | some x => some x | none => olk O b
  | [], O, b => by simp [setD, olk]
  | (i, x) :: r, O, b => by
    rw [setD, olk_setO, olk_cons, olk_setDS r O b]
    by_cases h : i = b <;> simp [h]
theorem memN_iff {n : Nat} : ∀ {l : List Nat}, memN n l = true ↔ n ∈ l
  | [] => by simp [memN]
  | m :: r => by
    unfold memN
    cases h : Nat.beq n m
    · have := beq_false h
      simp only [memN_iff (l := r), List.mem_cons, this, false_or]
    · have := beq_true h
      simp [this]
theorem mem_ids {b : Nat} : ∀ {O : List (Nat × OBlk)}, b ∈ idsOf O ↔ (olk O b).isSome = true
  | [] => by simp [idsOf, olk]
  | (i, x) :: r => by
    rw [idsOf, olk_cons, List.mem_cons, mem_ids (O := r)]
    by_cases h : i = b
    · simp [h]
    · rw [if_neg h]
      constructor
      · rintro (e | e)
        · exact absurd e.symm h
        · exact e
      · exact .inr
theorem handCells_own {own : Nat → Option OBlk} : ∀ {row : List AV} {l : List (Nat × OBlk)}, handCells own row = some l → ∀ b x, olk l b = some x → own b = some x
  | [], l, h, b, x, hb => by simp [handCells] at h; subst h; simp [olk] at hb
  | u :: r, l, h, b, x, hb => by
    unfold handCells at h
    split at h
    · cases h; simp [olk] at hb
    · rename_i b' sz n r' e
      injection e with e1 e2; subst e1 e2
      split at h
      · rename_i blk l' h1 h2
        injection h with h; subst h
        rw [olk_cons] at hb
        by_cases e : b' = b
        · rw [if_pos e] at hb; subst e; rw [h1]; exact hb
        · rw [if_neg e] at hb; exact handCells_own h2 b x hb
      · cases h
    · rename_i v r' _ e
      injection e with e1 e2; subst e1 e2
      split at h
      · exact handCells_own h b x hb
      · cases h
theorem handOne_own {own : Nat → Option OBlk} {u : AV} {l : List (Nat × OBlk)} (h : handOne own u = some l) : ∀ b x, olk l b = some x → own b = some x := by
  intro b x hb
  cases u with
  | ovar b' off =>
    simp only [handOne] at h
    split at h
    · rename_i blk h1
      split at h
      · split at h
        · rename_i l' h2
          injection h with h; subst h
          rw [olk_cons] at hb
          by_cases e : b' = b
          · rw [if_pos e] at hb; subst e; rw [h1]; exact hb
          · rw [if_neg e] at hb; exact handCells_own h2 b x hb
        · cases h
      · cases h
    · cases h
  | osl b' sz n =>
    simp only [handOne] at h
    split at h
    · rename_i blk h1
      injection h with h; subst h
      rw [olk_cons] at hb
      by_cases e : b' = b
      · rw [if_pos e] at hb; subst e; rw [h1]; exact hb
      · rw [if_neg e] at hb; simp [olk] at hb
    · cases h
  | _ => simp [handOne] at h
theorem handAll_own {own : Nat → Option OBlk} {ps : List Nat} : ∀ {us : List AV} {i : Nat} {O : List (Nat × OBlk)}, handAll own ps i us = some O → ∀ b x, olk O b = some x → own b = some x
  | [], i, O, h, b, x, hb => by simp [handAll] at h; subst h; simp [olk] at hb
  | u :: us, i, O, h, b, x, hb => by
    simp only [handAll] at h
    split at h
    · split at h
      · rename_i l m h1 h2
        injection h with h; subst h
        rw [olk_appS] at hb
        cases hl : olk l b with
        | some y => rw [hl] at hb; injection hb with hb; subst hb; exact handOne_own h1 b y hl
        | none => rw [hl] at hb; exact handAll_own h2 b x hb
      · cases h
    · exact handAll_own h b x hb
theorem handOne_opt {own : Nat → Option OBlk} {d : Nat} {want : Bool} {u' : AV} : handOne own (.opt d want u') = none := rfl
theorem viewS_sound (hs : SRK E K c a w) {O : List (Nat × OBlk)} (hO : ∀ b x, olk O b = some x → olk c.O b = some x) {u u' : AV} {v : Value} (h : viewS (olk c.O) (idsOf O) u = some u') (hv : VR w (XX E K c.O) K u v) : VR w (Live K O) K u' v := by
  have hlive : ∀ g, Live K O g → XX E K c.O g := by
    rintro g ⟨b, hb, hk⟩
    obtain ⟨x, hx⟩ := Option.isSome_iff_exists.1 hb
    exact .inl ⟨b, by simp [hO b x hx], hk⟩
  have hnl : ∀ {b g : Nat}, memN b (idsOf O) = false → (olk c.O b).isSome = true → blkOf K b = some g → ¬ Live K O g := by
    rintro b g hm hb hk ⟨b', hb', hk'⟩
    obtain ⟨x, hx⟩ := Option.isSome_iff_exists.1 hb'
    have := hs.inj b b' g hb (by simp [hO b' x hx]) hk hk'
    subst this
    rw [memN_iff.2 (mem_ids.2 hb')] at hm; cases hm
  unfold viewS at h
  split at h
  · rename_i b sz n
    split at h
    · rename_i blk hm hb
      split at h
      · rename_i h1 hkd
        injection h with h; subst h
        have hsz := beq_true h1
        have huni := hs.rows b blk hb
        have hsrc : srcRows (olk c.O) sz (.osl b sz n) = some (n, blk.rows.take n, blk.kd) := by
          simp only [srcRows, hb]
          rw [show Nat.beq sz sz = true from Nat.beq_refl sz, show Nat.beq blk.sz sz = true from by rw [← hsz]; exact Nat.beq_refl sz]
        obtain ⟨hl, hu, A, cp, news, e0, hnl', hcell, hone, hvn⟩ := src_sound hs hsrc hv
        have hcs : news.length = (blk.rows.take n).flatten.length := by rw [hnl', flat_len hu, ← hl]
        rcases VR.osl_inv hv with ⟨hK, hz, e1⟩ | ⟨g, cap, cur, e', mm, hK, hnm, e1, hc, hnc, hm', hcur⟩
        · subst hz e1
          exact .rsl (cs := []) (by simp) (by simp) (Nat.le_refl _) (fun _ => rfl) (by simp) (by simp) (by simp) (by simp)
        · rw [e1] at e0
          injection e0 with e2 e3 e4
          subst e1
          refine .rsl hl hu hnc (fun h => by cases h) hcs hone (fun hne => ?_) (fun j u x hu hx => ?_)
          · have hpos : 0 < n := by
              rcases Nat.eq_zero_or_pos n with h | h
              · subst h; simp at hne
              · exact h
            obtain ⟨g', o', e5, hc'⟩ := hcell hpos
            rw [← e2] at e5
            injection e5 with e5; injection e5 with e5 e6; subst e5 e6
            exact ⟨g, 0, rfl, (Array.getElem?_eq_some_iff.1 hc).1, hnl hm (by simp [hb]) (blkOf_of hK), hc'⟩
          · have := hvn j u x hu hx
            rw [hkd] at this
            exact VR.sub this fun _ _ _ => trivial
      · cases h
    · cases h
  · rename_i b off
    split at h
    · rename_i blk hm hb
      split at h
      · rename_i row hkd hrow
        split at h
        · rename_i hfit
          injection h with h; subst h
          obtain ⟨g, hK, rfl⟩ := VR.ovar_inv hv
          rcases hs.own b blk hb with ⟨k1, k2⟩ | ⟨g', k1, hblk⟩
          · rw [show blkOf K b = none from by simp [blkOf, k1]] at hK; cases hK
          · have hlt := hs.live_lt (by simp [hb]) hK
            have hng := hnl hm (by simp [hb]) hK
            rw [blkOf_of k1] at hK; injection hK with hK; subst hK
            have hrr := hblk.row (hs.rows b blk hb) (i := 0) (row := row) (by rw [hrow]; rfl)
            simp only [Nat.zero_mul] at hrr
            obtain ⟨cs, c1, c2, c3, c4⟩ := hrr.list
            have := VR.rptr (w := w) (X := Live K O) (K := K) (xs := row) (off := off) (g := g') (o := 0) (cs := cs) c1 c3 hlt hng c2
              (fun j u x hu hx => scalar_sound (allFit_get hfit hu) (c4 j u x hu hx) _ _)
            simpa using this
        · cases h
      · cases h
    · cases h
  · split at h
    · injection h with h; subst h
      exact hv.sub fun g _ hg => hlive g hg
    · cases h
theorem viewsS_sound (hs : SRK E K c a w) {O : List (Nat × OBlk)} (hO : ∀ b x, olk O b = some x → olk c.O b = some x) {ps : List Nat} : ∀ {us us' : List AV} {i : Nat}, viewsS (olk c.O) ps (idsOf O) i us = some us' → us'.length = us.length ∧ ∀ (j : Nat) u' v, us'[j]? = some u' → (∀ u, us[j]? = some u → VR w (XX E K c.O) K u v) → VR w (Live K O) K u' v
  | [], us', i, h => by simp [viewsS] at h; subst h; simp
  | x :: xs, us', i, h => by
    have hlive : ∀ g, Live K O g → XX E K c.O g := by
      rintro g ⟨b, hb, hk⟩
      obtain ⟨x, hx⟩ := Option.isSome_iff_exists.1 hb
      exact .inl ⟨b, by simp [hO b x hx], hk⟩
    simp only [viewsS] at h
    split at h
    · rename_i ys hm hys
      injection h with h; subst h
      obtain ⟨h1, h2⟩ := viewsS_sound hs hO hys
      refine ⟨by simp [h1], fun j u' v hj hv => ?_⟩
      cases j with
      | zero => simp at hj; subst hj; exact (hv x (by simp)).sub fun g _ hg => hlive g hg
      | succ j => exact h2 j u' v (by simpa using hj) fun u hu => hv u (by simpa using hu)
    · rename_i ys hm hys
      split at h
      · rename_i y hy
        injection h with h; subst h
        obtain ⟨h1, h2⟩ := viewsS_sound hs hO hys
        refine ⟨by simp [h1], fun j u' v hj hv => ?_⟩
        cases j with
        | zero => simp at hj; subst hj; exact viewS_sound hs hO hy (hv x (by simp))
        | succ j => exact h2 j u' v (by simpa using hj) fun u hu => hv u (by simpa using hu)
      · cases h
    · cases h
/-- no operand of the call hangs on a guard -/
theorem viewsS_noopt {own : Nat → Option OBlk} {ps bs : List Nat} : ∀ {us us' : List AV} {i : Nat} {O : List (Nat × OBlk)}, handAll own ps i us = some O → viewsS own ps bs i us = some us' → ∀ (j : Nat) u, us[j]? = some u → ∀ d want u', u ≠ .opt d want u'
  | [], us', i, O, _, h, j, u, hu => by simp at hu
  | x :: xs, us', i, O, hA, h, j, u, hu => by
    intro d want u' e
    simp only [viewsS] at h
    simp only [handAll] at hA
    split at h
    · rename_i ys hm hys
      rw [hm] at hA
      simp only at hA
      split at hA
      · rename_i l m h1 h2
        cases j with
        | zero => simp at hu; subst hu e; rw [handOne_opt] at h1; cases h1
        | succ j => exact viewsS_noopt h2 hys j u (by simpa using hu) d want u' e
      · cases hA
    · rename_i ys hm hys
      rw [hm] at hA
      simp only at hA
      split at h
      · rename_i y hy
        cases j with
        | zero => simp at hu; subst hu e; simp [viewS, AV.idless] at hy
        | succ j => exact viewsS_noopt hA hys j u (by simpa using hu) d want u' e
      · cases h
    · cases h
theorem sameO_some : ∀ {O O' : List (Nat × OBlk)}, sameO O O' = true → ∀ b, (olk O' b).isSome = true ↔ (olk O b).isSome = true
  | [], [], _, b => Iff.rfl
  | (i, x) :: r, (i', y) :: r', h, b => by
    simp only [sameO, Bool.and_eq_true] at h
    have e := beq_true h.1.1
    subst e
    rw [olk_cons, olk_cons]
    by_cases hb : i = b
    · simp [hb]
    · simp only [if_neg hb]; exact sameO_some h.2 b
theorem okO_get : ∀ {O : List (Nat × OBlk)}, okO O = true → ∀ b x, olk O b = some x → okBlk x = true
  | (i, x) :: r, h, b, y, hb => by
    simp only [okO, Bool.and_eq_true] at h
    rw [olk_cons] at hb
    by_cases e : i = b
    · rw [if_pos e] at hb; injection hb with hb; subst hb; exact h.1
    · rw [if_neg e] at hb; exact okO_get h.2 b y hb
theorem okCell_any {u : AV} {v : Value} {X X' : Nat → Prop} (hu : okCell u = true) (h : VR w X K u v) : VR w X' K u v := by
  cases h with
  | osl h1 h2 h3 h4 h5 h6 => exact .osl h1 h2 h3 h4 h5 h6
  | oslnil h1 => exact .oslnil h1
  | ovar h1 => exact .ovar h1
  | bool => exact .bool
  | int => exact .int
  | str => exact .str
  | nilsl => exact .nilsl
  | nilfn => exact .nilfn
  | _ => simp [okCell, AV.scalar] at hu
theorem okBlk_any {g : Nat} {blk : OBlk} {X X' : Nat → Prop} (hk : okBlk blk = true) (h : BlkR w X K g blk) : BlkR w X' K g blk := by
  obtain ⟨cur, hc, hu⟩ := h
  refine ⟨cur, hc, fun j u hj => ?_⟩
  obtain ⟨y, hy, h1, hv⟩ := hu j u hj
  refine ⟨y, hy, h1, ?_⟩
  unfold okBlk at hk
  cases hkd : blk.kd with
  | pure => rw [hkd] at hv; exact hv
  | flat => rw [hkd] at hk; cases hk
  | any =>
    rw [hkd] at hk hv
    have hmem := List.mem_of_getElem? hj
    obtain ⟨row, hr, hur⟩ := List.mem_flatten.1 hmem
    have := List.all_eq_true.1 (List.all_eq_true.1 hk row hr) u hur
    exact okCell_any this hv
theorem SRK.writeS {w' : World} {O O' : List (Nat × OBlk)} (h : SRK E K c a w) (hO : ∀ b x, olk O b = some x → olk c.O b = some x) (hsame : ∀ b, (olk O' b).isSome = true ↔ (olk O b).isSome = true)
    (hst : Step (Live K O) w w') (hown : OwnR w' (Live K O) K O') (hok : ∀ b x, olk O' b = some x → okBlk x = true) : SRK E K ⟨c.fr, setD O' c.O⟩ a w' := by
  have hlive : ∀ g, Live K O g → ∃ b, (olk c.O b).isSome = true ∧ blkOf K b = some g := by
    rintro g ⟨b, hb, hk⟩
    obtain ⟨x, hx⟩ := Option.isSome_iff_exists.1 hb
    exact ⟨b, by simp [hO b x hx], hk⟩
  have hsome : ∀ i, (olk (setD O' c.O) i).isSome = true → (olk c.O i).isSome = true := by
    intro i hi
    rw [olk_setDS] at hi
    cases h1 : olk O' i with
    | none => rw [h1] at hi; exact hi
    | some x =>
      obtain ⟨y, hy⟩ := Option.isSome_iff_exists.1 ((hsame i).1 (by simp [h1]))
      simp [hO i y hy]
  have hX : ∀ r, XX E K (setD O' c.O) r → XX E K c.O r := by
    rintro r (⟨i, hi, hk⟩ | hx)
    · exact .inl ⟨i, hsome i hi, hk⟩
    · exact .inr hx
  have hkeep : Keep (XX E K c.O) w w' := hst.keep.mono fun r _ hr => .inl (hlive r hr)
  refine ⟨h.size, h.defers, h.ext.step hst (fun r hr => by obtain ⟨b, hb, hk⟩ := hlive r hr; exact h.mine b r hb hk), fun t => (h.fr t).keep hkeep (fun r _ => hX r) fun i hi => rfl, fun i x hi => ?_, fun i x hi => ?_,
    fun i i' r h1 h2 k1 k2 => h.inj i i' r (hsome i h1) (hsome i' h2) k1 k2, fun i r h1 k1 => h.mine i r (hsome i h1) k1, h.pin⟩
  · simp only [olk_setDS] at hi
    cases h1 : olk O' i with
    | none => rw [h1] at hi; exact h.rows i x hi
    | some y => rw [h1] at hi; injection hi with hi; subst hi; exact hown.rows i y h1
  · simp only [olk_setDS] at hi
    cases h1 : olk O' i with
    | none =>
      rw [h1] at hi
      rcases h.own i x hi with h2 | ⟨r, h2, h3⟩
      · exact .inl h2
      · refine .inr ⟨r, h2, h3.keep (hst.keep.block r (h.live_lt (by simp [hi]) (blkOf_of h2)) fun hr => ?_) hkeep (fun r _ => hX r) (fun _ _ _ _ _ _ => rfl)⟩
        obtain ⟨b, hb, hk⟩ := hr
        obtain ⟨y, hy⟩ := Option.isSome_iff_exists.1 hb
        have := h.inj b i r (by simp [hO b y hy]) (by simp [hi]) hk (blkOf_of h2)
        subst this
        have := (hsame b).2 hb
        rw [h1] at this; cases this
    | some y =>
      rw [h1] at hi; injection hi with hi; subst hi
      rcases hown.own i y h1 with h2 | ⟨r, h2, h3⟩
      · exact .inl h2
      · exact .inr ⟨r, h2, okBlk_any (hok i y h1) h3⟩
theorem scalR_any {u : AV} {v : Value} {X X' : Nat → Prop} {K' : KM} (hu : scalR u = true) (h : VR w X K u v) : VR w X' K' u v := by
  unfold scalR at hu
  split at hu
  · rename_i xs
    obtain ⟨vs, rfl, hl, hv⟩ := VR.tup_inv h
    refine .tup hl fun j u c hu' hc => ?_
    have hx : ∀ {xs : List AV} {j : Nat} {u : AV}, AV.xfreeL xs = true → xs[j]? = some u → u.scalar = true := by
      intro xs
      induction xs with
      | nil => intro j u _ hj; simp at hj
      | cons y ys ih =>
        intro j u hx hj
        simp only [AV.xfreeL, Bool.and_eq_true] at hx
        cases j with
        | zero => simp at hj; subst hj; exact hx.1
        | succ j => exact ih hx.2 (by simpa using hj)
    exact scalar_sound (hx hu hu') (hv j u c hu' hc) _ _
  · exact scalar_sound hu h _ _
theorem s_callS (hs : SRK E K c a w) (hval : Vals E K c a w val) {f : Operand} {args : Array Operand} {ts : Array TypeId} (ho : o.op = .call { callee := .value f, args := args, argTypes := ts })
    (h : (callSA (olk c.O) (val f) (args.toList.map val)).holds P (· = r)) : o.wp P a w (OpPost E c r a o.dst) NoQ := by
  unfold callSA at h
  split at h
  · rename_i g caps hvf
    split at h
    · rename_i O hA
      split at h
      · rename_i us hV
        obtain ⟨O', x, ⟨⟨fn, hfn, hname, hbody⟩, hfun⟩, h⟩ := h
        dsimp only at h
        split at h
        · rename_i hok
          simp only [Bool.and_eq_true] at hok
          have hr : _ = r := h
          have hO := handAll_own hA
          obtain ⟨cv, ef, cl, cvv⟩ := VR.func_inv (hval.at hvf)
          obtain ⟨ml, mv⟩ := map_vals hval args
          obtain ⟨v1, v2⟩ := viewsS_sound hs hO hV
          have hno := viewsS_noopt hA hV
          have hall : ∀ (j : Nat) u v, (args.toList.map val ++ caps)[j]? = some u → (args.map a.eval ++ cv)[j]? = some v → VR w (XX E K c.O) K u v := by
            intro j u v hu hv
            have hnu := hno j u hu
            have hasl : (args.toList.map val).length = (args.map a.eval).size := by simp
            rcases Nat.lt_or_ge j (args.toList.map val).length with hlt | hge
            · rw [List.getElem?_append_left hlt] at hu
              rw [Array.getElem?_append_left (by omega)] at hv
              exact FV.vr (mv j u v hu (by simpa using hv)) hnu
            · rw [List.getElem?_append_right hge] at hu
              rw [Array.getElem?_append_right (by omega)] at hv
              rw [hasl] at hu
              exact cvv _ u v hu hv
          have hsize : us.length = (args.map a.eval ++ cv).size := by
            rw [v1]; simp [cl]
          have hargs : ∀ (j : Nat) u v, us[j]? = some u → (args.map a.eval ++ cv)[j]? = some v → VR w (Live K O) K u v := fun j u v hu hv => v2 j u v hu fun u0 hu0 => hall j u0 v hu0 hv
          have hlive : ∀ g, Live K O g → ∃ b, (olk c.O b).isSome = true ∧ blkOf K b = some g := by
            rintro g ⟨b, hb, hk⟩
            obtain ⟨x, hx⟩ := Option.isSome_iff_exists.1 hb
            exact ⟨b, by simp [hO b x hx], hk⟩
          have hownR : OwnR w (Live K O) K O := by
            refine ⟨fun b blk hb => hs.rows b blk (hO b blk hb), fun b blk hb => ?_, fun b b' g h1 h2 k1 k2 => ?_⟩
            · rcases hs.own b blk (hO b blk hb) with h2 | ⟨g', h2, h3⟩
              · exact .inl h2
              · exact .inr ⟨g', h2, h3.keep rfl (Keep.refl _ _) (fun g _ hg => .inl (hlive g hg)) (fun _ _ _ _ _ _ => rfl)⟩
            · obtain ⟨y, hy⟩ := Option.isSome_iff_exists.1 h1
              obtain ⟨y', hy'⟩ := Option.isSome_iff_exists.1 h2
              exact hs.inj b b' g (by simp [hO b y hy]) (by simp [hO b' y' hy']) k1 k2
          have hwi : ∀ w', Ext (Live K O) w w' → WI w' := by
            intro w' hx
            refine E.hwi _ ⟨hx.os.trans hs.ext.os, hx.tape.trans hs.ext.tape, hx.output.trans hs.ext.output, Nat.le_trans hs.ext.size hx.size, fun g hg hX => ?_, fun g cur e hc => ?_⟩
            · rw [hx.block g (Nat.lt_of_lt_of_le hg hs.ext.size) fun ho => ?_]
              · exact hs.ext.block g hg hX
              · obtain ⟨b, hb, hk⟩ := hlive g ho
                rcases hs.mine b g hb hk with h | h
                · exact hX h
                · omega
            · obtain ⟨c1, h1, s1⟩ := hs.ext.shape g cur e hc
              obtain ⟨c2, h2, s2⟩ := hx.shape g c1 e h1
              exact ⟨c2, h2, s2.trans s1⟩
          unfold Oper.wp
          have hrun : (execOp a.eval o).run P w = .ok (.enter g (args.map a.eval ++ cv)) w := by
            simp only [execOp, ho, resolve, ef, Deferred.ofValue, Sem.run_bind, Sem.run_pure, Result.andThen_ok, invoke, callFunc, run_program]
            simp [hfn, hname, hbody]
          rw [hrun, Oper.upon_enter]
          refine (hfun w K _ hwi hownR hsize hargs).mono ?_
          rintro e w1 ⟨v, rfl, hrr, hown', hext⟩
          have hst : Step (Live K O) w w1 := ⟨⟨hext.size, hext.block, hext.shape⟩, hext.os, hext.tape, hext.output⟩
          have hs2 := hs.writeS hO (sameO_some hok.1.1) hst hown' (okO_get hok.1.2)
          subst hr
          exact ⟨K, v, rfl, hs2, scalR_any hok.2 hrr⟩
        · exact h.elim
      · exact h.elim
    · exact h.elim
  · exact h.elim
end
end
end Go.Abs
