import Derived.Laws.MakeOwn
import Derived.Test.YteihenhffdckiaaGreatDoorJ5
section
namespace Go.Abs
open Go.RowKit
set_option linter.unusedVariables false

section
variable {P : Program} {T : Tab} {E : Env} {K : KM} {c : Cfg} {a : Act} {w : World} {o : Oper} {r : Res} {val : Operand → AV} {X : Nat → Prop}

theorem places_sound (hT : TabOK P T) : ∀ {ff : List Field} {ps : List (Nat × Nat)}, placesE T (ff.map fun f => (f.offset, f.type)) = some ps → ff.mapM (fun f => (P.info? f.type).map fun i => (f.offset, i.size)) = some ps
  | [], ps, h => by simp [placesE] at h; subst h; rfl
  | f :: ff, ps, h => by
    simp only [List.map_cons, placesE] at h
    split at h
    · rename_i ti qs hti hqs
      injection h with h
      subst h
      obtain ⟨_, ⟨j, hj, _, hjs, _⟩, _⟩ := hT.get hti
      simp [List.mapM_cons, hj, places_sound hT hqs, hjs]
    · cases h

theorem range0 {α : Type} (f : Nat → α) : (Array.range 0).map f = #[] := Array.eq_empty_of_size_eq_zero (by simp)

theorem s_build (hT : TabOK P T) (hone : ∀ t i, T.get t = some i → oneCells i.zero = true) (hs : SRK E K c a w) (hval : Vals E K c a w val) {t : TypeId} {parts : Array (Nat × Operand)} (ho : o.op = .build t parts)
    (h : Ans.holds P (match T.get t with
    | some i => match i.k, (AV.ofVal i.zero).cellsOf with
      | .struct fs, some z => match placesE T fs with
        | some ps => match fillE (fun i => ps[i]?) val parts.toList z with
          | some cs => retV (.agg cs)
          | none => .no
        | none => .no
      | .array _ e, some z => match T.get e with
        | some ei => match fillE (fun i => some (i * ei.size, ei.size)) val parts.toList z with
          | some cs => retV (.agg cs)
          | none => .no
        | none => .no
      | _, _ => .no
    | none => .no) (· = r)) : o.wp P a w (OpPost E c r a o.dst) NoQ := by
  split at h
  · rename_i i hi
    obtain ⟨⟨d, hd, hdk⟩, ⟨j, hj, hjz, hjs, _⟩, _⟩ := hT.get hi
    have fin : ∀ (cells : Array Value) (cs : List AV), P.built t (parts.map fun (i, x) => (i, a.eval x)).toList = some cells → ArrR w (XX E K c.O) K cs cells → { v := .agg cs } = r → o.wp P a w (OpPost E c r a o.dst) NoQ := by
      intro cells cs hb hr he
      refine wp_val hs (vv := .agg cells) ?_ he (.agg hr.1 hr.2.1 hr.2.2)
      simp only [execOp, ho, Sem.run_bind, run_build w t _ cells hb, Result.andThen_ok, Sem.run_pure]
    have hz0 : ∀ z, (AV.ofVal i.zero).cellsOf = some z → ArrR w (XX E K c.O) K z i.zero.cells := by
      intro z hz
      obtain ⟨h1, h2, h3⟩ := cellsOf_sound hz (ofVal_sound w (XX E K c.O) K i.zero (hone t i hi))
      exact ⟨h1.symm, h2, h3⟩
    split at h
    · rename_i fs z hk hz
      rw [hk] at hdk
      obtain ⟨ff, rfl, hff⟩ := of_struct hdk
      split at h
      · rename_i ps hps
        split at h
        · rename_i cs hcs
          rw [hff] at hps
          have hm := places_sound hT hps
          obtain ⟨cells, hf, hr⟩ := fill_sound hval (place' := (ps.toArray[·]?)) (fun i x hx => by simpa using hx) hcs (hz0 z hz)
          refine fin cells cs ?_ hr h
          unfold Program.built
          simp only [hj, hd, hjz, hm]
          simpa using hf
        · exact h.elim
      · exact h.elim
    · rename_i n e z hk hz
      rw [hk] at hdk
      have := of_array hdk
      subst this
      split at h
      · rename_i ei hei
        obtain ⟨_, ⟨je, hje, _, hjes, _⟩, _⟩ := hT.get hei
        split at h
        · rename_i cs hcs
          obtain ⟨cells, hf, hr⟩ := fill_sound hval (place' := fun i => some (i * je.size, je.size)) (fun i x hx => by rw [hjes]; exact hx) hcs (hz0 z hz)
          refine fin cells cs ?_ hr h
          unfold Program.built
          simp only [hj, hd, hjz, hje]
          simpa using hf
        · exact h.elim
      · exact h.elim
    · exact h.elim
  · exact h.elim

theorem rep_get (z : List AV) : ∀ (n i : Nat), i < n * z.length → (List.replicate n z).flatten[i]? = z[i % z.length]?
  | 0, i, h => by simp at h
  | n + 1, i, h => by
    simp only [List.replicate_succ, List.flatten_cons]
    rcases Nat.lt_or_ge i z.length with hlt | hge
    · rw [List.getElem?_append_left hlt, Nat.mod_eq_of_lt hlt]
    · rw [List.getElem?_append_right hge, rep_get z n (i - z.length) (by rw [Nat.add_mul] at h; omega), Nat.mod_eq_sub_mod hge]
theorem chunk_flat (sz : Nat) : ∀ (n : Nat) (cs : List AV), cs.length = n * sz → (chunk sz n cs).flatten = cs ∧ (∀ row ∈ chunk sz n cs, row.length = sz) ∧ (chunk sz n cs).length = n
  | 0, cs, h => by simp at h; subst h; simp [chunk]
  | n + 1, cs, h => by
    rw [Nat.add_mul] at h
    obtain ⟨h1, h2, h3⟩ := chunk_flat sz n (cs.drop sz) (by simp; omega)
    refine ⟨by simp [chunk, h1], fun row hr => ?_, by simp [chunk, h3]⟩
    simp only [chunk, List.mem_cons] at hr
    rcases hr with rfl | hr
    · simp; omega
    · exact h2 row hr
theorem kdOf_fit {rows : List (List AV)} {j : Nat} {u : AV} (hj : rows.flatten[j]? = some u) : kdOf rows ≠ .any → (kdOf rows).fits u = true := by
  have hm : ∃ row ∈ rows, u ∈ row := by
    have := List.mem_of_getElem? hj
    simpa using this
  obtain ⟨row, hr, hu⟩ := hm
  obtain ⟨k, hk⟩ := List.getElem?_of_mem hu
  unfold kdOf
  split
  · rename_i h
    intro _
    exact allFit_get (List.all_eq_true.1 h row hr) hk
  · split
    · rename_i h
      intro _
      exact allFit_get (List.all_eq_true.1 h row hr) hk
    · intro h; exact absurd rfl h
theorem fit_any {kd : Kd} {u : AV} {v : Value} (hf : kd ≠ .any → kd.fits u = true) (h : VR w X K u v) : VR w (KdX kd X) (KdK kd K) u v := by
  cases hk : kd
  · exact fit_sound (by rw [hk] at hf; exact hf (by simp)) h
  · exact fit_sound (by rw [hk] at hf; exact hf (by simp)) h
  · exact h
  · rw [hk] at hf; exact absurd (hf (by simp)) (by simp [Kd.fits])
theorem kdOf_cells (rows : List (List AV)) : ∀ ag st, kdOf rows ≠ .map ag st := by
  intro ag st
  unfold kdOf
  split
  · simp
  · split <;> simp
theorem fill_has {b : Nat} (hhas : ∀ x, (val x).has b = false) {place : Nat → Option (Nat × Nat)} : ∀ {parts : List (Nat × Operand)} {row row' : List AV}, fillE place val parts row = some row' → (∀ (j : Nat) u, row[j]? = some u → u.has b = false) → ∀ (j : Nat) u, row'[j]? = some u → u.has b = false
  | [], row, row', h, hr => by simp only [fillE] at h; injection h with h; subst h; exact hr
  | (i, x) :: parts, row, row', h, hr => by
    simp only [fillE] at h
    split at h
    · cases h
    · split at h
      · cases h
      · rename_i cs hcs
        split at h
        · split at h
          · rename_i row1 hsp
            refine fill_has hhas h fun j u hu => ?_
            rw [(spliceE_get hsp).2] at hu
            split at hu
            · exact cellsOf_has hcs (hhas x) hu
            · exact hr j u hu
          · cases h
        · cases h

theorem s_buildSlice (hT : TabOK P T) (hone : ∀ t i, T.get t = some i → oneCells i.zero = true) (hs : SRK E K c a w) (hval : Vals E K c a w val) (hhas : ∀ x b, fresh b c = true → (val x).has b = false)
    {t : TypeId} {len : Nat} {parts : Array (Nat × Operand)} (ho : o.op = .buildSlice t len parts) (hf : freshD c r.nw r.D = true)
    (h : Ans.holds P (match T.get t with
    | some i => match i.k with
      | .slice e => match T.get e with
        | some ei => match (AV.ofVal ei.zero).cellsOf with
          | some z => match Nat.beq z.length ei.size && Nat.ble 1 ei.size with
            | true => match fillE (fun i => some (i * ei.size, ei.size)) val parts.toList (List.replicate len z).flatten with
              | some cs => match Nat.beq cs.length (len * ei.size), Nat.ble (len * ei.size) 1000000 with
                | true, true => match isLitT t len && AV.idlessL cs with
                  | true => .ret { v := .rsl ei.size len (chunk ei.size len cs), D := [], nw := true }
                  | false => .ret { v := .osl (idOf o.dst 0) ei.size len, D := [(idOf o.dst 0, { e := e, sz := ei.size, kd := kdOf (chunk ei.size len cs), rows := chunk ei.size len cs })], nw := true }
                | _, _ => .no
              | none => .no
            | false => .no
          | none => .no
        | none => .no
      | _ => .no
    | none => .no) (· = r)) : o.wp P a w (OpPost E c r a o.dst) NoQ := by
  split at h
  · rename_i i hi
    obtain ⟨⟨d, hd, hdk⟩, _⟩ := hT.get hi
    split at h
    · rename_i e hk
      rw [hk] at hdk
      have := of_slice hdk
      subst this
      split at h
      · rename_i ei hei
        obtain ⟨_, ⟨je, hje, hjz, hjs, _⟩, _⟩ := hT.get hei
        split at h
        · rename_i z hz
          split at h
          · rename_i hzl
            rw [Bool.and_eq_true] at hzl
            have hpos := Nat.le_of_ble_eq_true hzl.2
            have hzl := beq_true hzl.1
            split at h
            · rename_i cs hcs
              split at h
              · rename_i hcl hbig
                have hcl := beq_true hcl
                have hbig := Nat.le_of_ble_eq_true hbig
                obtain ⟨h1, h2, h3⟩ := cellsOf_sound hz (ofVal_sound w (XX E K c.O) K ei.zero (hone e ei hei))
                have h0 : ArrR w (XX E K c.O) K (List.replicate len z).flatten ((Array.range (len * ei.size)).map (ei.zero.cells[· % ei.zero.cells.size]!)) := by
                  have hlen : (List.replicate len z).flatten.length = len * ei.size := by simp [hzl]
                  have hcell : ∀ j x, ((Array.range (len * ei.size)).map (ei.zero.cells[· % ei.zero.cells.size]!))[j]? = some x → j < len * ei.size ∧ ei.zero.cells[j % ei.zero.cells.size]? = some x := by
                    intro j x hx
                    have hj : j < len * ei.size := by
                      have := (Array.getElem?_eq_some_iff.1 hx).1
                      simpa using this
                    refine ⟨hj, ?_⟩
                    simp only [Array.getElem?_map, Array.getElem?_range, hj, if_true, Option.map_some, Option.some.injEq] at hx
                    have hpos : 0 < ei.zero.cells.size := by rw [h1, hzl]; exact hpos
                    have hm := Nat.mod_lt j hpos
                    rw [getElem!_pos ei.zero.cells _ hm] at hx
                    rw [← hx]; simp [hm]
                  refine ⟨by simp [hzl], fun j x hx => h2 _ x (hcell j x hx).2, fun j u x hu hx => ?_⟩
                  obtain ⟨hj, hx'⟩ := hcell j x hx
                  rw [rep_get z len j (by rw [hzl]; exact hj)] at hu
                  exact h3 _ u x hu (by rw [h1] at hx'; exact hx')
                obtain ⟨cells, hfl, ar⟩ := fill_sound hval (place' := fun i => some (i * ei.size, ei.size)) (fun i x hx => hx) hcs h0
                obtain ⟨c1, c2, c3⟩ := chunk_flat ei.size len cs hcl
                have hst := Step.alloc (fun _ => False) w (.cells cells e)
                have hcs' : cells.size = len * ei.size := by rw [← ar.1]; exact hcl
                have hrun : (execOp a.eval o).run P w = .ok (.value (.slice (some ⟨w.heap.size, 0, none⟩) len len)) (w.alloc (.cells cells e)) := by
                  have hnb : ¬ (len * ei.size > 2 ^ 24) := by omega
                  simp only [execOp, ho]
                  by_cases hz0 : len * ei.size = 0
                  · have hfl' : Instr.fill (fun i => some (i * ei.size, ei.size)) #[] (parts.toList.map fun (i, x) => (i, a.eval x)) = some cells := by
                      rw [hz0, range0] at hfl; exact hfl
                    have hfl'' : Instr.fill (fun i => some (i * ei.size, ei.size)) #[] (parts.toList.map fun x => (x.1, a.eval x.2)) = some cells := hfl'
                    simp [Instr.buildSlice, run_underlying hd, sizeOf_run hje, hjs, hz0, newRow, range0, hfl'']
                  · have hfl' : Instr.fill (fun i => some (i * ei.size, ei.size)) ((Array.range (len * ei.size)).map (ei.zero.cells[· % ei.zero.cells.size]!)) (parts.toList.map fun (i, x) => (i, a.eval x)) = some cells := hfl
                    simp [Instr.buildSlice, run_underlying hd, sizeOf_run hje, hjs, hz0, hnb, zeroValue, typeInfo, hje, hjz, newRow, hfl']
                split at h
                · rename_i hlt
                  rw [Bool.and_eq_true] at hlt
                  have hid := hlt.2
                  have hr : _ = r := h
                  refine wp_new hrun hr (hs.move hst) (.rsl (cs := cells.toList) c3.symm c2 (Nat.le_refl _) (fun h => by cases h) ?_ (fun x hx => ?_) (fun _ => ⟨w.heap.size, 0, rfl, by simp, fun hx => ?_, fun j x hj => ?_⟩) (fun j u x hj hx => ?_))
                  · rw [c1, ar.1, Array.length_toList]
                  · obtain ⟨j, hj⟩ := List.getElem?_of_mem hx
                    exact ar.2.1 j x (by simpa using hj)
                  · rcases hx with ⟨b', hb', hK'⟩ | ⟨_, hx⟩
                    · exact Nat.lt_irrefl _ (hs.live_lt hb' hK')
                    · exact Nat.lt_irrefl _ (Nat.lt_of_lt_of_le hx hs.ext.size)
                  · have hc := heap_new w (.cells cells e)
                    simp only [World.cell?, hc]
                    simpa using hj
                  · rw [c1] at hj
                    have hv := ar.2.2 j u x hj (by simpa using hx)
                    refine VR.keep (idless_sound hv (idlessL_get hid hj) K0) (hst.keep.mono fun _ _ h => h.elim) (fun g hg hX => hX) (fun _ _ => rfl)
                have hr : _ = r := h
                have hf' := hf
                rw [← hr] at hf'
                have hfr := freshD_one hf'
                refine wp_new (vv := .slice (some ⟨w.heap.size, 0, none⟩) len len) (w' := w.alloc (.cells cells e)) hrun hr
                  (bind_new (cur := cells) hs hfr hst (Nat.le_refl _) c2 (HoldsObj.mk (kdOf_cells _) (heap_new w _)) fun j u hj => ?_) ?_
                · simp only at hj
                  have hj' := hj
                  rw [c1] at hj
                  have hlt : j < cells.size := by rw [← ar.1]; exact (List.getElem?_eq_some_iff.1 hj).1
                  have hy : cells[j]? = some cells[j] := by simp [hlt]
                  refine ⟨fun _ => ?_, cells[j], hy, ar.2.1 j _ hy, ?_⟩
                  · refine fill_has (fun x => hhas x _ hfr) hcs (fun p u' hu' => ?_) j u hj
                    have hm : u' ∈ z := by
                      have := List.mem_of_getElem? hu'
                      obtain ⟨l, h1, h2⟩ := List.mem_flatten.1 this
                      rw [List.eq_of_mem_replicate h1] at h2
                      exact h2
                    obtain ⟨q, hq⟩ := List.getElem?_of_mem hm
                    exact cellsOf_has hz (has_idless _ _ (ofVal_idless _)) hq
                  · refine fit_any (fun hne => kdOf_fit hj' hne) ?_
                    refine VR.keep (ar.2.2 j u _ hj hy) (hst.keep.mono fun _ _ h => h.elim) (fun g hg hX => ?_) (fun _ _ => rfl)
                    rcases hX with hX | rfl
                    · exact hX
                    · omega
                · refine .osl (upd_same _ _ _) (Nat.le_of_eq c3.symm) (heap_new w _) (Nat.le_refl _) ?_ (by rw [hcs'])
                  unfold maxLen
                  have : len ≤ len * ei.size := Nat.le_mul_of_pos_right _ hpos
                  omega
              · exact h.elim
            · exact h.elim
          · exact h.elim
        · exact h.elim
      · exact h.elim
    · exact h.elim
  · exact h.elim
theorem s_makeSlice (hT : TabOK P T) (hone : ∀ t i, T.get t = some i → oneCells i.zero = true) (hs : SRK E K c a w) (hval : Vals E K c a w val)
    {t : TypeId} {l cc : Operand} (ho : o.op = .makeSlice t l cc) (hf : freshD c r.nw r.D = true)
    (h : (makeA T o.dst t (val l) (val cc)).holds P (· = r)) : o.wp P a w (OpPost E c r a o.dst) NoQ := by
  unfold makeA at h
  split at h
  · rename_i i hi
    obtain ⟨⟨d, hd, hdk⟩, _⟩ := hT.get hi
    split at h
    · rename_i e hk
      rw [hk] at hdk
      have := of_slice hdk
      subst this
      split at h
      · rename_i ei hei
        obtain ⟨_, ⟨je, hje, hjz, hjs, hjb⟩, _⟩ := hT.get hei
        split at h
        · rename_i z hz
          split at h
          · rename_i hzl
            rw [Bool.and_eq_true, Bool.and_eq_true] at hzl
            have hfit := hzl.2
            have hpos := Nat.le_of_ble_eq_true hzl.1.2
            have hzl := beq_true hzl.1.1
            split at h
            · rename_i n m hl hc
              obtain ⟨⟨rfl, h0, hby, h63⟩, h⟩ := h
              have hr : _ = r := h
              have hf' := hf
              rw [← hr] at hf'
              have hfr := freshD_one hf'
              have el := hval.int hl
              have ec := hval.int hc
              obtain ⟨k, rfl⟩ := Int.eq_ofNat_of_zero_le h0
              rw [Int.toNat_natCast] at hr
              obtain ⟨h1, h2, h3⟩ := cellsOf_sound hz (ofVal_sound w (XX E K c.O) K ei.zero (hone e ei hei))
              have hrun := run_make (P := P) w t e je ei.zero hd hje hjz .i64 .i64 (k : Int) (k : Int) h0 (Int.le_refl _) (by rw [hjb]; omega) (by omega)
              rw [Int.toNat_natCast, hjs] at hrun
              have hst := Step.alloc (fun _ => False) w (.cells (madeCells ei.zero.cells (k * ei.size)) e)
              refine wp_new (vv := .slice (some ⟨w.heap.size, 0, none⟩) k k) (w' := w.alloc (.cells (madeCells ei.zero.cells (k * ei.size)) e)) ?_ hr
                (bind_new (cur := madeCells ei.zero.cells (k * ei.size)) hs hfr hst (Nat.le_refl _) (fun row hrow => by rw [List.eq_of_mem_replicate hrow]; exact hzl) (heap_new w _) fun j u hj => ?_) ?_
              · simp only [execOp, ho, el, ec, Sem.run_bind, hrun, Result.andThen_ok, Sem.run_pure]
              · have hlen : (List.replicate k z).flatten.length = k * ei.size := by simp [hzl]
                have hjl : j < k * ei.size := by rw [← hlen]; exact (List.getElem?_eq_some_iff.1 hj).1
                have hm : j % ei.zero.cells.size < ei.zero.cells.size := Nat.mod_lt _ (by rw [h1, hzl]; exact hpos)
                have hcell : (madeCells ei.zero.cells (k * ei.size))[j]? = some ei.zero.cells[j % ei.zero.cells.size] := by
                  simp only [madeCells, Array.getElem?_map, Array.getElem?_range, hjl, if_true, Option.map_some]
                  rw [getElem!_pos ei.zero.cells _ hm]
                have hx : ei.zero.cells[j % ei.zero.cells.size]? = some ei.zero.cells[j % ei.zero.cells.size] := by simp [hm]
                simp only at hj
                rw [rep_get z k j (by rw [hzl]; exact hjl)] at hj
                refine ⟨fun hk => (by cases hk), _, hcell, h2 _ _ hx, ?_⟩
                have hsc : u.scalar = true := by
                  have : ∀ {zs : List AV} {p : Nat}, allFit .pure zs = true → zs[p]? = some u → u.scalar = true := by
                    intro zs
                    induction zs with
                    | nil => intro p _ h; simp at h
                    | cons y ys ih =>
                      intro p hf hp
                      simp only [allFit, Bool.and_eq_true] at hf
                      cases p with
                      | zero => simp at hp; subst hp; exact hf.1
                      | succ p => exact ih hf.2 (by simpa using hp)
                  exact this hfit hj
                have hv := h3 _ u _ hj (by rw [← h1]; exact hx)
                have hv' : VR (w.alloc (.cells (madeCells ei.zero.cells (k * ei.size)) e)) (XX E K c.O) K u ei.zero.cells[j % ei.zero.cells.size] := VR.keep (X' := XX E K c.O) (K' := K) hv (hst.keep.mono fun _ _ h => h.elim) (fun _ _ h => h) (fun _ _ => rfl)
                exact scalar_sound hsc hv' _ _
              · refine .osl (upd_same _ _ _) (Nat.le_of_eq (by simp)) (heap_new w _) (Nat.le_refl _) (by unfold maxLen; omega) (by rw [size_madeCells])
            · exact h.elim
          · exact h.elim
        · exact h.elim
      · exact h.elim
    · exact h.elim
  · exact h.elim
end
end Go.Abs
end
section
namespace Go.Abs
open Go.RowKit
set_option linter.unusedVariables false

/-- What an append comes to: nothing; the spare cells of the row are written; a new row. -/
theorem append_core {P : Program} (w : World) (t ty e : Nat) (i : TypeInfo) (z : Value) (size : Nat) (ht : P.underlying t = some (.slice e)) (hi : P.info? e = some i) (hz : i.zero = some z)
    (hsize : i.size = size) (hzs : z.cells.size = size) (hsz : 0 < size)
    (v : Value) (n : Nat) (xs : List Value) (hxl : xs.length = n * size)
    (hold : (n = 0 ∧ v = .slice none 0 0) ∨ ∃ (g cap : Nat) (cur : Array Value), v = .slice (some ⟨g, 0, none⟩) n cap ∧ n ≤ cap ∧ cap ≤ maxLen ∧ cap * size = cur.size ∧ w.heap[g]? = some (.cells cur e (0, 0)) ∧ cur.toList.take (n * size) = xs)
    (A : Option Addr) (m cp : Nat) (news : List Value) (hl : news.length = m * size) (hnews : 0 < m → ∃ g o, A = some ⟨g, o, none⟩ ∧ ∀ (j : Nat) u, news[j]? = some u → w.cell? ⟨g, o + j, none⟩ = some u) (h1 : ∀ u ∈ news, u.oneCell' = true)
    (h63 : n + m ≤ maxLen) (hbytes : (n + m) * i.bytes ≤ 140737488355328) :
    ∃ v' w', (Builtin.append_ #[t, t] ty #[v, .slice A m cp]).run P w = .ok v' w' ∧
      ((m = 0 ∧ v' = v ∧ w' = w) ∨
       (∃ (g cap : Nat) (cur new : Array Value), v = .slice (some ⟨g, 0, none⟩) n cap ∧ cap * size = cur.size ∧ cap ≤ maxLen ∧ n + m ≤ cap ∧ w.heap[g]? = some (.cells cur e (0, 0)) ∧ v' = .slice (some ⟨g, 0, none⟩) (n + m) cap ∧ w' = w.setRow g new ∧ new.size = cur.size ∧ new.toList.take ((n + m) * size) = xs ++ news) ∨
       (∃ (cap : Nat) (cells : Array Value), v' = .slice (some ⟨w.heap.size, 0, none⟩) (n + m) cap ∧ w' = w.drew.alloc (.cells cells e) ∧ cells.size = cap * size ∧ n + m ≤ cap ∧ cap ≤ maxLen ∧ cells.toList.take ((n + m) * size) = xs ++ news)) := by
  subst hsize
  have hsmall : n + m ≤ 9223372036854775807 := by simp only [maxLen] at h63; omega
  have hlen : (xs ++ news).length = (n + m) * i.size := by rw [List.length_append, hxl, hl, Nat.add_mul]
  have grow : ∀ (cells : Array Value) (k : Nat), cells = xs.toArray ++ news.toArray ++ Builtin.zeroCells z.cells k → cells.toList.take ((n + m) * i.size) = xs ++ news ∧ cells.size = (n + m + k) * i.size := by
    rintro cells k rfl
    refine ⟨?_, by simp [size_zeroCells, hzs, hxl, hl, Nat.add_mul]⟩
    simp only [Array.toList_append]
    rw [List.take_append_of_le_length (by simp [hxl, hl, Nat.add_mul])]
    exact List.take_of_length_le (by simp [hxl, hl, Nat.add_mul])
  rcases Nat.eq_zero_or_pos m with h0 | h0
  · subst h0
    have hn : news = [] := List.eq_nil_of_length_eq_zero (by simpa using hl)
    subst hn
    refine ⟨v, w, ?_, .inl ⟨rfl, rfl, rfl⟩⟩
    rcases hold with ⟨rfl, rfl⟩ | ⟨g, cap, cur, rfl, hnc, _⟩
    · cases A <;> simp [Builtin.append_, run_underlying ht, sizeOf, typeInfo, hi, Builtin.lenOf, Builtin.firstCells, loadCells, loadCellsFrom]
    · cases A <;> simp [Builtin.append_, run_underlying ht, sizeOf, typeInfo, hi, Builtin.lenOf, Builtin.firstCells, hnc, storeCells, loadCells, loadCellsFrom]
  · obtain ⟨ga, oa, rfl, hc⟩ := hnews h0
    have hc' : ∀ (j : Nat) u, news[j]? = some u → w.cell? ((⟨ga, oa, none⟩ : Addr).add j) = some u := fun j u hu => by
      rw [show (⟨ga, oa, none⟩ : Addr).add j = ⟨ga, oa + j, none⟩ from by unfold Addr.add; split <;> simp_all]; exact hc j u hu
    rcases hold with ⟨rfl, rfl⟩ | ⟨g, cap, cur, rfl, hnc, hcm, hcur, hg, htake⟩
    · have hxs : xs = [] := List.eq_nil_of_length_eq_zero (by simpa using hxl)
      subst hxs
      simp only [Nat.zero_add] at hbytes hsmall h63
      have hr := run_append_nil (P := P) w t ty e i z ht hi hz ⟨ga, oa, none⟩ m cp news hl hc' h0 (by omega) (by omega)
      have hge := grownCap_ge w m 0 e
      refine ⟨_, _, hr, .inr (.inr ⟨_, _, by simp, rfl, ?_, by simpa using hge, grownCap_le_maxLen w m 0 e h63, ?_⟩)⟩
      · simp [size_zeroCells, hzs, hl, ← Nat.add_mul]
        congr 1; omega
      · have := (grow (([] : List Value).toArray ++ news.toArray ++ Builtin.zeroCells z.cells (grownCap w m 0 e - m)) _ rfl).1
        simpa using this
    · rcases Nat.lt_or_ge cap (n + m) with hlt | hge
      · have hr := run_append_grow (P := P) w t ty e i z ht hi hz ⟨g, 0, none⟩ n cap xs hxl (fun j u hu => by
          rw [← htake, List.getElem?_take] at hu
          split at hu
          · rw [show (⟨g, 0, none⟩ : Addr).add j = ⟨g, 0 + j, none⟩ from by unfold Addr.add; split <;> simp_all]
            simp only [World.cell?, hg, Nat.zero_add]
            simpa using hu
          · cases hu) ⟨ga, oa, none⟩ m cp news hl hc' hlt (by omega) (growslice_fits hlt hbytes)
        have hge := grownCap_ge w (n + m) cap e
        refine ⟨_, _, hr, .inr (.inr ⟨_, _, rfl, rfl, ?_, hge, grownCap_le_maxLen w (n + m) cap e h63, (grow _ _ rfl).1⟩)⟩
        rw [(grow _ _ rfl).2]; congr 1; omega
      · have hfit : n * i.size + news.length ≤ cur.size := by rw [hl, ← hcur, ← Nat.add_mul]; exact Nat.mul_le_mul_right _ hge
        have hr := run_append_room (P := P) w t ty e i ht hi g n cap cur hg ⟨ga, oa, none⟩ m cp news hl hc' h1 hge hfit
        refine ⟨_, _, hr, .inr (.inl ⟨g, cap, cur, _, rfl, hcur, hcm, hge, hg, rfl, rfl, ?_, ?_⟩)⟩
        · simp only [List.size_toArray, List.length_append, List.length_take, List.length_drop, Array.length_toList]; omega
        · simp only [htake]
          rw [List.take_append_of_le_length (by rw [hlen]; exact Nat.le_refl _)]
          exact List.take_of_length_le (by rw [hlen]; exact Nat.le_refl _)

section
variable {P : Program} {T : Tab} {E : Env} {K : KM} {c : Cfg} {a : Act} {w : World} {o : Oper} {r : Res} {val : Operand → AV} {X : Nat → Prop}

/-- what an append takes -/
structure Src (w : World) (X : Nat → Prop) (K : KM) (sz m : Nat) (rows : List (List AV)) (kd : Kd) (v : Value) : Prop where
  len : m = rows.length
  uni : ∀ row ∈ rows, row.length = sz
  val : ∃ (A : Option Addr) (cp : Nat) (news : List Value), v = .slice A m cp ∧ news.length = m * sz ∧ (0 < m → ∃ g o, A = some ⟨g, o, none⟩ ∧ ∀ (j : Nat) u, news[j]? = some u → w.cell? ⟨g, o + j, none⟩ = some u) ∧ (∀ u ∈ news, u.oneCell' = true) ∧
    ∀ (j : Nat) u x, rows.flatten[j]? = some u → news[j]? = some x → VR w (KdX kd X) (KdK kd K) u x

theorem src_sound (hs : SRK E K c a w) {esz m : Nat} {rows : List (List AV)} {kd : Kd} {u : AV} {v : Value} (h : srcRows (olk c.O) esz u = some (m, rows, kd)) (hv : VR w (XX E K c.O) K u v) : Src w (XX E K c.O) K esz m rows kd v := by
  unfold srcRows at h
  split at h
  · injection h with h; injection h with h1 h2; injection h2 with h2 h3; subst h1 h2 h3
    have := VR.nilsl_inv hv
    exact ⟨rfl, by simp, none, 0, [], this, by simp, fun h => by omega, by simp, by simp⟩
  · injection h with h; injection h with h1 h2; injection h2 with h2 h3; subst h1 h2 h3
    obtain ⟨A, cap, e1⟩ := VR.esl_inv hv
    exact ⟨rfl, by simp, some A, cap, [], e1, by simp, fun h => by omega, by simp, by simp⟩
  · split at h
    · rename_i hsz
      have hsz := beq_true hsz
      subst hsz
      injection h with h; injection h with h1 h2; injection h2 with h2 h3; subst h1 h2 h3
      obtain ⟨A, cap, e1, hn, hr, hcap, hA0, cs, hcs, hone, hA, hv'⟩ := VR.rsl_inv hv
      refine ⟨hn, hr, A, cap, cs, e1, by rw [hcs, flat_len hr, hn], fun hpos => ?_, hone, hv'⟩
      obtain ⟨g, b, e, _, _, hc⟩ := hA (by rintro rfl; simp at hn; omega)
      exact ⟨g, b, e, hc⟩
    · cases h
  · rename_i b sz n
    split at h
    · rename_i blk hb
      split at h
      · rename_i hsz hsz2
        have hsz := beq_true hsz
        have hsz2 := beq_true hsz2
        subst hsz
        injection h with h; injection h with h1 h2; injection h2 with h2 h3; subst h1 h2 h3
        have hr := hs.rows b blk hb
        rcases VR.osl_inv hv with ⟨hK, hz, e1⟩ | ⟨g, cap, cur, e', mm, hK, hnm, e1, hc, hnc, hm, hcur⟩
        · subst hz
          exact ⟨by simp, by simp, none, 0, [], e1, by simp, fun h => by omega, by simp, by simp⟩
        · rcases hs.own b blk hb with ⟨k1, _⟩ | ⟨g', k1, cur', hc', hu'⟩
          · rw [hK] at k1; cases k1
          · rw [hK] at k1; injection k1 with k1; injection k1 with k1 k2; injection k1 with k1; subst k1 k2
            replace hc' := hc'.of_obj hc; rw [hc] at hc'; injection hc' with hc'; injection hc' with h1 h2; subst h1
            have hrt : ∀ row ∈ blk.rows.take n, row.length = sz := fun row h => by rw [← hsz2]; exact hr row (List.mem_of_mem_take h)
            have hlen : (blk.rows.take n).length = n := by rw [List.length_take]; omega
            have hfl := flat_len hrt
            rw [hlen] at hfl
            have hpre : ∀ (j : Nat) u, (blk.rows.take n).flatten[j]? = some u → blk.rows.flatten[j]? = some u := by
              intro j u hu
              have : blk.rows = blk.rows.take n ++ blk.rows.drop n := (List.take_append_drop _ _).symm
              rw [this, List.flatten_append, List.getElem?_append_left (List.getElem?_eq_some_iff.1 hu).1]
              exact hu
            have hsz3 : n * sz ≤ cur.size := by rw [← hcur]; exact Nat.mul_le_mul_right _ hnc
            refine ⟨hlen.symm, hrt, some ⟨g, 0, none⟩, cap, cur.toList.take (n * sz), e1, by simp; omega, fun _ => ⟨g, 0, rfl, fun j u hu => ?_⟩, fun x hx => ?_, fun j u x hu hx => ?_⟩
            · rw [List.getElem?_take] at hu
              split at hu
              · simp only [World.cell?, hc, Nat.zero_add]
                simpa using hu
              · cases hu
            · obtain ⟨j, hj⟩ := List.getElem?_of_mem hx
              rw [List.getElem?_take] at hj
              split at hj
              · rename_i hlt
                have : j < (blk.rows.take n).flatten.length := by omega
                obtain ⟨y, hy, h1y, _⟩ := hu' j _ (hpre j _ (List.getElem?_eq_getElem this))
                have hj' : cur[j]? = some x := by simpa using hj
                rw [hj'] at hy; injection hy with hy; subst hy; exact h1y
              · cases hj
            · rw [List.getElem?_take] at hx
              split at hx
              · rename_i hju
                obtain ⟨y, hy, _, hvy⟩ := hu' j u (hpre j u hu)
                have hx' : cur[j]? = some x := by simpa using hx
                rw [hx'] at hy; injection hy with hy; subst hy; exact hvy
              · cases hx
      · cases h
    · cases h
  · cases h

theorem takes_get {tk sk : Kd} {rows : List (List AV)} {A : Ans} {Q : Res → Prop} (h : (takesKd tk sk rows A).holds P Q) : A.holds P Q ∧ (tk = .any ↔ sk = .any) ∧ ∀ {w : World} {X : Nat → Prop} {K : KM} {j : Nat} {u : AV} {v : Value}, rows.flatten[j]? = some u → VR w (KdX sk X) (KdK sk K) u v → VR w (KdX tk X) (KdK tk K) u v := by
  unfold takesKd at h
  split at h
  · exact ⟨h, by simp, fun _ h => h⟩
  · refine ⟨h.2, by simp, fun hj hv => ?_⟩
    rename_i j u v
    obtain ⟨row, hr, hu⟩ := List.mem_flatten.1 (List.mem_of_getElem? hj)
    exact scalar_sound (h.1 row hr u hu) hv _ _
  · exact ⟨h, by simp, fun _ h => VR.sub h fun _ _ _ => trivial⟩
  · exact ⟨h, by simp, fun _ h => h⟩
  · exact ⟨h, by simp, fun _ h => h⟩
  · exact h.elim
theorem takes_ne {tk sk : Kd} {rows : List (List AV)} {A : Ans} {Q : Res → Prop} (h : (takesKd tk sk rows A).holds P Q) : ∀ ag st, tk ≠ .map ag st := by
  rintro ag st rfl
  exact h.elim
theorem hasRow_app (b : Nat) : ∀ xs ys : List (List AV), hasRow b (xs ++ ys) = (hasRow b xs || hasRow b ys)
  | [], ys => by simp [hasRow]
  | x :: xs, ys => by simp only [List.cons_append, hasRow, hasRow_app b xs ys, Bool.or_assoc]
theorem hasRow_take {b : Nat} {xs : List (List AV)} (h : hasRow b xs = false) (n : Nat) : hasRow b (xs.take n) = false := by
  rw [← List.take_append_drop n xs, hasRow_app, Bool.or_eq_false_iff] at h
  exact h.1
theorem srcRows_any {own : Nat → Option OBlk} {esz m : Nat} {u : AV} {rows : List (List AV)} {kd : Kd} (h : srcRows own esz u = some (m, rows, kd)) (hk : kd = .any) : ∃ b blk n, own b = some blk ∧ blk.kd = .any ∧ rows = blk.rows.take n := by
  unfold srcRows at h
  split at h
  · injection h with h; injection h with _ h; injection h with _ h; subst h; cases hk
  · injection h with h; injection h with _ h; injection h with _ h; subst h; cases hk
  · split at h
    · injection h with h; injection h with _ h; injection h with _ h; subst h; cases hk
    · cases h
  · split at h
    · rename_i blk hb
      split at h
      · injection h with h; injection h with _ h; injection h with h1 h2; exact ⟨_, blk, _, hb, h2.trans hk, h1.symm⟩
      · cases h
    · cases h
  · cases h

theorem hasRow_purge (b : Nat) : ∀ rows : List (List AV), hasRow b (purgeR b rows) = false
  | [] => rfl
  | r :: rs => by
    have : ∀ xs : List AV, AV.hasL b (purgeL b xs) = false := by
      intro xs
      induction xs with
      | nil => rfl
      | cons x xs ih =>
        unfold purgeL
        cases hx : x.has b
        · simp only [AV.hasL, hx, ih, Bool.or_self]
        · simp only [AV.hasL, ih, Bool.or_false]; rfl
    simp only [purgeR, hasRow, this, hasRow_purge b rs, Bool.or_self]

/-- Rows are appended to a block of one's own (or to the nil slice), id b; nothing else speaks of b. -/
theorem append_bind (hs : SRK E K c a w) {b t ty e sz n m : Nat} {ti ei : TypeInfo} {z : Value} (ht : P.underlying t = some (.slice e)) (hi : P.info? e = some ei) (hz : ei.zero = some z) (hsize : ei.size = sz) (hzs : z.cells.size = sz) (hsz : 0 < sz)
    {kd skd : Kd} {old rows : List (List AV)} {v x : Value} (hpn : Nat.ble (b % 16) 1 = true) (hkm : ∀ ag st, kd ≠ .map ag st) (hnb : kd = .any → hasRow b (old ++ rows) = false)
    (hfr : ∀ t, (lk c.fr t).has b = false) (hO : ∀ i x, olk c.O i = some x → i ≠ b → x.kd = .any → hasRow b x.rows = false)
    (hold : (old = [] ∧ n = 0 ∧ v = .slice none 0 0) ∨ ∃ (g cap : Nat) (cur : Array Value), (olk c.O b).isSome = true ∧ blkOf K b = some g ∧ v = .slice (some ⟨g, 0, none⟩) n cap ∧ n ≤ cap ∧ cap ≤ maxLen ∧ cap * sz = cur.size ∧ w.heap[g]? = some (.cells cur e (0, 0)) ∧
      ∀ (j : Nat) u, old.flatten[j]? = some u → ∃ y, cur[j]? = some y ∧ y.oneCell' = true ∧ VR w (KdX kd (XX E K c.O)) (KdK kd K) u y)
    (hold_len : old.length = n) (hold_uni : ∀ row ∈ old, row.length = sz)
    (hsrc : Src w (XX E K c.O) K sz m rows skd x) (htk : ∀ {w : World} {X : Nat → Prop} {K : KM} {j : Nat} {u : AV} {v : Value}, rows.flatten[j]? = some u → VR w (KdX skd X) (KdK skd K) u v → VR w (KdX kd X) (KdK kd K) u v)
    (h63 : n + m ≤ maxLen) (hbytes : (n + m) * ei.bytes ≤ 140737488355328) :
    ∃ v' w' K', (Builtin.append_ #[t, t] ty #[v, x]).run P w = .ok v' w' ∧ SRK E K' ⟨c.fr, setO b { e := e, sz := sz, kd := kd, rows := old ++ rows } c.O⟩ a w' ∧ VR w' (XX E K' (setO b { e := e, sz := sz, kd := kd, rows := old ++ rows } c.O)) K' (.osl b sz (n + m)) v' := by
  obtain ⟨hml, huni, A, cp, news, rfl, hnl, hcell, hone, hvn⟩ := hsrc
  -- the cells that are there
  obtain ⟨xs, hxl, hold', hxs⟩ : ∃ xs : List Value, xs.length = n * sz ∧ ((n = 0 ∧ v = .slice none 0 0) ∨ ∃ (g cap : Nat) (cur : Array Value), v = .slice (some ⟨g, 0, none⟩) n cap ∧ n ≤ cap ∧ cap ≤ maxLen ∧ cap * sz = cur.size ∧ w.heap[g]? = some (.cells cur e (0, 0)) ∧ cur.toList.take (n * sz) = xs) ∧
      ∀ (j : Nat) u, old.flatten[j]? = some u → ∃ y, xs[j]? = some y ∧ y.oneCell' = true ∧ VR w (KdX kd (XX E K c.O)) (KdK kd K) u y := by
    rcases hold with ⟨rfl, rfl, rfl⟩ | ⟨g, cap, cur, hb, hK, rfl, hnc, hm, hcur, hc, hu⟩
    · exact ⟨[], by simp, .inl ⟨rfl, rfl⟩, by simp⟩
    · have : n * sz ≤ cur.size := by rw [← hcur]; exact Nat.mul_le_mul_right _ hnc
      refine ⟨cur.toList.take (n * sz), by simp; omega, .inr ⟨g, cap, cur, rfl, hnc, hm, hcur, hc, rfl⟩, fun j u hj => ?_⟩
      obtain ⟨y, hy, h1, hv⟩ := hu j u hj
      refine ⟨y, ?_, h1, hv⟩
      have hlt : j < n * sz := by
        have := (List.getElem?_eq_some_iff.1 hj).1
        rw [flat_len hold_uni, hold_len] at this; exact this
      rw [List.getElem?_take, if_pos hlt]
      simpa using hy
  have hfl_old := flat_len hold_uni
  rw [hold_len] at hfl_old
  have hall : ∀ (j : Nat) u, (old ++ rows).flatten[j]? = some u → ∃ y, (xs ++ news)[j]? = some y ∧ y.oneCell' = true ∧ VR w (KdX kd (XX E K c.O)) (KdK kd K) u y ∧ j < (n + m) * sz := by
    intro j u hj
    have hjl : j < (n + m) * sz := by
      have := (List.getElem?_eq_some_iff.1 hj).1
      rw [List.flatten_append, List.length_append, hfl_old, flat_len huni, ← hml, ← Nat.add_mul] at this; exact this
    rw [List.flatten_append] at hj
    rcases Nat.lt_or_ge j (n * sz) with hlt | hge
    · rw [List.getElem?_append_left (by omega)] at hj
      obtain ⟨y, hy, h1, hv⟩ := hxs j u hj
      exact ⟨y, by rw [List.getElem?_append_left (by omega)]; exact hy, h1, hv, hjl⟩
    · rw [List.getElem?_append_right (by omega), hfl_old] at hj
      have hlt2 : j - n * sz < news.length := by
        rw [hnl]; rw [Nat.add_mul] at hjl; omega
      have hy : news[j - n * sz]? = some news[j - n * sz] := List.getElem?_eq_getElem hlt2
      exact ⟨_, by rw [List.getElem?_append_right (by omega), hxl]; exact hy, hone _ (List.getElem_mem hlt2), htk hj (hvn _ u _ hj hy), hjl⟩
  have hrl : (old ++ rows).length = n + m := by rw [List.length_append, hold_len, ← hml]
  have huni' : ∀ row ∈ old ++ rows, row.length = sz := by
    intro row hr
    rcases List.mem_append.1 hr with h | h
    · exact hold_uni row h
    · exact huni row h
  have hKd : ∀ (x : Option Nat × Nat) (j : Nat) u i, (old ++ rows).flatten[j]? = some u → u.has i = true → KdK kd (upd K b x) i = KdK kd K i := by
    intro x j u i hj hu
    cases hk : kd
    · rfl
    · rfl
    · show upd K b x i = K i
      refine upd_other _ _ ?_
      rintro rfl
      rw [hasRow_get (hnb hk) hj] at hu; cases hu
    · exact absurd hk (hkm _ _)
  -- what the new row says, in a world in which only b's old block may have turned
  have bind : ∀ (w' : World) (g cap : Nat) (cells : Array Value), Step (fun r => (olk c.O b).isSome = true ∧ blkOf K b = some r) w w' → (w.heap.size ≤ g ∨ ((olk c.O b).isSome = true ∧ blkOf K b = some g)) →
      w'.heap[g]? = some (.cells cells e (0, 0)) → cells.toList.take ((n + m) * sz) = xs ++ news → cap * sz = cells.size → cap ≤ maxLen → n + m ≤ cap →
      ∃ K', SRK E K' ⟨c.fr, setO b { e := e, sz := sz, kd := kd, rows := old ++ rows } c.O⟩ a w' ∧ VR w' (XX E K' (setO b { e := e, sz := sz, kd := kd, rows := old ++ rows } c.O)) K' (.osl b sz (n + m)) (.slice (some ⟨g, 0, none⟩) (n + m) cap) := by
    intro w' g cap cells hst hg hc htk' hcs hcm hnm
    refine ⟨_, hs.rebind (blk := { e := e, sz := sz, kd := kd, rows := old ++ rows }) hpn hst hfr hO hg huni' ⟨cells, HoldsObj.mk hkm hc, fun j u hj => ?_⟩, .osl (upd_same _ _ _) (Nat.le_of_eq hrl.symm) hc hnm hcm hcs⟩
    obtain ⟨y, hy, h1, hv, hjl⟩ := hall j u hj
    refine ⟨y, ?_, h1, ?_⟩
    · rw [← htk', List.getElem?_take, if_pos hjl] at hy
      simpa using hy
    · refine hv.keep (KdX_keep (hst.keep.mono fun r _ ⟨h1, h2⟩ => .inl ⟨b, h1, h2⟩)) (KdX_sub fun r hr hX => ?_) (fun i hi => hKd _ j u i hj hi)
      rcases hX with ⟨i, hi', hk⟩ | hX
      · by_cases e' : i = b
        · subst e'
          rw [upd_blk] at hk
          injection hk with hk; subst hk
          rcases hg with hg | ⟨h1, h2⟩
          · omega
          · exact .inl ⟨i, h1, h2⟩
        · rw [upd_blk_other _ _ e'] at hk
          rw [olk_setO, if_neg (fun e'' => e' e''.symm)] at hi'
          exact .inl ⟨i, hi', hk⟩
      · exact .inr hX
  obtain ⟨v', w', hrun, hcases⟩ := append_core (P := P) w t ty e ei z sz ht hi hz hsize hzs hsz v n xs hxl hold' A m cp news hnl hcell hone h63 hbytes
  have mine : ∀ (g cap : Nat), v = .slice (some ⟨g, 0, none⟩) n cap → (olk c.O b).isSome = true ∧ blkOf K b = some g := by
    intro g cap hv
    rcases hold with ⟨_, _, rfl⟩ | ⟨g', cap', cur, hb, hK, rfl, _⟩
    · cases hv
    · injection hv with h1; injection h1 with h1; injection h1 with h1; subst h1; exact ⟨hb, hK⟩
  rcases hcases with ⟨hm0, rfl, rfl⟩ | ⟨g, cap, cur, new, hv, hcs, hcm, hnm, hg, rfl, rfl, hns, htk'⟩ | ⟨cap, cells, rfl, rfl, hcs, hnm, hcm, htk'⟩
  · subst hm0
    have hn0 : news = [] := List.eq_nil_of_length_eq_zero (by simpa using hnl)
    rcases hold' with ⟨hn, rfl⟩ | ⟨g, cap, cur, rfl, hnc, hcm, hcur, hg, htk'⟩
    · subst hn
      have hr0 : old ++ rows = [] := List.eq_nil_of_length_eq_zero hrl
      refine ⟨_, _, _, hrun, hs.rebindNil (blk := { e := e, sz := sz, kd := kd, rows := old ++ rows }) hpn hfr hO hr0, ?_⟩
      exact .oslnil (upd_same _ _ _)
    · obtain ⟨K', h1, h2⟩ := bind w' g cap cur (Step.refl _ _) (.inr (mine g cap rfl)) hg (by rw [hn0]; simpa using htk') hcur hcm (by simpa using hnc)
      exact ⟨_, _, K', hrun, h1, h2⟩
  · obtain ⟨hb, hK⟩ := mine g cap hv
    obtain ⟨K', h1, h2⟩ := bind _ g cap new ((Step.setRow hg hns).mono fun r _ hr => ⟨hb, by rw [hr]; exact hK⟩) (.inr ⟨hb, hK⟩) (setRow_heap w g cur _ e (0, 0) hg) htk' (by rw [hns]; exact hcs) hcm hnm
    exact ⟨_, _, K', hrun, h1, h2⟩
  · have hst : Step (fun r => (olk c.O b).isSome = true ∧ blkOf K b = some r) w (w.drew.alloc (.cells cells e)) := (Step.drawn _ w (w.drawn + 1)).trans (Step.alloc _ w.drew _)
    obtain ⟨K', h1, h2⟩ := bind _ w.heap.size cap cells hst (.inl (Nat.le_refl _)) (heap_new w.drew _) htk' hcs.symm hcm hnm
    exact ⟨_, _, K', hrun, h1, h2⟩
end
end Go.Abs
end
