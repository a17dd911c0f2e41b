import Derived.Laws.BytesString
import Derived.Orders
import Derived.Test.YteihenhffdckiaaGreatDoorAbs16
section
namespace Go.Abs
open Go.RowKit Go.MapKept
set_option linter.unusedVariables false
/-! ### bytes as a string -/
section
variable {P : Program} {T : Tab} {E : Env} {K : KM} {c : Cfg} {a : Act} {w : World} {o : Oper} {r : Res} {val : Operand → AV} {X : Nat → Prop}
theorem of_str {d : TypeDesc} (h : TyK.of d = .str) : d = .string := by
  cases d <;> simp [TyK.of] at h
  rfl
theorem u8s_map : ∀ {us : List AV} {cs : List Value}, (∀ u ∈ us, ∃ n, u = AV.int .u8 n) → cs.length = us.length → (∀ (j : Nat) u v, us[j]? = some u → cs[j]? = some v → ∃ X K, VR w X K u v) → cs = (u8s us).map (Value.int .u8)
  | [], [], _, _, _ => rfl
  | [], _ :: _, _, h, _ => by simp at h
  | _ :: _, [], _, h, _ => by simp at h
  | u :: us, v :: cs, h1, h2, h3 => by
    obtain ⟨n, rfl⟩ := h1 u (by simp)
    obtain ⟨X, K, hv⟩ := h3 0 _ v rfl rfl
    have := VR.int_inv hv
    subst this
    simp only [u8s, List.map_cons]
    rw [← u8s_map (us := us) (cs := cs) (fun u hu => h1 u (by simp [hu])) (by simpa using h2) (fun j u v hu hv => h3 (j + 1) u v (by simpa using hu) (by simpa using hv))]
theorem s_bytes (hT : TabOK P T) (hs : SRK E K c a w) (hval : Vals E K c a w val) {s t : TypeId} {x : Operand} (ho : o.op = .convert s t x)
    (h : (bytesA T (olk c.O) s t (val x)).holds P (· = r)) : o.wp P a w (OpPost E c r a o.dst) NoQ := by
  unfold bytesA at h
  split at h
  · rename_i si ti hsi hti
    split at h
    · rename_i e hk hk'
      obtain ⟨⟨d, hd, hdk⟩, _⟩ := hT.get hsi
      rw [hk] at hdk; have := of_slice hdk; subst this
      obtain ⟨⟨d2, hd2, hdk2⟩, _⟩ := hT.get hti
      rw [hk'] at hdk2; have := of_str hdk2; subst this
      split at h
      · rename_i ei hei
        split at h
        · rename_i hke
          obtain ⟨⟨d3, hd3, hdk3⟩, _⟩ := hT.get hei
          rw [hke] at hdk3; have := of_int hdk3; subst this
          split at h
          · rename_i m rows kd _ hsrc
            obtain ⟨us, ⟨hrows, hu8⟩, h⟩ := h
            have hxv : VR w (XX E K c.O) K (val x) (a.eval x) := (hval x).vr (by rintro d want u e'; rw [e'] at hsrc; cases hsrc)
            obtain ⟨hml, huni, A, cp, news, e1, hnl, hcell, hone, hvn⟩ := src_sound hs hsrc hxv
            rw [Nat.mul_one] at hnl
            have hfl : rows.flatten = us := by
              rw [hrows]
              clear hrows hu8 h
              induction us with
              | nil => rfl
              | cons u us ih => simp [ih]
            rw [hfl] at hvn
            have hlen : m = us.length := by rw [hml, hrows]; simp
            have hnews := u8s_map (w := w) hu8 (by rw [hnl, hlen]) fun j u v hu hv => ⟨_, _, hvn j u v hu hv⟩
            refine wp_val hs (vv := .string (bytesOf (u8s us))) ?_ (ret_get h) .str
            simp only [execOp, ho, e1, Sem.run_bind]
            rw [run_convert_bytes_string w s t e A m cp hd hd3 hd2]
            rcases Nat.eq_zero_or_pos m with h0 | h0
            · subst h0
              have hus : us = [] := List.eq_nil_of_length_eq_zero hlen.symm
              subst hus
              cases A with
              | none => simp [Conv.bytesToString, Sem.run_pure, bytesOf, u8s]
              | some A =>
                rw [run_bytesToString w A 0 cp [] (by simpa using run_loadCells_list (P := P) w A [] (by simp))]
                simp [Sem.run_pure, bytesOf, u8s]
            · obtain ⟨g, o', rfl, hc⟩ := hcell h0
              have := run_loadCells_list (P := P) w ⟨g, o', none⟩ news (fun j v hv => by
                rw [show (⟨g, o', none⟩ : Addr).add j = ⟨g, o' + j, none⟩ from by unfold Addr.add; split <;> simp_all]; exact hc j v hv)
              rw [hnl] at this
              rw [hnews] at this
              rw [run_bytesToString w ⟨g, o', none⟩ m cp (u8s us) (by rw [this])]
              simp [Sem.run_pure, bytesOf]
          · exact h.elim
        · exact h.elim
      · exact h.elim
    · exact h.elim
  · exact h.elim
end
/-! ### maps: the operations -/
section
variable {P : Program} {T : Tab} {E : Env} {K : KM} {c : Cfg} {a : Act} {w : World} {o : Oper} {r : Res} {val : Operand → AV} {X : Nat → Prop}
theorem eqBB_eq {a b : Bool} (h : eqBB a b = true) : a = b := by cases a <;> cases b <;> first | rfl | cases h
theorem of_map {d : TypeDesc} {k e : Nat} (h : TyK.of d = .map k e) : d = .map k e := by
  cases d <;> simp [TyK.of] at h
  obtain ⟨rfl, rfl⟩ := h; rfl
/-- the element's cells as a value -/
theorem elem_sound {st : Bool} {sz : Nat} {k : AV} {cs : List AV} {e : MapEntry} {ag : Bool} (h : EntR w X st sz (k :: cs) e) (hag : (∃ vs, e.val = .agg vs) ↔ ag = true) {v : AV} (hv : elemOf ag cs = some v) : VR w X K v e.val := by
  obtain ⟨h1, h2, h3, h4, h5⟩ := h
  cases ag with
  | true =>
    injection hv with hv; subst hv
    obtain ⟨vs, hvs⟩ := hag.2 rfl
    rw [hvs]
    have hent : entC e = e.key :: vs.toList := by simp [entC, hvs]
    rw [hent] at h3 h4 h5
    refine .agg (by simp at h1 h3; omega) (fun j c hc => h4 c (by simp only [List.mem_cons]; exact .inr (Array.mem_toList_iff.2 (Array.mem_of_getElem? hc)))) fun j u c hu hc => (h5 (j + 1) u c (by simpa using hu) (by simpa using hc)).any K
  | false =>
    have hent : entC e = [e.key, e.val] := by
      unfold entC
      cases hval : e.val with
      | agg vs => exact absurd (hag.1 ⟨vs, hval⟩) (by simp)
      | _ => rfl
    rw [hent] at h3 h5
    cases cs with
    | nil => cases hv
    | cons u r =>
      cases r with
      | nil => injection hv with hv; subst hv; exact (h5 1 u e.val rfl rfl).any K
      | cons _ _ => cases hv
/-- a map that is seen -/
theorem map_seen (hs : SRK E K c a w) {m : AV} {v : Value} (hm : VR w (XX E K c.O) K m v) {ag st : Bool} {sz : Nat} {rows : List (List AV)}
    (h : seeM (olk c.O) m = some (ag, st, sz, rows)) : ∃ g es, v = .map (some g) ∧ MapR w (XX E K c.O) g ag st sz rows es := by
  unfold seeM at h
  split at h
  · rename_i b
    split at h
    · rename_i blk hb
      split at h
      · rename_i ag' st' hkd
        injection h with h; injection h with e1 h; injection h with e2 h; injection h with e3 e4
        subst e1 e2 e3 e4
        obtain ⟨g, hK, rfl⟩ := VR.omap_inv hm
        rcases hs.own b blk hb with ⟨k1, _⟩ | ⟨g', k1, cur, hc, _⟩
        · rw [show blkOf K b = none from by simp [blkOf, k1]] at hK; cases hK
        · rw [blkOf_of k1] at hK; injection hK with hK; subst hK
          unfold HoldsObj at hc
          rw [hkd] at hc
          obtain ⟨_, _, es, hmr⟩ := hc
          exact ⟨g', es, rfl, hmr⟩
      · cases h
    · cases h
  · injection h with h; injection h with e1 h; injection h with e2 h; injection h with e3 e4
    subst e1 e2 e3 e4
    obtain ⟨g, rfl, h1, h2, h3, cs, h4, h5, h6, h7⟩ := VR.rmap_inv hm
    obtain ⟨es, h8⟩ := MapR.of h4 h3 h5 h6 h7
    exact ⟨g, es, rfl, h8⟩
  · cases h
theorem s_lookup (hT : TabOK P T) (hone : ∀ t i, T.get t = some i → oneCells i.zero = true) (hs : SRK E K c a w) (hval : Vals E K c a w val) {t : TypeId} {m k : Operand} {ok : Bool} (ho : o.op = .lookup t m k ok)
    (h : (lookA T (olk c.O) t (val m) (val k) ok).holds P (· = r)) : o.wp P a w (OpPost E c r a o.dst) NoQ := by
  unfold lookA at h
  split at h
  · rename_i ti hti
    split at h
    · rename_i kt et hk
      obtain ⟨⟨d, hd, hdk⟩, _⟩ := hT.get hti
      rw [hk] at hdk
      have := of_map hdk
      subst this
      split at h
      · rename_i ki ei hki hei
        obtain ⟨⟨dk, hdk', hdkk⟩, _⟩ := hT.get hki
        obtain ⟨_, ⟨je, hje, hjz, _⟩, _⟩ := hT.get hei
        split at h
        · rename_i ag st sz rows hseen
          split at h
          · rename_i hck
            simp only [Bool.and_eq_true] at hck
            obtain ⟨⟨⟨hkf, hkt⟩, hag⟩, hsz⟩ := hck
            have hag := eqBB_eq hag
            have := keyTy_desc hkt hdkk
            subst this
            have hmv : VR w (XX E K c.O) K (val m) (a.eval m) := (hval m).vr (by rintro d want u e'; rw [e'] at hseen; simp [seeM] at hseen)
            have hkv : VR w (XX E K c.O) K (val k) (a.eval k) := (hval k).vr (by rintro d want u e'; rw [e'] at hkf; simp [keyFits] at hkf)
            obtain ⟨g, es, ev, hmr⟩ := map_seen hs hmv hseen
            obtain ⟨hisk, _⟩ := keyFits_val hkf hkv
            have hent : ∀ (i : Nat) row e, rows[i]? = some row → es.toList[i]? = some e → EntR w (XX E K c.O) st sz row e := fun i row e h1 h2 => hmr.ent i row e h1 (by simpa using h2)
            have hfind := find_rows hkf hkv es.toList rows 0 (by simpa using hmr.size) hent
            obtain ⟨p, h⟩ := h
            cases p with
            | true =>
              obtain ⟨row, hget, h⟩ := h
              rcases hfind with ⟨_, h2, _⟩ | ⟨j, e, k', cs, h1, h2, h3, h4, h5, h6, h7, _⟩
              · rw [h2] at hget; cases hget
              · rw [h6] at hget; injection hget with hget; subst hget
                split at h
                · rename_i v hv
                  have hev : VR w (XX E K c.O) K v e.val := elem_sound (hent j _ e h4 h2) (hmr.agg e (List.mem_of_getElem? h2)) hv
                  have hrun : (Instr.lookup t (a.eval m) (a.eval k) ok).run P w = .ok (if ok then .tuple #[e.val, .bool true] else e.val) w := by
                    rw [ev]
                    simp [Instr.lookup, run_underlying hd, Go.MapKept.run_getObj_map hmr.obj, Go.MapKept.run_checkKey hdk' hisk, Go.MapKept.run_findKey hdk' h1, Result.andThen]
                  cases ok with
                  | false => exact wp_val hs (vv := e.val) (by simp only [execOp, ho, Sem.run_bind, hrun, Result.andThen_ok, Sem.run_pure]; rfl) (ret_get h) hev
                  | true =>
                    refine wp_val hs (vv := .tuple #[e.val, .bool true]) (by simp only [execOp, ho, Sem.run_bind, hrun, Result.andThen_ok, Sem.run_pure]; rfl) (ret_get h) (.tup rfl fun j u c hu hc => ?_)
                    match j with
                    | 0 => simp at hu hc; subst hu hc; exact hev
                    | 1 => simp at hu hc; subst hu hc; exact .bool
                    | j + 2 => simp at hu
                · exact h.elim
            | false =>
              obtain ⟨hget, h⟩ := h
              rcases hfind with ⟨h1, h2, _⟩ | ⟨j, e, k', cs, h1, h2, h3, h4, h5, h6, h7, _⟩
              · split at h
                · have hz1 : (zeroValue et).run P w = .ok ei.zero w := by simp [zeroValue, typeInfo, hje, hjz]
                  have hzv := ofVal_sound w (XX E K c.O) K ei.zero (hone et ei hei)
                  have hrun : (Instr.lookup t (a.eval m) (a.eval k) ok).run P w = .ok (if ok then .tuple #[ei.zero, .bool false] else ei.zero) w := by
                    rw [ev]
                    simp [Instr.lookup, run_underlying hd, Go.MapKept.run_getObj_map hmr.obj, Go.MapKept.run_checkKey hdk' hisk, Go.MapKept.run_findKey hdk' h1, Result.andThen, hz1]
                  cases ok with
                  | false => exact wp_val hs (vv := ei.zero) (by simp only [execOp, ho, Sem.run_bind, hrun, Result.andThen_ok, Sem.run_pure]; rfl) (ret_get h) hzv
                  | true =>
                    refine wp_val hs (vv := .tuple #[ei.zero, .bool false]) (by simp only [execOp, ho, Sem.run_bind, hrun, Result.andThen_ok, Sem.run_pure]; rfl) (ret_get h) (.tup rfl fun j u c hu hc => ?_)
                    match j with
                    | 0 => simp at hu hc; subst hu hc; exact hzv
                    | 1 => simp at hu hc; subst hu hc; exact .bool
                    | j + 2 => simp at hu
                · exact h.elim
              · rw [h6] at hget; cases hget
          · exact h.elim
        · exact h.elim
      · exact h.elim
    · exact h.elim
  · exact h.elim
theorem s_nilCheck (hs : SRK E K c a w) (hval : Vals E K c a w val) {x : Operand} (ho : o.op = .nilCheck x)
    (h : Ans.holds P (match val x with
    | .rptr xs off => retV (.rptr xs off)
    | .ovar b off => retV (.ovar b off)
    | .optr b sz i off => retV (.optr b sz i off)
    | _ => .no) (· = r)) : o.wp P a w (OpPost E c r a o.dst) NoQ := by
  have fin : ∀ {p : Addr}, a.eval x = .pointer (some p) → (execOp a.eval o).run P w = .ok (.value (a.eval x)) w := by
    intro p e1
    simp only [execOp, ho, e1, Sem.run_pure]
  split at h
  · rename_i xs off hx
    have hv := hval.at hx
    obtain ⟨g, b, e1, _⟩ := VR.rptr_inv hv
    exact wp_val hs (fin e1) (ret_get h) hv
  · rename_i b off hx
    have hv := hval.at hx
    obtain ⟨g, _, e1⟩ := VR.ovar_inv hv
    exact wp_val hs (fin e1) (ret_get h) hv
  · rename_i b sz i off hx
    have hv := hval.at hx
    obtain ⟨g, _, e1⟩ := VR.optr_inv hv
    exact wp_val hs (fin e1) (ret_get h) hv
  · exact h.elim
theorem s_makeMap (hT : TabOK P T) (hs : SRK E K c a w) {t : TypeId} (ho : o.op = .makeMap t none) (hf : freshD c r.nw r.D = true)
    (h : Ans.holds P (match T.get t with
    | some i => match i.k with
      | .map kt et => match T.get kt, T.get et with
        | some ki, some ei => .ret { v := .omap (idOf o.dst 0), D := [(idOf o.dst 0, { e := t, sz := ei.size + 1, kd := .map ei.k.isAgg (keyTy true ki.k), rows := [] })], nw := true }
        | _, _ => .no
      | _ => .no
    | none => .no) (· = r)) : o.wp P a w (OpPost E c r a o.dst) NoQ := by
  split at h
  · split at h
    · split at h
      · have hr : _ = r := h
        have hf' := hf
        rw [← hr] at hf'
        have hfr := freshD_one hf'
        have hst := Step.alloc (fun _ => False) w (.map #[] 0)
        refine wp_new (vv := .map (some w.heap.size)) (by simp [execOp, ho, Instr.makeMap, Result.andThen]) hr
          (bind_new (cur := #[]) hs hfr hst (Nat.le_refl _) (by simp) ⟨rfl, rfl, #[], heap_new w _, by simp, by simp, by simp, rfl, by simp⟩ (by simp)) ?_
        exact .omap (upd_blk _ _ _ _)
      · exact h.elim
    · exact h.elim
  · exact h.elim
theorem VR.itr_inv {X : Nat → Prop} {v : Value} (h : VR w X K .itr v) : ∃ r g, v = .pointer (some ⟨r, 0, none⟩) ∧ w.heap[r]? = some (.mapIter (some g) 0 #[] 0) ∧ w.heap[g]? = some (.map #[] 0) := by
  cases h with | itr h1 h2 h3 h4 h5 h6 => exact ⟨_, _, rfl, h1, h2⟩
theorem getObj_it {P : Program} {w : World} {r : Nat} {m : Option Nat} {s t : Nat} {l : Array Nat} (hb : w.heap[r]? = some (.mapIter m s l t)) : (getObj r).run P w = .ok (.mapIter m s l t) w := by
  simp [getObj, Sem.run, hb]
theorem map_empty {es : Array MapEntry} {ag st : Bool} {sz : Nat} (h : MapIs es ag st sz []) : es = #[] := by
  have := h.cells
  cases hl : es.toList with
  | nil => exact Array.toList_eq_nil_iff.1 hl
  | cons e r => rw [hl] at this; simp [entC] at this
/-- a range over a map without entries -/
theorem s_range (hT : TabOK P T) (hs : SRK E K c a w) (hval : Vals E K c a w val) {t : TypeId} {x : Operand} (ho : o.op = .range t x)
    (h : Ans.holds P (match T.get t with
    | some i => match i.k with
      | .map _ _ => match val x with | .rmap _ _ _ [] => .ret { v := .itr, D := [], nw := true } | _ => .no
      | _ => .no
    | none => .no) (· = r)) : o.wp P a w (OpPost E c r a o.dst) NoQ := by
  split at h
  · rename_i i hti
    split at h
    · rename_i kt et hk
      split at h
      · rename_i ag st sz hx
        have hv := hval.at hx
        obtain ⟨g, ev, h1, h2, h3, cs, h4, h5, h6, h7⟩ := VR.rmap_inv hv
        have hc0 : cs = [] := by simpa using h5
        subst hc0
        obtain ⟨es, h8, h9⟩ := h4
        have := map_empty h9
        subst this
        obtain ⟨⟨d, hd, hdk⟩, _⟩ := hT.get hti
        rw [hk] at hdk
        have := of_map hdk
        subst this
        have hst := Step.alloc (fun _ => False) w (.mapIter (some g) 0 #[] 0)
        have hg0 : w.heap[g]? = some (.map #[] 0) := h8
        refine wp_new (vv := .pointer (some ⟨w.heap.size, 0, none⟩)) ?_ h (hs.move hst) ?_
        · have hr : (Instr.range t (a.eval x)).run P w = .ok (.pointer (some ⟨w.heap.size, 0, none⟩)) (w.alloc (.mapIter (some g) 0 #[] 0)) := by
            rw [ev]
            simp [Instr.range, run_underlying hd, Go.MapKept.run_getObj_map hg0, Result.andThen]
          simp only [execOp, ho, Sem.run_bind, hr, Result.andThen_ok, Sem.run_pure]
        · refine .itr (heap_new w _) ((Below.heap_alloc w _ g h1).trans hg0) (by simp) (by simp; omega) (fun hx => ?_) h2
          rcases hx with ⟨b', hb', hK'⟩ | ⟨_, hx⟩
          · exact Nat.lt_irrefl _ (hs.live_lt hb' hK')
          · exact Nat.lt_irrefl _ (Nat.lt_of_lt_of_le hx hs.ext.size)
      · exact h.elim
    · exact h.elim
  · exact h.elim
theorem s_next (hs : SRK E K c a w) (hval : Vals E K c a w val) {it : Operand} (ho : o.op = .next it false)
    (h : Ans.holds P (match val it with | .itr => retV (.tup [.bool false]) | _ => .no) (· = r)) : o.wp P a w (OpPost E c r a o.dst) NoQ := by
  split at h
  · rename_i hx
    have hv := hval.at hx
    obtain ⟨rr, g, e1, h1, h2⟩ := VR.itr_inv hv
    refine wp_val (vv := .tuple #[.bool false]) hs ?_ (ret_get h) ?_
    · have hr : (Instr.next (a.eval it) false o.type).run P w = .ok (.tuple #[.bool false]) w := by
        rw [e1]
        simp [Instr.next, getObj_it h1, Go.MapKept.run_getObj_map h2, Result.andThen, Question.forced]
      simp only [execOp, ho, Sem.run_bind, hr, Result.andThen_ok, Sem.run_pure]
    · exact .tup (by simp) fun j u c hu hc => by
        cases j with
        | zero => simp at hu hc; subst hu; subst hc; exact .bool
        | succ j => simp at hu
  · exact h.elim
theorem keyFits_idless {st : Bool} {k : AV} (h : keyFits st k = true) : k.idless = true := by
  cases k <;> simp [keyFits] at h <;> rfl
/-- a map of one's own turns -/
theorem map_write (hs : SRK E K c a w) {b g : Nat} {blk : OBlk} {ag st : Bool} (hb : olk c.O b = some blk) (hkd : blk.kd = .map ag st) (hK : blkOf K b = some g) {es es' : Array MapEntry} {cl : Nat} {ents : List (List AV)}
    (hm : MapR w (XX E K c.O) g ag st blk.sz blk.ents es) (hm' : MapR (setMap w g es' cl) (XX E K c.O) g ag st blk.sz ents es') : SRK E K ⟨c.fr, setO b { blk with ents := ents } c.O⟩ a (setMap w g es' cl) := by
  have hr0 : blk.rows = [] := by
    rcases hs.own b blk hb with ⟨_, k2⟩ | ⟨g', k1, cur, hc, _⟩
    · exact k2
    · unfold HoldsObj at hc
      rw [hkd] at hc
      exact hc.2.1
  refine hs.write (blk := { blk with ents := ents }) hb hK rfl (Step.setMap hm.obj) (hs.rows b blk hb) ⟨#[], ?_, fun j u hj => ?_⟩
  · unfold HoldsObj
    dsimp only
    rw [hkd]
    exact ⟨rfl, hr0, es', hm'⟩
  · dsimp only at hj
    rw [hr0] at hj; simp at hj
/-- an entry out of a value -/
theorem ent_new {X : Nat → Prop} {st : Bool} {sz : Nat} {key v : AV} {kv vv : Value} {cs : List AV} (hkf : keyFits st key = true) (hkv : VR w X K key kv) (hcs : v.cellsOf = some cs) (hv : VR w X K v vv) (hfit : ∀ (j : Nat) u, cs[j]? = some u → u.idless = true) (hsz : cs.length + 1 = sz) (n : Nat) :
    EntR w X st sz (key :: cs) { key := kv, val := vv, born := n } := by
  obtain ⟨h1, h2, h3⟩ := cellsOf_sound hcs hv
  have hent : entC { key := kv, val := vv, born := n } = kv :: vv.cells.toList := by
    unfold entC
    cases vv <;> rfl
  have hk1 := (keyFits_val hkf hkv).2
  refine ⟨by simpa using hsz, hkf, by rw [hent]; simp; omega, fun x hx => ?_, fun j u x hu hx => ?_⟩
  · rw [hent] at hx
    rcases List.mem_cons.1 hx with rfl | hx
    · exact hk1
    · obtain ⟨i, hi⟩ := List.getElem?_of_mem hx
      exact h2 i x (by simpa using hi)
  · rw [hent] at hx
    cases j with
    | zero =>
      simp at hu hx; subst hu hx
      exact idless_sound hkv (keyFits_idless hkf) K0
    | succ j => exact idless_sound (h3 j u x (by simpa using hu) (by simpa using hx)) (hfit j u (by simpa using hu)) K0
theorem isAgg_val {v : AV} {vv : Value} {cs : List AV} (hcs : v.cellsOf = some cs) (hv : VR w X K v vv) : (∃ vs, vv = .agg vs) ↔ isAggV v = true := by
  cases hv
  case lit => obtain ⟨rfl, rfl⟩ := litC_some hcs; simp [isAggV]
  all_goals simp_all [isAggV, AV.cellsOf]
theorem key_of {st : Bool} {v : Value} (h : IsKey (kdesc st) v) : (st = true → ∃ s, v = .string s) ∧ (st = false → ∃ n, v = .int .i64 n) := by
  cases st
  · refine ⟨fun h => (by cases h), fun _ => ?_⟩
    cases v <;> simp [kdesc, IsKey] at h
    subst h; exact ⟨_, rfl⟩
  · refine ⟨fun _ => ?_, fun h => (by cases h)⟩
    cases v <;> simp [kdesc, IsKey] at h
    exact ⟨_, rfl⟩
theorem s_mput (hT : TabOK P T) (hs : SRK E K c a w) (hval : Vals E K c a w val) {t : TypeId} {m k x : Operand} (ho : o.op = .mapUpdate t m k x ∨ o.op = .insert t m k x)
    (h : (mputA T (olk c.O) t (val m) (val k) (val x)).holds P (· = r)) : o.wp P a w (OpPost E c r a o.dst) NoQ := by
  unfold mputA at h
  split at h
  · rename_i ti hti
    split at h
    · rename_i kt et hk
      obtain ⟨⟨d, hd, hdk⟩, _⟩ := hT.get hti
      rw [hk] at hdk
      have := of_map hdk
      subst this
      split at h
      · rename_i ki ei b hki hei hmo
        obtain ⟨⟨dk, hdk', hdkk⟩, _⟩ := hT.get hki
        split at h
        · rename_i blk cs hb hcs
          split at h
          · rename_i ag st hkd
            split at h
            · rename_i hck
              simp only [Bool.and_eq_true] at hck
              obtain ⟨⟨⟨⟨⟨⟨hkf, hkt⟩, hag⟩, hagv⟩, hsz⟩, hcl⟩, hfit⟩ := hck
              have hag := eqBB_eq hag
              have hagv := eqBB_eq hagv
              have hsz := beq_true hsz
              have hcl := beq_true hcl
              have := keyTy_desc hkt hdkk
              subst this
              have hmv : VR w (XX E K c.O) K (val m) (a.eval m) := (hval m).vr (by rintro d want u e'; rw [e'] at hmo; cases hmo)
              have hkv : VR w (XX E K c.O) K (val k) (a.eval k) := (hval k).vr (by rintro d want u e'; rw [e'] at hkf; simp [keyFits] at hkf)
              have hxv : VR w (XX E K c.O) K (val x) (a.eval x) := (hval x).vr (by rintro d want u e'; rw [e'] at hcs; cases hcs)
              obtain ⟨g, es, ev, hmr⟩ := map_seen (ag := ag) (st := st) (sz := blk.sz) (rows := blk.ents) hs hmv (by rw [hmo]; simp [seeM, hb, hkd])
              have hK : blkOf K b = some g := by
                rw [hmo] at hmv
                obtain ⟨g', hK, e⟩ := VR.omap_inv hmv
                rw [ev] at e; injection e with e; injection e with e; rw [e]; exact hK
              obtain ⟨hisk, _⟩ := keyFits_val hkf hkv
              have hent : ∀ (i : Nat) row e, blk.ents[i]? = some row → es.toList[i]? = some e → EntR w (XX E K c.O) st blk.sz row e := fun i row e h1 h2 => hmr.ent i row e h1 (by simpa using h2)
              have hX : XX E K c.O g := .inl ⟨b, by simp [hb], hK⟩
              have hnew := fun n => ent_new (X := XX E K c.O) (K := K) (w := w) (n := n) hkf hkv hcs hxv (fun j u hu => allFit_get hfit hu) (by omega : cs.length + 1 = blk.sz)
              have hav : (∃ vs, a.eval x = .agg vs) ↔ ag = true := by rw [hagv]; exact isAgg_val hcs hxv
              have hr : _ = r := h
              have fin : ∀ w', (Instr.mapUpdate t (a.eval m) (a.eval k) (a.eval x)).run P w = .ok () w' → (execOp a.eval o).run P w = .ok .skip w' := by
                intro w' hw
                rcases ho with ho | ho <;> simp only [execOp, ho, Sem.run_bind, hw, Result.andThen_ok, Sem.run_pure]
              rcases find_rows hkf hkv es.toList blk.ents 0 (by simpa using hmr.size) hent with ⟨h1, h2, _, h8, _⟩ | ⟨j, e, k', cs', h1, h2, h3, h4, h5, h6, h7, h8, _⟩
              · refine wp_skip_ (K := K) (w' := setMap w g (es.push { key := a.eval k, val := a.eval x, born := es.size }) (es.size + 1)) (fin _ ?_) hr ?_
                · rw [ev]
                  simp [Instr.mapUpdate, run_underlying hd, Go.MapKept.run_getObj_map hmr.obj, Go.MapKept.run_checkKey hdk' hisk, Go.MapKept.run_findKey hdk' h1, Go.MapKept.run_setObj_map _ hmr.obj, Result.andThen, setMap]
                · simp only [setD]
                  rw [h8 cs]
                  exact map_write hs hb hkd hK hmr (hmr.push hX rfl hav (key_of hisk) (hnew _))
              · have hje : es[j]? = some e := by simpa using h2
                refine wp_skip_ (K := K) (w' := setMap w g (es.modify j fun e => { e with key := a.eval k, val := a.eval x }) es.size) (fin _ ?_) hr ?_
                · rw [ev]
                  have h1' : Instr.findNow (kdesc st) (a.eval k) es.toList 0 = some (some (j, e.val)) := by rw [h1]; simp
                  simp [Instr.mapUpdate, run_underlying hd, Go.MapKept.run_getObj_map hmr.obj, Go.MapKept.run_checkKey hdk' hisk, Go.MapKept.run_findKey hdk' h1', hje, h3, Go.MapKept.run_keyThatStays hisk, Go.MapKept.run_setObj_map _ hmr.obj, Result.andThen, setMap]
                · simp only [setD]
                  rw [h8 cs]
                  exact map_write hs hb hkd hK hmr (hmr.modify (f := fun e => { e with key := a.eval k, val := a.eval x }) hX hje rfl hav (key_of hisk) (hnew _))
            · exact h.elim
          · exact h.elim
        · exact h.elim
      · exact h.elim
    · exact h.elim
  · exact h.elim
theorem s_ment (hT : TabOK P T) (hone : ∀ t i, T.get t = some i → oneCells i.zero = true) (hs : SRK E K c a w) (hval : Vals E K c a w val) {t : TypeId} {m k : Operand} (ho : o.op = .mapEntry t m k)
    (h : (mentA T (olk c.O) t (val m) (val k)).holds P (· = r)) : o.wp P a w (OpPost E c r a o.dst) NoQ := by
  unfold mentA at h
  split at h
  · rename_i ti hti
    split at h
    · rename_i kt et hk
      obtain ⟨⟨d, hd, hdk⟩, _⟩ := hT.get hti
      rw [hk] at hdk
      have := of_map hdk
      subst this
      split at h
      · rename_i ki ei b hki hei hmo
        obtain ⟨⟨dk, hdk', hdkk⟩, _⟩ := hT.get hki
        obtain ⟨_, ⟨je, hje, hjz, _⟩, _⟩ := hT.get hei
        split at h
        · rename_i blk z hb hz
          split at h
          · rename_i ag st hkd
            split at h
            · rename_i hck
              simp only [Bool.and_eq_true] at hck
              obtain ⟨⟨⟨⟨⟨⟨hkf, hkt⟩, hag⟩, hagv⟩, hsz⟩, hcl⟩, hfit⟩ := hck
              have hag := eqBB_eq hag
              have hagv := eqBB_eq hagv
              have hsz := beq_true hsz
              have hcl := beq_true hcl
              have := keyTy_desc hkt hdkk
              subst this
              have hmv : VR w (XX E K c.O) K (val m) (a.eval m) := (hval m).vr (by rintro d want u e'; rw [e'] at hmo; cases hmo)
              have hkv : VR w (XX E K c.O) K (val k) (a.eval k) := (hval k).vr (by rintro d want u e'; rw [e'] at hkf; simp [keyFits] at hkf)
              have hzv := ofVal_sound w (XX E K c.O) K ei.zero (hone et ei hei)
              have hz1 : (zeroValue et).run P w = .ok ei.zero w := by simp [zeroValue, typeInfo, hje, hjz]
              obtain ⟨g, es, ev, hmr⟩ := map_seen (ag := ag) (st := st) (sz := blk.sz) (rows := blk.ents) hs hmv (by rw [hmo]; simp [seeM, hb, hkd])
              have hK : blkOf K b = some g := by
                rw [hmo] at hmv
                obtain ⟨g', hK, e⟩ := VR.omap_inv hmv
                rw [ev] at e; injection e with e; injection e with e; rw [e]; exact hK
              obtain ⟨hisk, _⟩ := keyFits_val hkf hkv
              have hent : ∀ (i : Nat) row e, blk.ents[i]? = some row → es.toList[i]? = some e → EntR w (XX E K c.O) st blk.sz row e := fun i row e h1 h2 => hmr.ent i row e h1 (by simpa using h2)
              have hX : XX E K c.O g := .inl ⟨b, by simp [hb], hK⟩
              have hr : _ = r := h
              have tup : ∀ {w' : World} {X' : Nat → Prop} {v : Value} {n : Nat}, VR w' X' K (.tup [.top, .int .i64 n]) (.tuple #[v, goInt n]) := by
                intro w' X' v n
                refine .tup rfl fun j u c hu hc => ?_
                match j with
                | 0 => simp at hu; subst hu; exact .top
                | 1 => simp [goInt] at hu hc; subst hu hc; exact .int
                | j + 2 => simp at hu
              rcases find_rows hkf hkv es.toList blk.ents 0 (by simpa using hmr.size) hent with ⟨h1, h2, h7, _, h8⟩ | ⟨j, e, k', cs', h1, h2, h3, h4, h5, h6, h7, _, h8⟩
              · rw [h7, ← hmr.size] at hr
                refine wp_new (K' := K) (w' := setMap w g (es.push { key := a.eval k, val := ei.zero, born := es.size }) (es.size + 1)) (vv := .tuple #[ei.zero, goInt es.size]) ?_ hr ?_ tup
                · simp only [execOp, ho, ev, Sem.run_bind]
                  simp [Instr.mapEntry, run_underlying hd, Go.MapKept.run_getObj_map hmr.obj, Go.MapKept.run_checkKey hdk' hisk, Go.MapKept.run_findKey hdk' h1, Go.MapKept.run_setObj_map _ hmr.obj, hz1, Result.andThen, setMap]
                · simp only [setD]
                  rw [h8 z]
                  exact map_write hs hb hkd hK hmr (hmr.push hX rfl (by rw [hagv]; exact isAgg_val hz hzv) (key_of hisk) (ent_new hkf hkv hz hzv (fun j u hu => scalar_idless (allFit_get hfit hu)) (by omega) _))
              · have hje' : es[j]? = some e := by simpa using h2
                have hborn := hmr.born j e hje'
                rw [h7] at hr
                refine wp_new (K' := K) (w' := setMap w g (es.modify j fun e => { e with key := a.eval k }) es.size) (vv := .tuple #[e.val, goInt j]) ?_ hr ?_ tup
                · have h1' : Instr.findNow (kdesc st) (a.eval k) es.toList 0 = some (some (j, e.val)) := by rw [h1]; simp
                  simp only [execOp, ho, ev, Sem.run_bind]
                  simp [Instr.mapEntry, run_underlying hd, Go.MapKept.run_getObj_map hmr.obj, Go.MapKept.run_checkKey hdk' hisk, Go.MapKept.run_findKey hdk' h1', hje', h3, hborn, Go.MapKept.run_keyThatStays hisk, Go.MapKept.run_setObj_map _ hmr.obj, Result.andThen, setMap]
                · simp only [setD]
                  rw [h8 z]
                  refine map_write hs hb hkd hK hmr (hmr.modify (f := fun e => { e with key := a.eval k }) hX hje' rfl (hmr.agg e (List.mem_of_getElem? h2)) (key_of hisk) ?_)
                  obtain ⟨q1, q2, q3, q4, q5⟩ := hent j _ e h4 h2
                  have hee : ({ e with key := a.eval k } : MapEntry) = e := by rw [← h3]
                  rw [hee]
                  refine ⟨by simpa using q1, hkf, q3, q4, fun i u x hu hx => ?_⟩
                  cases i with
                  | zero =>
                    simp at hu; subst hu
                    have : x = a.eval k := by simp [entC, h3] at hx; exact hx.symm
                    subst this
                    exact idless_sound hkv (keyFits_idless hkf) K0
                  | succ i => exact q5 (i + 1) u x (by simpa using hu) hx
            · exact h.elim
          · exact h.elim
        · exact h.elim
      · exact h.elim
    · exact h.elim
  · exact h.elim
theorem mset_eq {v : List AV} : ∀ {rows : List (List AV)} {n : Nat} {row : List AV}, rows[n]? = some row → mset v n rows = rows.set n (row.take 1 ++ v)
  | [], n, row, h => by simp at h
  | r :: rs, 0, row, h => by simp at h; subst h; rfl
  | r :: rs, n + 1, row, h => by simp only [mset, List.set_cons_succ]; rw [mset_eq (by simpa using h)]
theorem s_msto (hs : SRK E K c a w) (hval : Vals E K c a w val) {t : TypeId} {m j x : Operand} (ho : o.op = .entryStore t m j x)
    (h : (mstoA (olk c.O) (val m) (val j) (val x)).holds P (· = r)) : o.wp P a w (OpPost E c r a o.dst) NoQ := by
  unfold mstoA at h
  split at h
  · rename_i b n cs hmo hjo hcs
    split at h
    · rename_i blk hb
      split at h
      · rename_i ag st hkd
        split at h
        · rename_i hck
          simp only [Bool.and_eq_true] at hck
          obtain ⟨⟨hagv, hsz⟩, hfit⟩ := hck
          have hagv := eqBB_eq hagv
          have hsz := beq_true hsz
          obtain ⟨⟨hn0, hnl⟩, h⟩ := h
          have hmv : VR w (XX E K c.O) K (val m) (a.eval m) := (hval m).vr (by rintro d want u e'; rw [e'] at hmo; cases hmo)
          have hxv : VR w (XX E K c.O) K (val x) (a.eval x) := (hval x).vr (by rintro d want u e'; rw [e'] at hcs; cases hcs)
          have ej := hval.int hjo
          obtain ⟨g, es, ev, hmr⟩ := map_seen (ag := ag) (st := st) (sz := blk.sz) (rows := blk.ents) hs hmv (by rw [hmo]; simp [seeM, hb, hkd])
          have hK : blkOf K b = some g := by
            rw [hmo] at hmv
            obtain ⟨g', hK, e⟩ := VR.omap_inv hmv
            rw [ev] at e; injection e with e; injection e with e; rw [e]; exact hK
          have hX : XX E K c.O g := .inl ⟨b, by simp [hb], hK⟩
          obtain ⟨i, rfl⟩ : ∃ i : Nat, n = i := ⟨n.toNat, by omega⟩
          have hil : i < blk.ents.length := by omega
          have hri : blk.ents[i]? = some blk.ents[i] := List.getElem?_eq_getElem hil
          obtain ⟨e, hei⟩ : ∃ e, es[i]? = some e := ⟨_, Array.getElem?_eq_getElem (by rw [hmr.size]; exact hil)⟩
          have hes : i < es.size := (Array.getElem?_eq_some_iff.1 hei).1
          have hidx : es.findIdx? (fun e => (e.born : Int) == (i : Int)) = some i := by
            rw [Array.findIdx?_eq_some_iff_getElem]
            refine ⟨hes, ?_, fun k hk => ?_⟩
            · have := hmr.born i _ (Array.getElem?_eq_getElem hes)
              rw [this]; simp
            · have := hmr.born k _ (Array.getElem?_eq_getElem (by omega))
              rw [this]
              simp; omega
          have hr : _ = r := h
          obtain ⟨q1, q2, q3, q4, q5⟩ := hmr.ent i _ e hri hei
          refine wp_skip_ (K := K) (w' := setMap w g (es.modify i fun e => { e with val := a.eval x }) es.size) ?_ hr ?_
          · simp only [execOp, ho, ev, ej, Sem.run_bind]
            simp [Instr.entryStore, Go.MapKept.run_getObj_map hmr.obj, asInt, asIntOf, hidx, Go.MapKept.run_setObj_map _ hmr.obj, Result.andThen, setMap]
          · simp only [setD, Int.toNat_natCast]
            rw [mset_eq hri]
            refine map_write hs hb hkd hK hmr (hmr.modify (f := fun e => { e with val := a.eval x }) hX hei rfl (by rw [hagv]; exact isAgg_val hcs hxv) (hmr.key e (Array.mem_toList_iff.2 (Array.mem_of_getElem? hei))) ?_)
            obtain ⟨key, rest, hrow⟩ : ∃ key rest, blk.ents[i] = key :: rest := by
              cases hrow : blk.ents[i] with
              | nil => rw [hrow] at q2; cases q2
              | cons key rest => exact ⟨_, _, rfl⟩
            rw [hrow] at q2 q5 ⊢
            have hkf : keyFits st key = true := q2
            have hkv : VR w (XX E K c.O) K0 key e.key := q5 0 key e.key rfl rfl
            exact ent_new (K := K) hkf (hkv.any K) hcs hxv (fun j u hu => allFit_get hfit hu) (by omega) _
        · exact h.elim
      · exact h.elim
    · exact h.elim
  · exact h.elim
end
end Go.Abs
end
section
namespace Go.Abs
open Go.RowKit
set_option linter.unusedVariables false

def TabOne (T : Tab) : Bool := T.all fun p => oneCells p.2.zero && (p.2.zero.cells.size == p.2.size)
theorem TabOne.get : ∀ {T : Tab} {t : Nat} {i : TyI}, TabOne T = true → T.get t = some i → oneCells i.zero = true ∧ i.zero.cells.size = i.size
  | [], _, _, _, h => by simp [Tab.get] at h
  | (s, x) :: r, t, i, ho, h => by
    simp only [TabOne, List.all_cons, Bool.and_eq_true] at ho
    unfold Tab.get at h
    split at h
    · injection h with h; subst h; exact ⟨ho.1.1, by simpa using ho.1.2⟩
    · exact TabOne.get (T := r) (by simpa [TabOne] using ho.2) h

section
variable {P : Program} {T : Tab} {E : Env} {K : KM} {c : Cfg} {a : Act} {w : World} {o : Oper} {r : Res} {val : Operand → AV} {X : Nat → Prop}

theorem evOp_sound {dr : Bool} (hT : TabOK P T) (h1 : TabOne T = true) (hs : SRK E K c a w) (hval : Vals E K c a w val) (hhas : ∀ x b, fresh b c = true → (val x).has b = false) (hf : freshD c r.nw r.D = true)
    (h : (evOp dr T val (olk c.O) o).holds P (· = r)) : o.wp P a w (OpPost E c r a o.dst) NoQ := by
  unfold evOp at h
  split at h
  · exact s_move hs hval (.inl ‹_›) h
  · exact s_move hs hval (.inr ‹_›) h
  · rename_i x y z ho
    unfold pickA at h
    split at h
    · exact s_and hs hval ho h
    · exact s_or hs hval ho h
    · exact h.elim
  · exact s_alloc hT hs ‹_› (fun i hi => (TabOne.get h1 hi).1) hf h
  · exact s_box hT hs hval hhas ‹_› hf h
  · exact s_load hT hs hval ‹_› h
  · exact s_store hT hs hval ‹_› h
  · exact s_bin hT hs hval ‹_› h
  · exact s_not hs hval ‹_› h
  · exact s_neg hs hval ‹_› h
  · split at h
    · exact s_bytes hT hs hval ‹_› h
    · exact s_convert hT hs hval ‹_› h
  · rename_i f first caps ho
    split at h
    · rename_i hl
      have : first = #[] := by cases first; simp at hl; subst hl; rfl
      subst this
      exact s_makeFunc hs hval ho h
    · exact h.elim
  · exact s_fieldAddr hT hs hval ‹_› h
  · exact s_field hT hs hval ‹_› h
  · exact s_indexAddr hT hs hval ‹_› h
  · exact s_extract hs hval ‹_› h
  · exact s_build hT (fun t i hi => (TabOne.get h1 hi).1) hs hval ‹_› h
  · exact s_buildSlice hT (fun t i hi => (TabOne.get h1 hi).1) hs hval hhas ‹_› hf h
  · exact s_makeSlice hT (fun t i hi => (TabOne.get h1 hi).1) hs hval ‹_› hf h
  · exact s_index hT hs hval ‹_› h
  · split at h
    · exact s_sliceS hT hs hval ‹_› ‹_› h
    · split at h
      · exact s_cut hT hs hval ‹_› h
      · exact s_slice hT hs hval ‹_› h
  · exact s_cut3 hT hs hval ‹_› h
  · rename_i cl ho
    obtain ⟨callee, args, ts⟩ := cl
    unfold callA at h
    split at h
    · rename_i hc
      split at h
      · rename_i vx t hx ht
        simp only at hc hx ht
        subst hc
        obtain ⟨x, hx1, hx2⟩ : ∃ x, args.toList = [x] ∧ val x = vx := by
          cases hl : args.toList with
          | nil => rw [hl] at hx; cases hx
          | cons x xs =>
            rw [hl] at hx
            cases xs with
            | nil => injection hx with hx _; exact ⟨x, rfl, hx⟩
            | cons y ys => injection hx with _ hx; cases hx
        subst hx2
        have hx := hx1
        have e1 : args = #[x] := by cases args; simp at hx; subst hx; rfl
        have e2 : ts = #[t] := by cases ts; simp at ht; subst ht; rfl
        subst e1 e2
        exact s_len hT hs hval ho h
      · exact h.elim
    · rename_i hc
      split at h
      · rename_i vs vx t t' hx ht
        simp only at hc hx ht
        subst hc
        obtain ⟨s, x, hx1, hs2, hx2⟩ : ∃ s x, args.toList = [s, x] ∧ val s = vs ∧ val x = vx := by
          cases hl : args.toList with
          | nil => rw [hl] at hx; cases hx
          | cons s xs =>
            rw [hl] at hx
            cases xs with
            | nil => injection hx with _ hx; cases hx
            | cons x ys =>
              injection hx with h1 hx
              injection hx with h2 hx
              cases ys with
              | nil => exact ⟨s, x, rfl, h1, h2⟩
              | cons z zs => cases hx
        subst hs2 hx2
        have hx := hx1
        have e1 : args = #[s, x] := by cases args; simp at hx; subst hx; rfl
        have e2 : ts = #[t, t'] := by cases ts; simp at ht; subst ht; rfl
        subst e1 e2
        split at h
        · rename_i ht
          have := beq_true ht
          subst this
          split at h
          · exact s_appSelf hT hs hval ho h
          · exact s_append hT (fun t i hi => TabOne.get h1 hi) hs hval ho hf h
        · exact h.elim
      · exact h.elim
    · rename_i hc
      split at h
      · rename_i vx t hx ht
        simp only at hc hx ht
        subst hc
        obtain ⟨x, hx1, hx2⟩ : ∃ x, args.toList = [x] ∧ val x = vx := by
          cases hl : args.toList with
          | nil => rw [hl] at hx; cases hx
          | cons x xs =>
            rw [hl] at hx
            cases xs with
            | nil => injection hx with hx _; exact ⟨x, rfl, hx⟩
            | cons y ys => injection hx with _ hx; cases hx
        subst hx2
        have hx := hx1
        have e1 : args = #[x] := by cases args; simp at hx; subst hx; rfl
        have e2 : ts = #[t] := by cases ts; simp at ht; subst ht; rfl
        subst e1 e2
        exact s_clear hT (fun t i hi => TabOne.get h1 hi) hs hval ho h
      · exact h.elim
    · rename_i hc
      split at h
      · rename_i vs vx t t' hx ht
        simp only at hc hx ht
        subst hc
        obtain ⟨s, x, hx1, hs2, hx2⟩ : ∃ s x, args.toList = [s, x] ∧ val s = vs ∧ val x = vx := by
          cases hl : args.toList with
          | nil => rw [hl] at hx; cases hx
          | cons s xs =>
            rw [hl] at hx
            cases xs with
            | nil => injection hx with _ hx; cases hx
            | cons x ys =>
              injection hx with h1 hx
              injection hx with h2 hx
              cases ys with
              | nil => exact ⟨s, x, rfl, h1, h2⟩
              | cons z zs => cases hx
        subst hs2 hx2
        have hx := hx1
        have e1 : args = #[s, x] := by cases args; simp at hx; subst hx; rfl
        have e2 : ts = #[t, t'] := by cases ts; simp at ht; subst ht; rfl
        subst e1 e2
        split at h
        · rename_i ht
          have := beq_true ht
          subst this
          exact s_copy hT hs hval ho h
        · exact h.elim
      · exact h.elim
    · rename_i hc; simp only at hc; subst hc; exact s_min hs hval ho h
    · rename_i hc; simp only at hc; subst hc; exact s_max hs hval ho h
    · rename_i hc; simp only at hc; subst hc
      split at h
      · exact s_callS hs hval ho h
      · split at h
        · exact s_callM hs hval ho hf h
        · exact s_call hs hval ho hf h
    · exact h.elim
  · exact s_makeMap hT hs ‹_› hf h
  · exact s_lookup hT (fun t i hi => (TabOne.get h1 hi).1) hs hval ‹_› h
  · exact s_mput hT hs hval (.inl ‹_›) h
  · exact s_mput hT hs hval (.inr ‹_›) h
  · exact s_ment hT (fun t i hi => (TabOne.get h1 hi).1) hs hval ‹_› h
  · exact s_msto hs hval ‹_› h
  · exact s_range hT hs hval ‹_› h
  · exact s_next hs hval ‹_› h
  · exact s_nilCheck hs hval ‹_› h
  · exact h.elim
end
end Go.Abs
end
section
namespace Go.Abs
open Go.RowKit
set_option linter.unusedVariables false

section
variable {P : Program} {T : Tab} {E : Env} {K : KM} {c : Cfg} {a : Act} {w : World} {o : Oper} {r : Res} {X : Nat → Prop} {ops : Array Oper} {dm : List (Nat × Bool)} {N : Nat} {dr : Bool}

theorem opv_vals (hs : SRK E K c a w) : Vals E K c a w (opv c) := by
  intro x
  cases x with
  | tmp t => exact hs.fr t
  | const v =>
    simp only [opv]
    cases h : oneCells v
    · exact FV.top
    · exact FV.of (ofVal_sound _ _ _ v h)
  | global g => exact FV.top
  | func f => exact FV.of (.func (by simp) (by simp))
theorem opv_has {b : Nat} (hf : fresh b c = true) (x : Operand) : (opv c x).has b = false := by
  cases x with
  | tmp t => exact (fresh_of hf).2.1 t
  | const v =>
    simp only [opv]
    cases h : oneCells v
    · rfl
    · exact has_idless b _ (ofVal_idless v)
  | global g => rfl
  | func f => rfl
theorem strip_fv {u : AV} {v : Value} {d : Nat} {want : Bool} {tm : Array Value} (h : FV w X K tm u v) (hd : tm.getD d undef = .bool want) : FV w X K tm (u.strip d want) v := by
  cases u with
  | opt d' w' u' =>
    unfold AV.strip
    simp only
    split
    · rename_i h1
      have := beq_true h1; subst this
      rcases h with ⟨_, h⟩ | ⟨h, _⟩
      · exact FV.of h
      · exact absurd hd h
    · rename_i h1
      have := beq_true h1; subst this
      rcases h with ⟨_, h⟩ | ⟨h, _⟩
      · exact FV.of h
      · exact absurd hd h
    · exact h
  | _ => exact h
theorem strip_has {b d : Nat} {want : Bool} {u : AV} (h : u.has b = false) : (u.strip d want).has b = false := by
  cases u with
  | opt d' w' u' =>
    unfold AV.strip
    simp only
    split
    · simpa [AV.has] using h
    · simpa [AV.has] using h
    · exact h
  | _ => exact h
theorem opg_has {b d : Nat} {want : Bool} (hf : fresh b c = true) (x : Operand) : (opg c d want x).has b = false := by
  unfold opg
  split
  · exact strip_has (strip_has (opv_has hf x))
  · exact strip_has (opv_has hf x)
theorem opg_vals (hs : SRK E K c a w) {d : Nat} {want : Bool} (hd : a.tmps.getD d undef = .bool want) : Vals E K c a w (opg c d want) := by
  intro x
  have h0 := strip_fv (opv_vals hs x) hd
  unfold opg
  split
  · rename_i d1 w1 u1 hl
    have hf := hs.fr d
    rw [hl] at hf
    rcases hf with ⟨h1, _⟩ | ⟨_, h2⟩
    · exact strip_fv h0 h1
    · rw [hd] at h2; simp [undef] at h2
  · exact h0

theorem wp_weaken {K1 K2 : Act → World → Prop} {Q : Exit → Act → World → Prop} (h : o.wp P a w K1 NoQ) (hk : ∀ a w, K1 a w → K2 a w) : o.wp P a w K2 Q := by
  unfold Oper.wp at *
  generalize (execOp a.eval o).run P w = res at *
  cases res with
  | ok n w' =>
    cases n <;> simp only [Oper.upon] at h ⊢ <;>
      first
        | exact hk _ _ h
        | exact Calls.mono h (fun e w'' he => by
            cases e with
            | returned v => exact hk _ _ he
            | panicked ch => exact he.elim
            | outgrown => obtain ⟨_, _, he⟩ := he; exact he.elim)
        | exact Rows.mono h (fun _ _ he => hk _ _ he)
  | halt x w' => cases x <;> simp only [Oper.upon] at h ⊢ <;> exact h.elim

/-- ONE OPERATION's evaluation, and what it comes to. -/
inductive StepOK (dr : Bool) (P : Program) (T : Tab) (N : Nat) (ops : Array Oper) (o : Oper) (c : Cfg) : Res → Prop
  | run {r : Res} : o.guard = none → dstOK N c o.dst = true → (evOp dr T (opv c) (olk c.O) o).holds P (· = r) → freshD c r.nw r.D = true → notOpt r.v = true → StepOK dr P T N ops o c r
  | yes {j d : Nat} {want : Bool} {r : Res} : o.guard = some (j, want) → gslot ops j = some d → lk c.fr d = .bool want → dstOK N c o.dst = true → (evOp dr T (opv c) (olk c.O) o).holds P (· = r) → freshD c r.nw r.D = true → notOpt r.v = true → StepOK dr P T N ops o c r
  | skip {j d : Nat} {want b : Bool} : o.guard = some (j, want) → gslot ops j = some d → lk c.fr d = .bool b → b ≠ want → dstOK N c o.dst = true → StepOK dr P T N ops o c { v := .und }
  | dead {j d : Nat} {want : Bool} : o.guard = some (j, want) → gslot ops j = some d → lk c.fr d = .und → dstOK N c o.dst = true → StepOK dr P T N ops o c { v := .und }
  | spec {j d : Nat} {want : Bool} {r : Res} : o.guard = some (j, want) → gslot ops j = some d → isB (lk c.fr d) = true → neD d o.dst = true → dstOK N c o.dst = true → (evOp dr T (opg c d want) (olk c.O) o).holds P (· = r) → r.D = [] → r.pg = none →
      StepOK dr P T N ops o c { v := wrapOpt d want r.v }

theorem eqB_true {a b : Bool} (h : eqB a b = true) : a = b := by cases a <;> cases b <;> first | rfl | cases h
theorem eqB_false {a b : Bool} (h : eqB a b = false) : a ≠ b := by cases a <;> cases b <;> first | (intro e; cases e; done) | cases h
theorem isLit_of {u : AV} {b : Bool} (h : isLit u b = true) : u = .bool b := by
  cases u <;> simp only [isLit] at h <;> first | (cases h; done) | skip
  rw [eqB_true h]

theorem evOps_cons {A : Acc} {i : Nat} {rest : List Oper} {Kk : Cfg → Prop} (h : evOps dr P T N dm ops A i (o :: rest) c Kk) : ∃ r, StepOK dr P T N ops o c r ∧ drOK dr ops A r.nw i (mkRec o c r.D r.pg r.v) = true ∧ evOps dr P T N dm ops (A.push i (mkRec o c r.D r.pg r.v)) (i + 1) rest (c.app o.dst r) Kk := by
  unfold evOps at h
  split at h
  · exact h.elim
  · rename_i hd
    split at h
    · rename_i hg
      obtain ⟨r, h1, h2⟩ := holds_get h
      rw [Res.withK_iff] at h2
      split at h2
      · rename_i hf
        rw [Bool.and_eq_true, Bool.and_eq_true] at hf
        have h3 := told_of h2
        rw [Cfg.appK_iff] at h3
        exact ⟨r, .run hg hd h1 hf.1.1 hf.2, hf.1.2, h3⟩
      · exact h2.elim
    · rename_i j want hg
      split at h
      · exact h.elim
      · rename_i d hgs
        split at h
        · rename_i b hb
          split at h
          · rename_i he
            have he := eqB_true he
            split at h
            · rename_i hl
              obtain ⟨r, h1, h2⟩ := holds_get h
              rw [Res.withK_iff] at h2
              split at h2
              · rename_i hf
                rw [Bool.and_eq_true, Bool.and_eq_true] at hf
                have h3 := told_of h2
                rw [Cfg.appK_iff] at h3
                refine ⟨r, .yes hg hgs ?_ hd h1 hf.1.1 hf.2, hf.1.2, h3⟩
                rw [isLit_of hl, he]
              · exact h2.elim
            · exact h.elim
          · rename_i he
            have he := eqB_false he
            split at h
            · rename_i hl
              split at h
              · rename_i hdr
                rw [Cfg.appK_iff] at h
                exact ⟨_, .skip hg hgs (isLit_of hl) he hd, hdr, h⟩
              · exact h.elim
            · exact h.elim
        · split at h
          · rename_i hu
            have hu : lk c.fr d = .und := by
              revert hu
              cases lk c.fr d <;> intro hu <;> first | rfl | (cases hu; done)
            split at h
            · rename_i hdr
              rw [Cfg.appK_iff] at h
              exact ⟨_, .dead hg hgs hu hd, hdr, h⟩
            · exact h.elim
          · split at h
            · rename_i hb
              rw [Bool.and_eq_true] at hb
              obtain ⟨r, h1, h2⟩ := holds_get h
              rw [Res.withK_iff] at h2
              split at h2
              · rename_i hD hpg
                rw [AV.force_iff] at h2
                split at h2
                · rename_i hdr
                  rw [Cfg.appK_iff] at h2
                  exact ⟨_, .spec hg hgs hb.1 hb.2 hd h1 hD hpg, hdr, h2⟩
                · exact h2.elim
              · exact h2.elim
            · exact h.elim

theorem noOpt_purge {d b : Nat} : ∀ {fr : List (Nat × AV)}, noOpt d fr = true → noOpt d (purgeF b fr) = true
  | [], _ => rfl
  | (t, v) :: r, h => by
    have hr : noOpt d r = true := by
      unfold noOpt at h
      cases v <;> simp only at h <;> first | exact h | skip
      split at h
      · cases h
      · exact h
    have ih := noOpt_purge (b := b) hr
    unfold purgeF
    cases hv : v.has b
    · simp only
      unfold noOpt at h ⊢
      cases v <;> simp only at h ⊢ <;> first | exact ih | skip
      split at h
      · cases h
      · exact ih
    · simp only; unfold noOpt; exact ih
theorem dstOK_eff {dst : Option Nat} (r : Res) (h : dstOK N c dst = true) : dstOK N (c.eff r) dst = true := by
  cases dst with
  | none => rfl
  | some d =>
    simp only [dstOK, Bool.and_eq_true] at h ⊢
    refine ⟨h.1, ?_⟩
    unfold Cfg.eff
    split
    · exact h.2
    · exact noOpt_purge h.2
    · exact h.2

theorem yielded_iff {j d : Nat} {want : Bool} (hg : gslot ops j = some d) (tm : Array Value) : (yielded ops tm j == some want) = true ↔ tm.getD d undef = .bool want := by
  unfold gslot at hg
  unfold yielded
  rw [hg]
  simp only [Option.bind_some, Array.getD_eq_getD_getElem?]
  cases h : tm[d]? with
  | none => simp [undef]
  | some v => cases v <;> simp

theorem post_sr (hN : E.N = N) (hd : dstOK N c o.dst = true) {a' : Act} {w' : World} (h : OpPost E c r a o.dst a' w') : SR E (c.app o.dst r) a' w' := by
  obtain ⟨K', vv, rfl, hs', hv⟩ := h
  rw [Cfg.app_eq]
  refine ⟨K', hs'.put (by rw [hN]; exact dstOK_eff r hd) fun d _ => FV.of hv⟩

theorem step_sound (hT : TabOK P T) (h1 : TabOne T = true) (hN : E.N = N) {i : Nat} {Q : Exit → Act → World → Prop} (ho : ops[i]? = some o) (h : StepOK dr P T N ops o c r) (hs : SR E c a w) :
    wpOp P ops Q i (fun a' w' => SR E (c.app o.dst r) a' w') a w := by
  obtain ⟨K, hs⟩ := hs
  unfold wpOp
  rw [ho]
  simp only
  cases h with
  | run hg hd hh hf hno =>
    have hw : Region.wanted o (yielded ops a.tmps) = true := by simp [Region.wanted, hg]
    rw [if_pos hw]
    exact .inl (wp_weaken (evOp_sound hT h1 hs (opv_vals hs) (fun x b hb => opv_has hb x) hf hh) fun a' w' => post_sr hN hd)
  | yes hg hgs hl hd hh hf hno =>
    rename_i j d want
    have htm : a.tmps.getD d undef = .bool want := VR.bool_inv (by have := hs.fr d; rw [hl] at this; exact this)
    have hw : Region.wanted o (yielded ops a.tmps) = true := by
      simp only [Region.wanted, hg]
      exact (yielded_iff hgs _).2 htm
    rw [if_pos hw]
    exact .inl (wp_weaken (evOp_sound hT h1 hs (opv_vals hs) (fun x b hb => opv_has hb x) hf hh) fun a' w' => post_sr hN hd)
  | skip hg hgs hl hne hd =>
    rename_i j d want b
    have htm : a.tmps.getD d undef = .bool b := VR.bool_inv (by have := hs.fr d; rw [hl] at this; exact this)
    have hw : ¬ Region.wanted o (yielded ops a.tmps) = true := by
      simp only [Region.wanted, hg]
      rw [yielded_iff hgs, htm]
      intro e; injection e with e; exact hne e
    rw [if_neg hw]
    refine ⟨K, ?_⟩
    have := hs.put (dst := o.dst) (u := .und) (v := undef) (by rw [hN]; exact hd) fun d _ => FV.of .und
    exact this
  | dead hg hgs hl hd =>
    rename_i j d want
    have htm : a.tmps.getD d undef = undef := VR.und_inv (by have := hs.fr d; rw [hl] at this; exact this)
    have hw : ¬ Region.wanted o (yielded ops a.tmps) = true := by
      simp only [Region.wanted, hg]
      rw [yielded_iff hgs, htm]
      simp [undef]
    rw [if_neg hw]
    refine ⟨K, ?_⟩
    have := hs.put (dst := o.dst) (u := .und) (v := undef) (by rw [hN]; exact hd) fun d _ => FV.of .und
    exact this
  | spec hg hgs hb hne hd hh hD hpg =>
    rename_i j d want r
    have hne' : ∀ e, o.dst = some e → d ≠ e := by
      intro e he
      rw [he] at hne
      simp only [neD] at hne
      split at hne
      · cases hne
      · rename_i hb'; exact beq_false hb'
    have hkeep : ∀ (vv : Value), (a.put o.dst vv).tmps.getD d undef = a.tmps.getD d undef := by
      intro vv
      cases hdst : o.dst with
      | none => rfl
      | some e =>
        have := hne' e hdst
        simp [Act.put, Array.getD_eq_getD_getElem?, Ne.symm this]
    by_cases htm : a.tmps.getD d undef = .bool want
    · have hw : Region.wanted o (yielded ops a.tmps) = true := by
        simp only [Region.wanted, hg]
        exact (yielded_iff hgs _).2 htm
      rw [if_pos hw]
      refine .inl (wp_weaken (evOp_sound hT h1 hs (opg_vals hs htm) (fun x b hb => opg_has hb x) (by rw [hD]; rfl) hh) fun a' w' hp => ?_)
      obtain ⟨K', vv, rfl, hs', hv⟩ := hp
      have he : c.eff r = c := by simp [Cfg.eff, hD, hpg, setD]
      rw [he] at hs' hv
      refine ⟨K', hs'.put (dst := o.dst) (u := wrapOpt d want r.v) (v := vv) (by rw [hN]; exact hd) fun e hde => ?_⟩
      unfold wrapOpt
      split
      · exact FV.top
      · exact .inl ⟨by rw [hkeep]; exact htm, hv⟩
    · have hw : ¬ Region.wanted o (yielded ops a.tmps) = true := by
        simp only [Region.wanted, hg]
        rw [yielded_iff hgs]
        exact htm
      rw [if_neg hw]
      refine ⟨K, hs.put (dst := o.dst) (u := wrapOpt d want r.v) (v := undef) (by rw [hN]; exact hd) fun e hde => ?_⟩
      unfold wrapOpt
      split
      · exact FV.top
      · exact .inr ⟨by rw [hkeep]; exact htm, rfl⟩

/-- THE OPERATIONS IN THE TEXT's ORDER. -/
theorem evOps_sound (hT : TabOK P T) (h1 : TabOne T = true) (hN : E.N = N) {Kk : Cfg → Prop} {Q : Exit → Act → World → Prop} (hQ : ∀ c a w, Kk c → SR E c a w → Q .normal a w) :
    ∀ (l : List Oper) (A : Acc) (i : Nat) (c : Cfg) (a : Act) (w : World), (∀ j, l[j]? = ops[i + j]?) → evOps dr P T N dm ops A i l c Kk → SR E c a w → wpOps P ops Q (List.range' i l.length) a w
  | [], A, i, c, a, w, _, h, hs => hQ c a w h hs
  | o :: rest, A, i, c, a, w, hl, h, hs => by
    obtain ⟨r, hst, _, hrest⟩ := evOps_cons h
    have ho : ops[i]? = some o := by have := hl 0; simpa using this.symm
    rw [List.length_cons, List.range'_succ, wpOps_cons]
    refine wpOp_mono (fun a' w' hs' => ?_) (step_sound hT h1 hN ho hst hs)
    exact evOps_sound hT h1 hN hQ rest _ (i + 1) _ a' w' (fun j => by have := hl (j + 1); rw [List.getElem?_cons_succ] at this; rw [this]; congr 1; omega) hrest hs'
end
end Go.Abs
end
