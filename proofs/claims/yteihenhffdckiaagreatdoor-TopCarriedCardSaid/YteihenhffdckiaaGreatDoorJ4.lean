import Derived.Maps.AppendAt
import Derived.Laws.Concat
import Derived.Laws.Strings
import Derived.Laws.Slices
import Derived.Test.YteihenhffdckiaaGreatDoorJ3
section
namespace Go.Abs
open Go.RowKit
set_option linter.unusedVariables false

section
variable {P : Program} {T : Tab} {E : Env} {K : KM} {c : Cfg} {a : Act} {w : World} {o : Oper} {r : Res} {val : Operand → AV}

theorem run_binOp {op : BinOp} {t t' : TypeId} {x y : Operand} (ho : o.op = .binOp op t x y t') {u v : Value} (h1 : a.eval x = u) (h2 : a.eval y = v)
    (hg : (eqGuard op t x y u v).run P w = .ok () w) {vv : Value} (hb : (binOp op t u v).run P w = .ok vv w) : (execOp a.eval o).run P w = .ok (.value vv) w := by
  simp only [execOp, ho, h1, h2, Sem.run_bind, hg, hb, Result.andThen_ok, Sem.run_pure]

theorem kindEq_iff {k k' : IntKind} (h : kindEq k k' = true) : k = k' := of_decide_eq_true h

theorem of_slice {d : TypeDesc} {e : Nat} (h : TyK.of d = .slice e) : d = .slice e := by
  cases d <;> simp [TyK.of] at h
  rw [h]
theorem of_struct {d : TypeDesc} {fs : List (Nat × Nat)} (h : TyK.of d = .struct fs) : ∃ ff : Array Field, d = .struct ff ∧ fs = ff.toList.map fun f => (f.offset, f.type) := by
  cases d <;> simp [TyK.of] at h
  exact ⟨_, rfl, h.symm⟩
theorem of_array {d : TypeDesc} {n e : Nat} (h : TyK.of d = .array n e) : d = .array n e := by
  cases d <;> simp [TyK.of] at h
  rw [h.1, h.2]
theorem of_int {d : TypeDesc} {k : IntKind} (h : TyK.of d = .int k) : d = .int k := by
  cases d <;> simp [TyK.of] at h
  rw [h]
theorem of_bool {d : TypeDesc} (h : TyK.of d = .bool) : d = .bool := by
  cases d <;> simp [TyK.of] at h
  rfl
theorem isAgg_run {t : Nat} {d : TypeDesc} (hd : P.underlying t = some d) (w : World) : (isAgg t).run P w = .ok (TyK.of d).isAgg w := by
  cases d <;> simp [isAgg, run_underlying hd, TyK.of, TyK.isAgg]
theorem sizeOf_run {t : Nat} {j : TypeInfo} (hj : P.info? t = some j) (w : World) : (sizeOf t).run P w = .ok j.size w := by
  simp [sizeOf, typeInfo, hj, run_program]

theorem equalIn_sl {t e : Nat} (ht : P.underlying t = some (.slice e)) (d : Nat) (A : Option Addr) (n cap : Nat) : (Op.equalIn (d + 1) t (.slice A n cap) (.slice none 0 0)).run P w = .ok A.isNone w := by
  cases A <;> simp [Op.equalIn, run_underlying ht]
theorem run_eql_sl {t e : Nat} (ht : P.underlying t = some (.slice e)) (A : Option Addr) (n cap : Nat) : (binOp .eql t (.slice A n cap) (.slice none 0 0)).run P w = .ok (.bool A.isNone) w := by
  simp only [binOp]
  simp only [Op.equal, Op.maxDepth, Sem.run_bind, equalIn_sl ht 9999, Result.andThen_ok, Sem.run_pure]
theorem run_neq_sl {t e : Nat} (ht : P.underlying t = some (.slice e)) (A : Option Addr) (n cap : Nat) : (binOp .neq t (.slice A n cap) (.slice none 0 0)).run P w = .ok (.bool (!A.isNone)) w := by
  simp only [binOp]
  simp only [Op.equal, Op.maxDepth, Sem.run_bind, equalIn_sl ht 9999, Result.andThen_ok, Sem.run_pure]
theorem guard_sl (op : BinOp) (t : Nat) (x y : Operand) (A B : Option Addr) (n cap m cap' : Nat) : (eqGuard op t x y (.slice A n cap) (.slice B m cap')).run P w = .ok () w := by
  unfold eqGuard; split <;> rfl

theorem s_bin (hT : TabOK P T) (hs : SRK E K c a w) (hval : Vals E K c a w val) {op : BinOp} {t t' : TypeId} {x y : Operand} (ho : o.op = .binOp op t x y t')
    (h : (binAV T op t (val x) (val y)).holds P (· = r)) : o.wp P a w (OpPost E c r a o.dst) NoQ := by
  unfold binAV at h
  split at h
  · rename_i k m k' n h1 h2
    split at h
    · rename_i hk
      have := kindEq_iff hk
      subst this
      exact binInt_sound hs ho (hval.int h1) (hval.int h2) h
    · exact shiftI_sound hs ho (hval.int h1) (hval.int h2) h
  · rename_i p q h1 h2
    have e1 := hval.bool h1
    have e2 := hval.bool h2
    split at h
    · rename_i i hi
      obtain ⟨⟨d, hd, hdk⟩, _⟩ := hT.get hi
      have hg : ∀ op, (eqGuard op t x y (.bool p) (.bool q)).run P w = .ok () w := by intro op; unfold eqGuard; split <;> rfl
      split at h
      · rename_i hk
        rw [hk] at hdk; have := of_bool hdk; subst this
        exact wp_val hs (vv := .bool (p == q)) (run_binOp ho e1 e2 (hg _) (run_eql_bool w t p q hd)) (ret_get h) .bool
      · rename_i hk
        rw [hk] at hdk; have := of_bool hdk; subst this
        exact wp_val hs (vv := .bool (p != q)) (run_binOp ho e1 e2 (hg _) (run_neq_bool w t p q hd)) (ret_get h) .bool
      · exact h.elim
    · exact h.elim
  · rename_i xs ys h1 h2
    split at h
    · rename_i i hi
      obtain ⟨_, _, heq⟩ := hT.get hi
      obtain ⟨vs, e1, l1, _, v1⟩ := VR.agg_inv (hval.at h1)
      obtain ⟨us, e2, l2, _, v2⟩ := VR.agg_inv (hval.at h2)
      have key : eqOK i.eq xs ys = true → P.eqGuardType P.depth t = false ∧ (Op.equalIn 10000 t (.agg vs) (.agg us)).run P w = .ok (eqL xs ys) w := by
        intro hk
        unfold eqOK at hk
        split at hk
        · cases hk
        · rename_i hne
          simp only [Bool.and_eq_true] at hk
          obtain ⟨g1, g2⟩ := heq (by intro e; exact hne e)
          have f1 := fits_toV (K := K) (c := c) (E := E) (w := w) (vs := vs.toList) hk.1 (by simpa using l1) (fun j u v a b => v1 j u v a (by simpa using b))
          have f2 := fits_toV (K := K) (c := c) (E := E) (w := w) (vs := us.toList) hk.2 (by simpa using l2) (fun j u v a b => v2 j u v a (by simpa using b))
          have := g2 w _ _ hk.1 hk.2
          rw [← f1, ← f2] at this
          exact ⟨g1, by simpa using this⟩
      cases hk : eqOK i.eq xs ys with
      | false => rw [hk] at h; exact h.elim
      | true =>
      rw [hk] at h
      obtain ⟨g1, g2⟩ := key hk
      cases op
      case eql =>
        exact wp_val hs (vv := .bool (eqL xs ys)) (run_binOp ho e1 e2 (run_eqGuard_agg w _ t x y vs us g1) (by rw [run_eql_struct, g2]; rfl)) (ret_get h) .bool
      case neq =>
        exact wp_val hs (vv := .bool (!eqL xs ys)) (run_binOp ho e1 e2 (run_eqGuard_agg w _ t x y vs us g1) (by rw [run_neq_struct, g2]; rfl)) (ret_get h) .bool
      all_goals exact h.elim
    · exact h.elim
  · rename_i p q h1 h2
    have e1 := VR.str_inv (hval.at h1)
    have e2 := VR.str_inv (hval.at h2)
    have hg : ∀ op, (eqGuard op t x y (.string p) (.string q)).run P w = .ok () w := by intro op; unfold eqGuard; split <;> rfl
    split at h
    · obtain ⟨hl, h⟩ := h
      exact wp_val hs (vv := .string (p ++ q)) (run_binOp ho e1 e2 (hg _) (by rw [binOp_string_add]; exact run_string_add_sum w p q hl)) (ret_get h) .str
    · exact wp_val hs (vv := .bool (p.toList == q.toList)) (run_binOp ho e1 e2 (hg _) (by rw [binOp_string_eql]; exact Sem.run_pure ..)) (ret_get h) .bool
    · exact wp_val hs (vv := .bool !(p.toList == q.toList)) (run_binOp ho e1 e2 (hg _) (by rw [binOp_string_neq]; exact Sem.run_pure ..)) (ret_get h) .bool
    · exact h.elim
  · rename_i h1 h2
    have e1 := VR.nilsl_inv (hval.at h1)
    have e2 := VR.nilsl_inv (hval.at h2)
    split at h
    · rename_i i hi
      obtain ⟨⟨d, hd, hdk⟩, _⟩ := hT.get hi
      split at h
      · rename_i hk
        rw [hk] at hdk; have := of_slice hdk; subst this
        exact wp_val hs (vv := .bool true) (run_binOp ho e1 e2 (guard_sl _ _ _ _ _ _ _ _ _ _) (run_eql_sl hd _ _ _)) (ret_get h) .bool
      · rename_i hk
        rw [hk] at hdk; have := of_slice hdk; subst this
        exact wp_val hs (vv := .bool false) (run_binOp ho e1 e2 (guard_sl _ _ _ _ _ _ _ _ _ _) (run_neq_sl hd _ _ _)) (ret_get h) .bool
      · exact h.elim
    · exact h.elim
  · rename_i h1 h2
    obtain ⟨A, cap, e1⟩ := VR.esl_inv (hval.at h1)
    have e2 := VR.nilsl_inv (hval.at h2)
    split at h
    · rename_i i hi
      obtain ⟨⟨d, hd, hdk⟩, _⟩ := hT.get hi
      split at h
      · rename_i hk
        rw [hk] at hdk; have := of_slice hdk; subst this
        exact wp_val hs (vv := .bool false) (run_binOp ho e1 e2 (guard_sl _ _ _ _ _ _ _ _ _ _) (run_eql_sl hd _ _ _)) (ret_get h) .bool
      · rename_i hk
        rw [hk] at hdk; have := of_slice hdk; subst this
        exact wp_val hs (vv := .bool true) (run_binOp ho e1 e2 (guard_sl _ _ _ _ _ _ _ _ _ _) (run_neq_sl hd _ _ _)) (ret_get h) .bool
      · exact h.elim
    · exact h.elim
  · rename_i sz n rows h1 h2
    obtain ⟨A, cap, e1, hn, _, _, _, cs, _, _, hA, _⟩ := VR.rsl_inv (hval.at h1)
    have e2 := VR.nilsl_inv (hval.at h2)
    have hAs : 0 < n → A.isNone = false := by
      intro hpos
      obtain ⟨g, o, rfl, _⟩ := hA (by rintro rfl; simp at hn; omega)
      rfl
    split at h
    · rename_i i hi
      obtain ⟨⟨d, hd, hdk⟩, _⟩ := hT.get hi
      split at h
      · rename_i hk
        rw [hk] at hdk; have := of_slice hdk; subst this
        obtain ⟨hp, h⟩ := h
        exact wp_val hs (vv := .bool false) (run_binOp ho e1 e2 (guard_sl _ _ _ _ _ _ _ _ _ _) (by rw [run_eql_sl hd, hAs hp])) (ret_get h) .bool
      · rename_i hk
        rw [hk] at hdk; have := of_slice hdk; subst this
        obtain ⟨hp, h⟩ := h
        exact wp_val hs (vv := .bool true) (run_binOp ho e1 e2 (guard_sl _ _ _ _ _ _ _ _ _ _) (by rw [run_neq_sl hd, hAs hp]; rfl)) (ret_get h) .bool
      · exact h.elim
    · exact h.elim
  · rename_i b sz n h1 h2
    have e2 := VR.nilsl_inv (hval.at h2)
    have hex : 0 < n → ∃ A cap, a.eval x = .slice A n cap ∧ A.isNone = false := by
      intro hpos
      rcases VR.osl_inv (hval.at h1) with ⟨_, hz, _⟩ | ⟨g, cap, cur, e, _, _, _, e1, _⟩
      · omega
      · exact ⟨_, _, e1, rfl⟩
    split at h
    · rename_i i hi
      obtain ⟨⟨d, hd, hdk⟩, _⟩ := hT.get hi
      split at h
      · rename_i hk
        rw [hk] at hdk; have := of_slice hdk; subst this
        obtain ⟨hp, h⟩ := h
        obtain ⟨A, cap, e1, hA⟩ := hex hp
        exact wp_val hs (vv := .bool false) (run_binOp ho e1 e2 (guard_sl _ _ _ _ _ _ _ _ _ _) (by rw [run_eql_sl hd, hA])) (ret_get h) .bool
      · rename_i hk
        rw [hk] at hdk; have := of_slice hdk; subst this
        obtain ⟨hp, h⟩ := h
        obtain ⟨A, cap, e1, hA⟩ := hex hp
        exact wp_val hs (vv := .bool true) (run_binOp ho e1 e2 (guard_sl _ _ _ _ _ _ _ _ _ _) (by rw [run_neq_sl hd, hA]; rfl)) (ret_get h) .bool
      · exact h.elim
    · exact h.elim
  · exact h.elim

theorem s_convert (hT : TabOK P T) (hs : SRK E K c a w) (hval : Vals E K c a w val) {s t : TypeId} {x : Operand} (ho : o.op = .convert s t x)
    (h : Ans.holds P (match T.get s, T.get t, val x with
      | some si, some i, .int _ n => match si.k, i.k with | .int _, .int k' => wrapI k' n fun m => retV (.int k' m) | _, _ => .no
      | _, _, _ => .no) (· = r)) : o.wp P a w (OpPost E c r a o.dst) NoQ := by
  split at h
  · rename_i si i k n hsi hi hx
    split at h
    · rename_i k0 k' hk0 hk
      obtain ⟨⟨d, hd, hdk⟩, _⟩ := hT.get hi
      obtain ⟨⟨d0, hd0, hdk0⟩, _⟩ := hT.get hsi
      rw [hk] at hdk; have := of_int hdk; subst this
      rw [hk0] at hdk0; have := of_int hdk0; subst this
      have e1 := hval.int hx
      exact wp_val hs (vv := .int k' (k'.wrap n)) (by simp only [execOp, ho, e1]; simp [convert, run_underlying hd, run_underlying hd0, Conv.intToInt]) (wrap_get (f := fun m => .int k' m) h) .int
    · exact h.elim
  · exact h.elim


theorem noopts_vals (hval : Vals E K c a w val) (xs : Array Operand) : (xs.toList.map fun x => (val x).noopt).length = (xs.map a.eval).size ∧
    ∀ (j : Nat) u v, (xs.toList.map fun x => (val x).noopt)[j]? = some u → (xs.map a.eval)[j]? = some v → VR w (XX E K c.O) K u v := by
  refine ⟨by simp, fun j u v hu hv => ?_⟩
  simp only [List.getElem?_map, Array.getElem?_toList] at hu
  simp only [Array.getElem?_map] at hv
  cases hx : xs[j]? with
  | none => rw [hx] at hu; cases hu
  | some x =>
    rw [hx] at hu hv
    injection hu with hu; injection hv with hv
    subst hu hv
    exact (hval x).noopt

theorem s_makeFunc (hs : SRK E K c a w) (hval : Vals E K c a w val) {f : FuncId} {caps : Array Operand} (ho : o.op = .makeFunc (.func f) #[] caps)
    (h : (retV (.func f (caps.toList.map fun x => (val x).noopt))).holds P (· = r)) : o.wp P a w (OpPost E c r a o.dst) NoQ :=
  wp_val hs (vv := .func (.func f) #[] (caps.map a.eval)) (by simp [execOp, ho, Instr.makeFunc]) (ret_get h) (.func (noopts_vals hval caps).1 (noopts_vals hval caps).2)

theorem s_extract (hs : SRK E K c a w) (hval : Vals E K c a w val) {x : Operand} {k : Nat} (ho : o.op = .extract x k)
    (h : Ans.holds P (match val x with
      | .tup xs => match xs[k]? with | some v => retV v | none => .no
      | _ => .no) (· = r)) : o.wp P a w (OpPost E c r a o.dst) NoQ := by
  split at h
  · rename_i xs hx
    split at h
    · rename_i v hk
      obtain ⟨vs, e1, l1, v1⟩ := VR.tup_inv (hval.at hx)
      have hlt : k < vs.size := by have := (List.getElem?_eq_some_iff.1 hk).1; omega
      exact wp_val hs (vv := vs[k]) (by simp only [execOp, ho, e1]; simp [Instr.extract, hlt]) (ret_get h) (v1 k v _ hk (by simp [hlt]))
    · exact h.elim
  · exact h.elim

theorem ptrAdd_sound {X : Nat → Prop} {x : AV} {k : Nat} {p : AV} (hp : ptrAdd x k = some p) {v : Value} (hv : VR w X K x v) : ∃ g o, v = .pointer (some ⟨g, o, none⟩) ∧ VR w X K p (.pointer (some ⟨g, o + k, none⟩)) := by
  unfold ptrAdd at hp
  split at hp
  · injection hp with hp; subst hp
    obtain ⟨g, o, rfl, h1, h2, cs, h3, h4, h5, h6⟩ := VR.rptr_inv hv
    exact ⟨g, _, rfl, by rw [Nat.add_assoc]; exact .rptr h3 h4 h1 h2 h5 h6⟩
  · injection hp with hp; subst hp
    obtain ⟨g, h1, rfl⟩ := VR.ovar_inv hv
    exact ⟨g, _, rfl, .ovar h1⟩
  · injection hp with hp; subst hp
    obtain ⟨g, h1, rfl⟩ := VR.optr_inv hv
    exact ⟨g, _, rfl, by rw [Nat.add_assoc]; exact .optr h1⟩
  · cases hp
theorem ptrAdd_noopt {x : AV} {k : Nat} {p : AV} (hp : ptrAdd x k = some p) : ∀ d want u, x ≠ .opt d want u := by
  rintro d want u rfl
  simp [ptrAdd] at hp
theorem addr_add (g o k : Nat) : (⟨g, o, none⟩ : Addr).add k = ⟨g, o + k, none⟩ := by
  unfold Addr.add
  split
  · rename_i h; subst h; rfl
  · rfl

theorem s_fieldAddr (hT : TabOK P T) (hs : SRK E K c a w) (hval : Vals E K c a w val) {s : TypeId} {x : Operand} {f : Nat} (ho : o.op = .fieldAddr s x f)
    (h : Ans.holds P (match T.get s with
    | some i => match i.k with
      | .struct fs => match fieldPlaceE T fs f with
        | some (off, sz) => match Nat.beq sz 0 with
          | true => .no
          | false => match ptrAdd (val x) off with | some p => retV p | none => .no
        | none => .no
      | _ => .no
    | none => .no) (· = r)) : o.wp P a w (OpPost E c r a o.dst) NoQ := by
  split at h
  · rename_i i hi
    split at h
    · rename_i fs hk
      split at h
      · rename_i off sz hp
        split at h
        · exact h.elim
        · rename_i hz
          split at h
          · rename_i p hpt
            obtain ⟨⟨d, hd, hdk⟩, _⟩ := hT.get hi
            rw [hk] at hdk
            obtain ⟨ff, rfl, hff⟩ := of_struct hdk
            unfold fieldPlaceE at hp
            split at hp
            · rename_i off' t' hf
              split at hp
              · rename_i ti hti
                injection hp with hp; injection hp with e1 e2; subst e1 e2
                obtain ⟨_, ⟨j, hj, _, hjs, _⟩, _⟩ := hT.get hti
                rw [hff, List.getElem?_map] at hf
                cases hfx : ff.toList[f]? with
                | none => rw [hfx] at hf; cases hf
                | some fld =>
                  rw [hfx] at hf; injection hf with hf; injection hf with e1 e2; subst e1 e2
                  have hvx := (hval x).vr (ptrAdd_noopt hpt)
                  obtain ⟨g, oo, ev, hv'⟩ := ptrAdd_sound hpt hvx
                  have hfa : ff[f]? = some fld := by simpa using hfx
                  have hsz : j.size ≠ 0 := by rw [hjs]; exact beq_false hz
                  refine wp_val hs (vv := .pointer (some ⟨g, oo + fld.offset, none⟩)) ?_ (ret_get h) hv'
                  simp only [execOp, ho, ev]
                  simp [Instr.fieldAt, run_underlying hd, hfa, Instr.sureAddr, fieldPlace, sizeOf_run hj, hsz, addr_add]
              · cases hp
            · cases hp
          · exact h.elim
      · exact h.elim
    · exact h.elim
  · exact h.elim
end
end Go.Abs
end
section
namespace Go.Abs
open Go.RowKit
set_option linter.unusedVariables false

theorem dropE_spec : ∀ {n : Nat} {xs ys : List AV}, dropE n xs = some ys → n ≤ xs.length ∧ ys = xs.drop n
  | 0, xs, ys, h => by simp [dropE] at h; simp [h]
  | n + 1, [], ys, h => by simp [dropE] at h
  | n + 1, x :: xs, ys, h => by
    have := dropE_spec (n := n) (xs := xs) (ys := ys) h
    simp [this]
theorem takeE_spec : ∀ {n : Nat} {xs ys : List AV}, takeE n xs = some ys → n ≤ xs.length ∧ ys = xs.take n
  | 0, xs, ys, h => by simp [takeE] at h; simp [h]
  | n + 1, [], ys, h => by simp [takeE] at h
  | n + 1, x :: xs, ys, h => by
    simp only [takeE] at h
    split at h
    · rename_i zs hz
      have := takeE_spec hz
      injection h with h
      subst h
      simp [this]
    · cases h
theorem spliceE_spec : ∀ {off : Nat} {cs row r : List AV}, spliceE off cs row = some r → off + cs.length ≤ row.length ∨ cs = [] ∧ r = row
  | _, [], row, r, h => by simp [spliceE] at h; exact .inr ⟨rfl, h.symm⟩
  | 0, x :: xs, [], r, h => by simp [spliceE] at h
  | 0, x :: xs, y :: ys, r, h => by
    simp only [spliceE] at h
    split at h
    · rename_i z hz
      rcases spliceE_spec hz with h1 | ⟨rfl, _⟩
      · left; simp at h1 ⊢; omega
      · left; simp
    · cases h
  | n + 1, x :: xs, [], r, h => by simp [spliceE] at h
  | n + 1, x :: xs, y :: ys, r, h => by
    simp only [spliceE] at h
    split at h
    · rename_i z hz
      rcases spliceE_spec hz with h1 | ⟨h1, _⟩
      · left; simp at h1 ⊢; omega
      · cases h1
    · cases h
theorem spliceE_get : ∀ {off : Nat} {cs row r : List AV}, spliceE off cs row = some r → r.length = row.length ∧ ∀ j, r[j]? = if off ≤ j ∧ j < off + cs.length then cs[j - off]? else row[j]?
  | off, [], row, r, h => by
    simp [spliceE] at h
    subst h
    refine ⟨rfl, fun j => ?_⟩
    rw [if_neg]
    simp
  | 0, x :: xs, [], r, h => by simp [spliceE] at h
  | 0, x :: xs, y :: ys, r, h => by
    simp only [spliceE] at h
    split at h
    · rename_i z hz
      injection h with h
      subst h
      obtain ⟨h1, h2⟩ := spliceE_get hz
      refine ⟨by simp [h1], fun j => ?_⟩
      cases j with
      | zero => simp
      | succ j =>
        have := h2 j
        simp only [List.getElem?_cons_succ, Nat.zero_le, true_and, Nat.sub_zero, Nat.zero_add, List.length_cons] at this ⊢
        rw [this]
        by_cases e : j < xs.length
        · rw [if_pos e, if_pos (by omega)]
        · rw [if_neg e, if_neg (by omega)]
    · cases h
  | n + 1, x :: xs, [], r, h => by simp [spliceE] at h
  | n + 1, x :: xs, y :: ys, r, h => by
    simp only [spliceE] at h
    split at h
    · rename_i z hz
      injection h with h
      subst h
      obtain ⟨h1, h2⟩ := spliceE_get hz
      refine ⟨by simp [h1], fun j => ?_⟩
      cases j with
      | zero => simp
      | succ j =>
        have := h2 j
        simp only [List.getElem?_cons_succ] at this ⊢
        rw [this]
        by_cases e : n ≤ j ∧ j < n + (x :: xs).length
        · rw [if_pos e, if_pos (by omega)]; congr 1; omega
        · rw [if_neg e, if_neg (by omega)]
    · cases h

theorem flat_get {sz : Nat} : ∀ {rows : List (List AV)} {i : Nat} {row : List AV}, (∀ r ∈ rows, r.length = sz) → rows[i]? = some row → ∀ j, j < sz → rows.flatten[i * sz + j]? = row[j]?
  | [], _, _, _, h => by simp at h
  | r :: rs, 0, row, hr, h => by
    intro j hj
    simp at h; subst h
    have := hr r (by simp)
    simp only [List.flatten_cons]
    rw [List.getElem?_append_left (by omega)]
    simp
  | r :: rs, i + 1, row, hr, h => by
    intro j hj
    have h1 := hr r (by simp)
    have ih := flat_get (sz := sz) (rows := rs) (i := i) (row := row) (fun x hx => hr x (by simp [hx])) (by simpa using h) j hj
    simp only [List.flatten_cons]
    rw [List.getElem?_append_right (by rw [h1, Nat.add_mul]; omega), ← ih]
    congr 1
    rw [h1, Nat.add_mul]; omega
theorem flat_len {sz : Nat} : ∀ {rows : List (List AV)}, (∀ r ∈ rows, r.length = sz) → rows.flatten.length = rows.length * sz
  | [], _ => by simp
  | r :: rs, h => by
    simp only [List.flatten_cons, List.length_append, List.length_cons]
    rw [flat_len (sz := sz) fun x hx => h x (by simp [hx]), h r (by simp), Nat.add_mul]; omega
/-- Row i is replaced. -/
theorem flat_set {sz : Nat} : ∀ {rows : List (List AV)} {i : Nat} {row : List AV}, (∀ r ∈ rows, r.length = sz) → row.length = sz → i < rows.length →
    ∀ j, (rows.set i row).flatten[j]? = if i * sz ≤ j ∧ j < i * sz + sz then row[j - i * sz]? else rows.flatten[j]?
  | [], _, _, _, _, h => by simp at h
  | r :: rs, 0, row, hr, hl, h => by
    intro j
    have h1 := hr r (by simp)
    simp only [List.set_cons_zero, List.flatten_cons, Nat.zero_mul, Nat.zero_le, true_and, Nat.zero_add, Nat.sub_zero]
    by_cases e : j < sz
    · rw [if_pos e, List.getElem?_append_left (by omega)]
    · rw [if_neg e, List.getElem?_append_right (by omega), List.getElem?_append_right (by omega), hl, h1]
  | r :: rs, i + 1, row, hr, hl, h => by
    intro j
    have h1 := hr r (by simp)
    have ih := flat_set (sz := sz) (rows := rs) (i := i) (row := row) (fun x hx => hr x (by simp [hx])) hl (by simpa using h)
    simp only [List.set_cons_succ, List.flatten_cons]
    rcases Nat.lt_or_ge j sz with hlt | hge
    · rw [List.getElem?_append_left (by omega), List.getElem?_append_left (by omega), if_neg (by rw [Nat.add_mul]; omega)]
    · rw [List.getElem?_append_right (by omega), List.getElem?_append_right (by omega), h1, ih]
      have : (i + 1) * sz = i * sz + sz := by rw [Nat.add_mul]; omega
      rw [this]
      by_cases e : i * sz ≤ j - sz ∧ j - sz < i * sz + sz
      · rw [if_pos e, if_pos (by omega)]; congr 1; omega
      · rw [if_neg e, if_neg (by omega)]
theorem set_mem {sz : Nat} {rows : List (List AV)} {i : Nat} {row : List AV} (hr : ∀ r ∈ rows, r.length = sz) (hl : row.length = sz) : ∀ r ∈ rows.set i row, r.length = sz := by
  intro r h
  rcases List.mem_or_eq_of_mem_set h with h | rfl
  · exact hr r h
  · exact hl

/-- A row of memory says what a list says. -/
def RowR (w : World) (X : Nat → Prop) (K : KM) (g o : Nat) (us : List AV) : Prop :=
  ∀ (j : Nat) u, us[j]? = some u → ∃ c, w.cell? ⟨g, o + j, none⟩ = some c ∧ c.oneCell' = true ∧ VR w X K u c

section
variable {P : Program} {T : Tab} {E : Env} {K : KM} {c : Cfg} {a : Act} {w : World} {o : Oper} {r : Res} {val : Operand → AV} {X : Nat → Prop}

theorem RowR.list {g b : Nat} {us : List AV} (h : RowR w X K g b us) : ∃ cs : List Value, cs.length = us.length ∧ (∀ (j : Nat) c, cs[j]? = some c → w.cell? ⟨g, b + j, none⟩ = some c) ∧ (∀ c ∈ cs, c.oneCell' = true) ∧
    ∀ (j : Nat) u c, us[j]? = some u → cs[j]? = some c → VR w X K u c := by
  induction us generalizing b with
  | nil => exact ⟨[], rfl, by simp, by simp, by simp⟩
  | cons u us ih =>
    obtain ⟨c0, h0, h1, h2⟩ := h 0 u (by simp)
    obtain ⟨cs, e1, e2, e3, e4⟩ := ih (b := b + 1) (fun j u' hu => by
      obtain ⟨c', k⟩ := h (j + 1) u' (by simpa using hu)
      exact ⟨c', by rw [show b + 1 + j = b + (j + 1) by omega]; exact k⟩)
    refine ⟨c0 :: cs, by simp [e1], fun j c' hc => ?_, by simpa using ⟨h1, e3⟩, fun j u' c' hu hc => ?_⟩
    · cases j with
      | zero => simp at hc; subst hc; exact h0
      | succ j => simp at hc; rw [show b + (j + 1) = b + 1 + j by omega]; exact e2 j c' hc
    · cases j with
      | zero => simp at hu hc; subst hu hc; exact h2
      | succ j => simp at hu hc; exact e4 j u' c' hu hc

theorem RowR.drop {g b : Nat} {us : List AV} (h : RowR w X K g b us) (n : Nat) : RowR w X K g (b + n) (us.drop n) := by
  intro j u hu
  rw [List.getElem?_drop] at hu
  rw [Nat.add_assoc]
  exact h _ u hu
theorem RowR.take {g b : Nat} {us : List AV} (h : RowR w X K g b us) (n : Nat) : RowR w X K g b (us.take n) := by
  intro j u hu
  rw [List.getElem?_take] at hu
  split at hu
  · exact h j u hu
  · cases hu

theorem load_sound (hT : TabOK P T) {t : Nat} {ti : TyI} (ht : T.get t = some ti) {g b off : Nat} {us : List AV} {v : AV} (hrow : RowR w X K g b us) (hr : readAt ti us off = some v) :
    ∃ vv, (Instr.loadAt t (.pointer (some ⟨g, b + off, none⟩))).run P w = .ok vv w ∧ VR w X K v vv ∧ (ti.k.isAgg = false → vv.oneCell' = true) := by
  obtain ⟨⟨d, hd, hdk⟩, ⟨j, hj, _, hjs, _⟩, _⟩ := hT.get ht
  unfold readAt at hr
  split at hr
  · cases hr
  · rename_i ys hys
    obtain ⟨hle, rfl⟩ := dropE_spec hys
    have hrow := hrow.drop off
    split at hr
    · rename_i hagg
      split at hr
      · rename_i zs hzs
        obtain ⟨hle2, rfl⟩ := takeE_spec hzs
        injection hr with hr
        subst hr
        obtain ⟨cs, e1, e2, e3, e4⟩ := (hrow.take ti.size).list
        have hl : cs.length = ti.size := by rw [e1, List.length_take]; omega
        have hrun := run_loadCells_list (P := P) w ⟨g, b + off, none⟩ cs (fun j v hv => by rw [addr_add]; exact e2 j v hv)
        rw [hl] at hrun
        refine ⟨.agg cs.toArray, ?_, .agg (by simp [e1]) (fun j c' hc => e3 c' ?_) (fun j u c' hu hc => e4 j u c' hu (by simpa using hc)), fun h => by rw [hagg] at h; cases h⟩
        · rw [← hdk] at hagg
          simp [Instr.loadAt, Instr.sureAddr, loadVar, isAgg_run hd, hagg, sizeOf_run hj, hjs, hrun]
        · exact List.mem_of_getElem? (by simpa using hc)
      · cases hr
    · rename_i hagg
      split at hr
      · rename_i y ys hy
        injection hr with hr
        subst hr
        obtain ⟨c', h0, h1, h2⟩ := hrow 0 y (by rw [hy]; rfl)
        rw [← hdk] at hagg
        refine ⟨c', ?_, h2, fun _ => h1⟩
        simp only [Instr.loadAt, Instr.sureAddr, loadVar, Sem.run_bind, Sem.run_pure, Result.andThen_ok, isAgg_run hd, hagg]
        simp only [Nat.add_zero] at h0
        simp [h0, load, Sem.run]
      · cases hr

theorem RowR.any {g b : Nat} {us : List AV} (h : RowR w X K0 g b us) : RowR w X K g b us := fun j u hu =>
  let ⟨c, h1, h2, h3⟩ := h j u hu
  ⟨c, h1, h2, h3.any K⟩
theorem RowR.of_rptr {xs : List AV} {g b : Nat} {cs : List Value} (h1 : cs.length = xs.length) (h2 : ∀ c ∈ cs, c.oneCell' = true) (h3 : ∀ (j : Nat) c, cs[j]? = some c → w.cell? ⟨g, b + j, none⟩ = some c)
    (h4 : ∀ (j : Nat) u c, xs[j]? = some u → cs[j]? = some c → VR w X K u c) : RowR w X K g b xs := by
  intro j u hu
  have hlt : j < cs.length := by have := (List.getElem?_eq_some_iff.1 hu).1; omega
  have hc : cs[j]? = some cs[j] := List.getElem?_eq_getElem hlt
  exact ⟨cs[j], h3 j _ hc, h2 _ (List.getElem_mem hlt), h4 j u _ hu hc⟩

theorem KdX_of {kd : Kd} {u : AV} {v : Value} (h : VR w (KdX kd X) (KdK kd K) u v) : VR w X K u v := by
  cases kd
  · exact (VR.sub (X' := X) h (fun _ _ _ => trivial)).any K
  · exact VR.any h K
  · exact h
  · exact VR.any h K
/-- a row of a block of one's own -/
theorem BlkR.row {g : Nat} {blk : OBlk} (hkm : ∀ ag st, blk.kd ≠ .map ag st) (h : BlkR w X K g blk) (hr : ∀ row ∈ blk.rows, row.length = blk.sz) {i : Nat} {row : List AV} (hi : blk.rows[i]? = some row) : RowR w X K g (i * blk.sz) row := by
  obtain ⟨cur, hc, hu⟩ := h
  intro j u hj
  have hlt : j < blk.sz := by
    have := (List.getElem?_eq_some_iff.1 hj).1
    rw [hr row (List.mem_of_getElem? hi)] at this
    exact this
  rw [← flat_get hr hi j hlt] at hj
  obtain ⟨x, hx, h1, hv⟩ := hu _ u hj
  refine ⟨x, ?_, h1, KdX_of hv⟩
  simp [World.cell?, hc.cells hkm, hx]

theorem BlkR.ne_map {g : Nat} {blk : OBlk} (h : BlkR w X K g blk) (hr : blk.rows ≠ []) : ∀ ag st, blk.kd ≠ .map ag st := by
  intro ag st hk
  obtain ⟨cur, hc, _⟩ := h
  unfold HoldsObj at hc
  rw [hk] at hc
  exact hr hc.2.1
theorem s_load (hT : TabOK P T) (hs : SRK E K c a w) (hval : Vals E K c a w val) {t : TypeId} {x : Operand} (ho : o.op = .load t x)
    (h : Ans.holds P (match T.get t with
    | some i => loadA i (cellsOnly (olk c.O)) (val x)
    | none => .no) (· = r)) : o.wp P a w (OpPost E c r a o.dst) NoQ := by
  split at h
  · rename_i ti hti
    have fin : ∀ {g b off : Nat} {us : List AV} {v : AV}, a.eval x = .pointer (some ⟨g, b + off, none⟩) → RowR w (XX E K c.O) K g b us → readAt ti us off = some v → (retV v).holds P (· = r) → o.wp P a w (OpPost E c r a o.dst) NoQ := by
      intro g b off us v e1 hrow hr h
      obtain ⟨vv, hrun, hv, _⟩ := load_sound (P := P) hT hti hrow hr
      exact wp_val hs (vv := vv) (by simp only [execOp, ho, e1, Sem.run_bind, hrun, Result.andThen_ok, Sem.run_pure]) (ret_get h) hv
    unfold loadA at h
    split at h
    · rename_i xs off hx
      split at h
      · rename_i v hr
        obtain ⟨g, b, e1, h1, h2, cs, h3, h4, h5, h6⟩ := VR.rptr_inv (hval.at hx)
        exact fin e1 (RowR.of_rptr h3 h4 h5 h6).any hr h
      · exact h.elim
    · rename_i b off hx
      split at h
      · rename_i blk hb
        obtain ⟨hb, hkm⟩ := cellsOnly_some hb
        split at h
        · rename_i row hrow
          split at h
          · rename_i v hr
            obtain ⟨g, hK, e1⟩ := VR.ovar_inv (hval.at hx)
            rcases hs.own b blk hb with ⟨h1, _⟩ | ⟨g', h1, h2⟩
            · rw [show blkOf K b = none from by simp [blkOf, h1]] at hK; cases hK
            · rw [blkOf_of h1] at hK; injection hK with hK; subst hK
              have := h2.row hkm (hs.rows b blk hb) (i := 0) (row := row) (by rw [hrow]; rfl)
              simp only [Nat.zero_mul] at this
              exact fin (b := 0) (off := off) (by simpa using e1) this hr h
          · exact h.elim
        · exact h.elim
      · exact h.elim
    · rename_i b sz k off hx
      split at h
      · rename_i blk hb
        obtain ⟨hb, hkm⟩ := cellsOnly_some hb
        split at h
        · rename_i hsz
          have := beq_true hsz
          subst this
          obtain ⟨row, hrow, h⟩ := h
          split at h
          · rename_i v hr
            obtain ⟨g, hK, e1⟩ := VR.optr_inv (hval.at hx)
            rcases hs.own b blk hb with ⟨h1, _⟩ | ⟨g', h1, h2⟩
            · rw [show blkOf K b = none from by simp [blkOf, h1]] at hK; cases hK
            · rw [blkOf_of h1] at hK; injection hK with hK; subst hK
              exact fin e1 (h2.row hkm (hs.rows b blk hb) hrow) hr h
          · exact h.elim
        · exact h.elim
      · exact h.elim
    · exact h.elim
  · exact h.elim
end
end Go.Abs
end
section
namespace Go.Abs
open Go.RowKit
set_option linter.unusedVariables false

section
variable {P : Program} {T : Tab} {E : Env} {K : KM} {c : Cfg} {a : Act} {w : World} {o : Oper} {r : Res} {val : Operand → AV} {X : Nat → Prop}

theorem scalar_sound {u : AV} {v : Value} (hu : u.scalar = true) (h : VR w X K u v) : ∀ X' K', VR w X' K' u v := by
  intro X' K'
  cases u <;> simp [AV.scalar] at hu
  · rw [VR.bool_inv h]; exact .bool
  · rw [VR.int_inv h]; exact .int
  · rw [VR.str_inv h]; exact .str
  · rw [VR.nilsl_inv h]; exact .nilsl
  · cases h; exact .nilfn
theorem idlessL_get : ∀ {xs : List AV} {j : Nat} {u : AV}, AV.idlessL xs = true → xs[j]? = some u → u.idless = true
  | [], _, _, _, h => by simp at h
  | x :: xs, 0, u, h, hj => by simp at hj; subst hj; simp [AV.idlessL] at h; exact h.1
  | x :: xs, j + 1, u, h, hj => by simp at hj; simp [AV.idlessL] at h; exact idlessL_get h.2 hj
theorem idless_sound {u : AV} {v : Value} (h : VR w X K u v) : u.idless = true → ∀ K', VR w X K' u v := by
  induction h with
  | top => intros; exact .top
  | bool => intros; exact .bool
  | int => intros; exact .int
  | str => intros; exact .str
  | nilsl => intros; exact .nilsl
  | nilfn => intros; exact .nilfn
  | esl => intros; exact .esl
  | und => intros; exact .und
  | lit => intros; exact .lit
  | agg hl h1 hv ih => intro e K; exact .agg hl h1 fun j u c hu hc => ih j u c hu hc (idlessL_get (by simpa [AV.idless] using e) hu) K
  | tup hl hv ih => intro e K; exact .tup hl fun j u c hu hc => ih j u c hu hc (idlessL_get (by simpa [AV.idless] using e) hu) K
  | func hl hv ih => intro e K; exact .func hl fun j u c hu hc => ih j u c hu hc (idlessL_get (by simpa [AV.idless] using e) hu) K
  | rsl hn hsz hcap hA hcs h1 hcell hv ih => intro e K; exact .rsl hn hsz hcap hA hcs h1 hcell hv
  | rptr hcs h1 hg hx hc hv ih => intro e K; exact .rptr hcs h1 hg hx hc hv
  | osl hKb hnm hc hn hm hcap => intro e; simp [AV.idless] at e
  | oslnil hKb => intro e; simp [AV.idless] at e
  | osuf hn hc => intro e; simp [AV.idless] at e
  | ovar hKb => intro e; simp [AV.idless] at e
  | optr hKb => intro e; simp [AV.idless] at e
  | omap hKb => intro e; simp [AV.idless] at e
  | rmap hm hg hx hsz hl h1 hv ih => intro e K; exact .rmap hm hg hx hsz hl h1 hv
  | itr h1 h2 h3 h4 h5 h6 => intro e K; exact .itr h1 h2 h3 h4 h5 h6
theorem fit_sound {kd : Kd} {u : AV} {v : Value} (hf : kd.fits u = true) (h : VR w X K u v) : VR w (KdX kd X) (KdK kd K) u v := by
  cases kd
  · exact scalar_sound hf h _ _
  · exact idless_sound h hf _
  · exact h
  · cases hf
theorem allFit_get {kd : Kd} : ∀ {xs : List AV} {j : Nat} {u : AV}, allFit kd xs = true → xs[j]? = some u → kd.fits u = true
  | [], _, _, _, h => by simp at h
  | x :: xs, 0, u, h, hj => by simp at hj; subst hj; simp [allFit] at h; exact h.1
  | x :: xs, j + 1, u, h, hj => by simp at hj; simp [allFit] at h; exact allFit_get h.2 hj

/-- the cells of a value -/
theorem cellsOf_sound {u : AV} {cs : List AV} {v : Value} (hc : u.cellsOf = some cs) (h : VR w X K u v) : v.cells.size = cs.length ∧ (∀ (j : Nat) x, v.cells[j]? = some x → x.oneCell' = true) ∧ ∀ (j : Nat) x y, cs[j]? = some x → v.cells[j]? = some y → VR w X K x y := by
  have one : ∀ (hv : v.cells = #[v]) (h1 : v.oneCell' = true), some [u] = some cs → v.cells.size = cs.length ∧ (∀ (j : Nat) x, v.cells[j]? = some x → x.oneCell' = true) ∧ ∀ (j : Nat) x y, cs[j]? = some x → v.cells[j]? = some y → VR w X K x y := by
    intro hv h1 e
    injection e with e
    subst e
    rw [hv]
    refine ⟨rfl, fun j x hx => ?_, fun j x y hx hy => ?_⟩
    · cases j with
      | zero => simp at hx; subst hx; exact h1
      | succ j => simp at hx
    · cases j with
      | zero => simp at hx hy; subst hx hy; exact h
      | succ j => simp at hx
  cases u <;> simp only [AV.cellsOf] at hc
  case agg xs =>
    injection hc with hc
    subst hc
    obtain ⟨vs, rfl, h1, h2, h3⟩ := VR.agg_inv h
    exact ⟨h1.symm, h2, h3⟩
  case top => cases hc
  case und => cases hc
  case lit => obtain ⟨rfl, rfl⟩ := litC_some hc; cases h; exact one rfl rfl rfl
  case osuf => cases hc
  case tup => cases hc
  case opt => cases hc
  case fsl => cases hc
  all_goals (cases h <;> exact one rfl rfl hc)

theorem Step.setRow {g : Nat} {cur new : Array Value} {e : Nat} (hc : w.heap[g]? = some (.cells cur e (0, 0))) (hl : new.size = cur.size) : Step (fun r => r = g) w (w.setRow g new) := by
  have hblk : ∀ r, r ≠ g → (w.setRow g new).heap[r]? = w.heap[r]? := by
    intro r hr
    simp only [World.setRow, Array.getElem?_modify]
    rw [if_neg (fun e => hr e.symm)]
  refine ⟨⟨by simp [World.setRow], fun r _ hr => hblk r hr, fun r cur' e' h => ?_⟩, rfl, rfl, rfl⟩
  by_cases hr : r = g
  · subst hr
    rw [hc] at h
    injection h with h
    injection h with h1 h2
    subst h1 h2
    exact ⟨new, setRow_heap w r cur new e (0, 0) hc, hl⟩
  · exact ⟨cur', by rw [hblk r hr]; exact h, rfl⟩

/-- A store into a row of a block of one's own. -/
theorem store_sound (hT : TabOK P T) (hs : SRK E K c a w) {t : Nat} {ti : TyI} (ht : T.get t = some ti) {b g i off : Nat} {blk : OBlk} {row rw' cs : List AV} {u : AV} {v : Value}
    (hb : olk c.O b = some blk) (hkm : ∀ ag st, blk.kd ≠ .map ag st) (hK : blkOf K b = some g) (hrow : blk.rows[i]? = some row) (hcs : u.cellsOf = some cs) (hlen : cs.length = ti.size) (hfit : allFit blk.kd cs = true)
    (hsp : spliceE off cs row = some rw') (hv : VR w (XX E K c.O) K u v) :
    ∃ w', (Instr.storeAt t (.pointer (some ⟨g, i * blk.sz + off, none⟩)) v).run P w = .ok () w' ∧ SRK E K ⟨c.fr, setO b { blk with rows := blk.rows.set i rw' } c.O⟩ a w' := by
  obtain ⟨_, ⟨j, hj, _, hjs, _⟩, _⟩ := hT.get ht
  obtain ⟨h1, h2, h3⟩ := cellsOf_sound hcs hv
  have hr := hs.rows b blk hb
  have hrl : row.length = blk.sz := hr row (List.mem_of_getElem? hrow)
  obtain ⟨hlen', hget⟩ := spliceE_get hsp
  have hilt : i < blk.rows.length := (List.getElem?_eq_some_iff.1 hrow).1
  rcases hs.own b blk hb with ⟨k1, _⟩ | ⟨g', k1, hblk⟩
  · rw [show blkOf K b = none from by simp [blkOf, k1]] at hK; cases hK
  · have hK' := hK
    obtain rfl : g = g' := by rw [blkOf_of k1] at hK'; injection hK' with hK'; exact hK'.symm
    obtain ⟨cur, hc0, hu⟩ := hblk
    have hc := hc0.cells hkm
    have hflat := flat_len hr
    have hcur : ∀ p, p < blk.rows.flatten.length → p < cur.size := by
      intro p hp
      obtain ⟨x, hx, _⟩ := hu p _ (List.getElem?_eq_getElem hp)
      exact (Array.getElem?_eq_some_iff.1 hx).1
    have hbnd : off + cs.length ≤ row.length ∨ cs = [] := by
      rcases spliceE_spec hsp with h | ⟨h, _⟩
      · exact .inl h
      · exact .inr h
    have hmul : i * blk.sz + blk.sz ≤ blk.rows.flatten.length := by
      rw [hflat]
      calc i * blk.sz + blk.sz = (i + 1) * blk.sz := by rw [Nat.add_mul]; omega
        _ ≤ blk.rows.length * blk.sz := Nat.mul_le_mul_right _ hilt
    by_cases hnil : cs = []
    · -- nothing is stored
      subst hnil
      have hrw : rw' = row := by simp [spliceE] at hsp; exact hsp.symm
      have hset : blk.rows.set i rw' = blk.rows := by
        rw [hrw]
        obtain ⟨_, e⟩ := List.getElem?_eq_some_iff.1 hrow
        rw [← e]; simp
      have hvc : v.cells.toList = [] := List.eq_nil_of_length_eq_zero (by simpa using h1)
      refine ⟨w, ?_, ?_⟩
      · simp [Instr.storeAt, Instr.sureAddr, storeVar, sizeOf_run hj, hjs, h1, hlen, hvc, storeCells]
      · have : SRK E K ⟨c.fr, setO b blk c.O⟩ a w := hs.write hb hK rfl (Step.refl _ _) hr ⟨cur, hc0, hu⟩
        rw [hset]; exact this
    · have hb2 : off + cs.length ≤ row.length := hbnd.resolve_right hnil
      have hpos : 0 < cs.length := by cases cs <;> simp at hnil ⊢
      have hsz : i * blk.sz + off + v.cells.toList.length ≤ cur.size := by
        have : i * blk.sz + off + cs.length - 1 < cur.size := hcur _ (by omega)
        simp only [Array.length_toList, h1]; omega
      have hone : ∀ x ∈ v.cells.toList, x.oneCell' = true := by
        intro x hx
        obtain ⟨k, hk⟩ := List.getElem?_of_mem hx
        exact h2 k x (by simpa using hk)
      have hrun := run_storeCells_at P g (i * blk.sz + off) blk.e v.cells.toList 0 cur w hc (by simpa using hsz) hone
      simp only [Nat.add_zero] at hrun
      obtain ⟨new, hnew⟩ : ∃ new : Array Value, new = (cur.toList.take (i * blk.sz + off) ++ v.cells.toList ++ cur.toList.drop (i * blk.sz + off + v.cells.toList.length)).toArray := ⟨_, rfl⟩
      rw [← hnew] at hrun
      have hns : new.size = cur.size := by
        rw [hnew]
        simp only [List.size_toArray, List.length_append, List.length_take, List.length_drop, Array.length_toList] at hsz ⊢
        omega
      have hst : Step (fun r => r = g) w (w.setRow g new) := Step.setRow hc hns
      have hkeep : Keep (XX E K c.O) w (w.setRow g new) := hst.keep.mono fun r _ hr' => .inl ⟨b, by simp [hb], by rw [hr']; exact hK⟩
      refine ⟨w.setRow g new, ?_, hs.write (blk := { blk with rows := blk.rows.set i rw' }) hb hK (by simp) hst (set_mem hr (by rw [hlen', hrl])) ?_⟩
      rotate_left
      · refine ⟨new, HoldsObj.mk hkm (setRow_heap w g cur _ blk.e (0, 0) hc), fun p u' hp => ?_⟩
        simp only at hp
        rw [flat_set hr (by rw [hlen', hrl]) hilt] at hp
        have old : ∀ u'', blk.rows.flatten[p]? = some u'' → u'' = u' → (p < i * blk.sz + off ∨ i * blk.sz + off + cs.length ≤ p) → ∃ x, new[p]? = some x ∧ x.oneCell' = true ∧ VR (w.setRow g new) (KdX blk.kd (XX E K c.O)) (KdK blk.kd K) u' x := by
          intro u'' hp' e hwhere
          subst e
          obtain ⟨x, hx, h1x, hvx⟩ := hu p u'' hp'
          refine ⟨x, ?_, h1x, hvx.keep (KdX_keep hkeep) (fun _ _ h => h) (fun _ _ => rfl)⟩
          have hx' : cur.toList[p]? = some x := by simpa using hx
          rw [hnew]
          simp only [List.getElem?_toArray]
          have hl1 : (cur.toList.take (i * blk.sz + off)).length = i * blk.sz + off := by simp only [List.length_take, Array.length_toList] at hsz ⊢; omega
          rcases hwhere with hlt | hge
          · rw [List.append_assoc, List.getElem?_append_left (by omega), List.getElem?_take, if_pos hlt]; exact hx'
          · rw [List.getElem?_append_right (by rw [List.length_append, hl1]; simp only [Array.length_toList, h1]; omega), List.getElem?_drop, List.length_append, hl1]
            rw [← hx']; congr 1; simp only [Array.length_toList, h1]; omega
        by_cases e1 : i * blk.sz ≤ p ∧ p < i * blk.sz + blk.sz
        · rw [if_pos e1, hget] at hp
          by_cases e2 : off ≤ p - i * blk.sz ∧ p - i * blk.sz < off + cs.length
          · rw [if_pos e2] at hp
            have hk : p - i * blk.sz - off < v.cells.size := by rw [h1]; omega
            have hy : v.cells[p - i * blk.sz - off]? = some v.cells[p - i * blk.sz - off] := by simp [hk]
            refine ⟨v.cells[p - i * blk.sz - off], ?_, h2 _ _ hy, ?_⟩
            · rw [hnew]
              simp only [List.getElem?_toArray]
              have hl1 : (cur.toList.take (i * blk.sz + off)).length = i * blk.sz + off := by simp only [List.length_take, Array.length_toList] at hsz ⊢; omega
              rw [List.append_assoc, List.getElem?_append_right (by omega), hl1, List.getElem?_append_left (by simp only [Array.length_toList]; omega)]
              rw [← hy]; simp only [Array.getElem?_toList]; congr 1; omega
            · have hvx := fit_sound (allFit_get hfit hp) (h3 _ _ _ hp hy)
              exact hvx.keep (KdX_keep hkeep) (fun _ _ h => h) (fun _ _ => rfl)
          · rw [if_neg e2] at hp
            have : blk.rows.flatten[p]? = some u' := by
              have := flat_get hr hrow (p - i * blk.sz) (by omega)
              rw [hp] at this
              rw [← this]; congr 1; omega
            exact old u' this rfl (by omega)
        · rw [if_neg e1] at hp
          exact old u' hp rfl (by omega)
      · simp only [Instr.storeAt, Instr.sureAddr, storeVar, Sem.run_bind, Sem.run_pure, Result.andThen_ok, sizeOf_run hj, hjs]
        rw [if_neg (by rw [h1, hlen]; simp)]
        exact hrun

theorem wp_skip_ {w' : World} {D : List (Nat × OBlk)} (hrun : (execOp a.eval o).run P w = .ok .skip w') (hr : { v := .top, D := D } = r) (hs' : SRK E K ⟨c.fr, setD D c.O⟩ a w') :
    o.wp P a w (OpPost E c r a o.dst) NoQ := by
  subst hr
  unfold Oper.wp
  rw [hrun]
  exact ⟨K, undef, rfl, hs', .top⟩

theorem s_store (hT : TabOK P T) (hs : SRK E K c a w) (hval : Vals E K c a w val) {t : TypeId} {x y : Operand} (ho : o.op = .store t x y)
    (h : Ans.holds P (match T.get t with
    | some i => storeA i (cellsOnly (olk c.O)) (val x) (val y)
    | none => .no) (· = r)) : o.wp P a w (OpPost E c r a o.dst) NoQ := by
  split at h
  · rename_i ti hti
    unfold storeA at h
    split at h
    · exact h.elim
    · rename_i cs hcs
      have hvy : VR w (XX E K c.O) K (val y) (a.eval y) := (hval y).vr (by rintro d want u e; rw [e] at hcs; cases hcs)
      split at h
      · exact h.elim
      · rename_i hlen
        have hlen := beq_true hlen
        have fin : ∀ {b g i off : Nat} {blk : OBlk} {row rw' : List AV}, a.eval x = .pointer (some ⟨g, i * blk.sz + off, none⟩) → olk c.O b = some blk → (∀ ag st, blk.kd ≠ .map ag st) → blkOf K b = some g → blk.rows[i]? = some row → allFit blk.kd cs = true →
            spliceE off cs row = some rw' → { v := .top, D := [(b, { blk with rows := blk.rows.set i rw' })] } = r → o.wp P a w (OpPost E c r a o.dst) NoQ := by
          intro b g i off blk row rw' e1 hb hkm hK hrow hfit hsp hr
          obtain ⟨w', hrun, hs'⟩ := store_sound (P := P) hT hs hti hb hkm hK hrow hcs hlen hfit hsp hvy
          refine wp_skip_ (w' := w') ?_ hr (by simpa [setD] using hs')
          simp only [execOp, ho, e1, Sem.run_bind, hrun, Result.andThen_ok, Sem.run_pure]
        split at h
        · rename_i b off hx
          split at h
          · rename_i blk hb
            obtain ⟨hb, hkm⟩ := cellsOnly_some hb
            split at h
            · rename_i row hrow hfit
              split at h
              · rename_i r' hsp
                obtain ⟨g, hK, e1⟩ := VR.ovar_inv (hval.at hx)
                refine fin (i := 0) (off := off) (row := row) (by simpa using e1) hb hkm hK (by rw [hrow]; rfl) hfit hsp ?_
                rw [hrow]; exact h
              · exact h.elim
            · exact h.elim
          · exact h.elim
        · rename_i b sz k off hx
          split at h
          · rename_i blk hb
            obtain ⟨hb, hkm⟩ := cellsOnly_some hb
            split at h
            · rename_i hsz hfit
              have := beq_true hsz
              subst this
              obtain ⟨row, hrow, h⟩ := h
              split at h
              · rename_i r' hsp
                obtain ⟨g, hK, e1⟩ := VR.optr_inv (hval.at hx)
                exact fin e1 hb hkm hK hrow hfit hsp h
              · exact h.elim
            · exact h.elim
          · exact h.elim
        · exact h.elim
  · exact h.elim
end
end Go.Abs
end
