import Derived.Below
import Derived.ChangeOld
import Derived.Test.YteihenhffdckiaaGreatDoorJ11
section
namespace Go.Abs
open Go.RowKit Go.ChangeShapes Go.WideShapes Go.ChangeAt
set_option linter.unusedVariables false

def RdVs (P : Program) (d : Nat) : List TypeId → List AV → Prop
  | [], [] => True
  | t :: ts, u :: us => RdV P d t u ∧ RdVs P d ts us
  | _, _ => False

section
variable {H : Type} {enc : TypeId × Value → H} {P : Program} {w : World} {base : Nat} {spare : Nat → Bool} {held : Bool}
theorem args_rd {d b0 : Nat} : ∀ {ts : List TypeId} {vs : List Value} {ds : List (DataW H)} {p : List MemPlace}, (ts.all fun t => plainT P d t) = true →
    (∀ (j : Nat) t v, ts[j]? = some t → vs[j]? = some v → Value.okWide P w .any b0 t v) → DataW.TrodAll enc P w base spare held ts vs ds p →
    ∃ us, RdVs P d ts us ∧ us.length = vs.length ∧ ∀ (j : Nat) u c, us[j]? = some u → vs[j]? = some c → VR w (fun _ => False) K0 u c
  | [], vs, ds, p, _, _, h => by
    obtain ⟨rfl, _, _⟩ := trodAll_nil h
    exact ⟨[], trivial, rfl, by simp⟩
  | t :: ts, vs, ds, p, hp, hv, h => by
    obtain ⟨v, vs', d', ds', p', q, rfl, rfl, rfl, h1, h2⟩ := trodAll_cons h
    simp only [List.all_cons, Bool.and_eq_true] at hp
    obtain ⟨u, hu, hr⟩ := arg_rd hp.1 (hv 0 t v rfl rfl) h1
    obtain ⟨us, hus, hl, hrs⟩ := args_rd hp.2 (fun j t' v' ht hv' => hv (j + 1) t' v' (by simpa using ht) (by simpa using hv')) h2
    refine ⟨u :: us, ⟨hu, hus⟩, by simp [hl], fun j u' c hu' hc => ?_⟩
    cases j with
    | zero => simp at hu' hc; subst hu' hc; exact hr
    | succ j => exact hrs j u' c (by simpa using hu') (by simpa using hc)

theorem below_trodAll {W W' : World} (hl : laidOutB P = true) (hb : Below W.heap.size W W') : ∀ {ts : List TypeId} {vs : List Value} {ds : List (DataW H)} {p : List MemPlace}, (ts.all fun t => P.readableRec t && decide (t < P.types.size)) = true →
    DataW.TrodAll enc P W 0 (fun _ => true) true ts vs ds p → DataW.TrodAll enc P W' 0 (fun b => decide (b < W.heap.size)) true ts vs ds p
  | [], vs, ds, p, _, h => by
    obtain ⟨rfl, rfl, rfl⟩ := trodAll_nil h
    exact trodAll_mk0
  | t :: ts, vs, ds, p, hp, h => by
    obtain ⟨v, vs', d', ds', p', q, rfl, rfl, rfl, h1, h2⟩ := trodAll_cons h
    simp only [List.all_cons, Bool.and_eq_true, decide_eq_true_eq] at hp
    have lt : ∀ x ∈ p', x.block < W.heap.size := by
      obtain ⟨m, hm⟩ := h1
      exact DataW.trod_lt m _ _ _ hm
    exact trodAll_cons_mk (Below.trod hl hp.1.1 hp.1.2 h1 hb lt) (below_trodAll hl hb (by simpa using hp.2) h2)
theorem trodAll_len : ∀ {ts : List TypeId} {vs : List Value} {ds : List (DataW H)} {p : List MemPlace}, DataW.TrodAll enc P w base spare held ts vs ds p → ds.length = ts.length ∧ vs.length = ts.length
  | [], vs, ds, p, h => by obtain ⟨rfl, rfl, _⟩ := trodAll_nil h; exact ⟨rfl, rfl⟩
  | t :: ts, vs, ds, p, h => by
    obtain ⟨v, vs', d', ds', p', q, rfl, rfl, rfl, h1, h2⟩ := trodAll_cons h
    have := trodAll_len h2
    simp [this]

end
end Go.Abs
end
section
namespace Go.Abs
theorem fits_nil {us : List AV} (h : fitsCK [] us = true) : us = [] := by cases us <;> simp [fitsCK] at h ⊢
theorem fits_i {k : IntKind} {cs : List CK} {us : List AV} (h : fitsCK (.i k :: cs) us = true) : ∃ n us', us = .int k n :: us' ∧ fitsCK cs us' = true := by
  cases us with
  | nil => simp [fitsCK] at h
  | cons u us =>
    simp only [fitsCK, Bool.and_eq_true] at h
    obtain ⟨h1, h2⟩ := h
    cases u <;> simp [CK.fits] at h1
    have := kindEq_iff h1
    subst this
    exact ⟨_, _, rfl, h2⟩
theorem fits_s {cs : List CK} {us : List AV} (h : fitsCK (.s :: cs) us = true) : ∃ n us', us = .str n :: us' ∧ fitsCK cs us' = true := by
  cases us with
  | nil => simp [fitsCK] at h
  | cons u us =>
    simp only [fitsCK, Bool.and_eq_true] at h
    obtain ⟨h1, h2⟩ := h
    cases u <;> simp [CK.fits] at h1
    exact ⟨_, _, rfl, h2⟩
end Go.Abs
end
section
namespace Go.Abs
open Go.RowKit
set_option linter.unusedVariables false

/-- an empty slice that is read is nil, or it isn't -/
theorem fn_empty {P : Program} {f : FuncId} {sz : Nat} {us : List AV} {r : AV} (h1 : Fn P f (.nilsl :: us) r) (h2 : Fn P f (.esl :: us) r) : Fn P f (.rsl sz 0 [] :: us) r := by
  refine ⟨h1.1, fun X w vs hw hl hv => ?_⟩
  have h0 : 0 < vs.size := by rw [← hl]; simp
  have hv0 : vs[0]? = some vs[0] := by simp [h0]
  obtain ⟨A, cap, e1, hn, _, _, hA, _⟩ := VR.rsl_inv (hv 0 _ _ rfl hv0)
  cases A with
  | none =>
    have := hA rfl
    subst this
    refine h1.2 X w vs hw (by simpa using hl) fun j u c hu hc => ?_
    cases j with
    | zero => simp at hu; subst hu; rw [hv0] at hc; injection hc with hc; subst hc; rw [e1]; exact .nilsl
    | succ j => exact hv (j + 1) u c (by simpa using hu) hc
  | some A =>
    refine h2.2 X w vs hw (by simpa using hl) fun j u c hu hc => ?_
    cases j with
    | zero => simp at hu; subst hu; rw [hv0] at hc; injection hc with hc; subst hc; rw [e1]; exact .esl
    | succ j => exact hv (j + 1) u c (by simpa using hu) hc

theorem wrap64 {x : Int} (h1 : -9223372036854775808 ≤ x) (h2 : x ≤ 9223372036854775807) : IntKind.i64.wrap x = x := by
  rw [IntKind.wrap_i64]; omega
end Go.Abs
end
section
namespace Go.Abs
open Go.RowKit
set_option linter.unusedVariables false

/-- the nil slice in a slot, as a block of one's own without a row -/
theorem Wk.nil {c : Cfg} (t b : Nat) (blk : OBlk) (ht : lk c.fr t = .nilsl) (hf : fresh b c = true) (hr : blk.rows = []) : Wk c ⟨(t, .osl b blk.sz 0) :: c.fr, setO b blk c.O⟩ := by
  rintro E a w ⟨K, h⟩
  obtain ⟨h1, h2, h3⟩ := fresh_of hf
  have h' := h.rebindNil (blk := blk) (fresh_pin hf) h2 (fun i x hi _ hk => h3 i x hi hk) hr
  refine ⟨_, h'.size, h'.defers, h'.ext, fun s => ?_, h'.rows, h'.own, h'.inj, h'.mine, h'.pin⟩
  rw [lk_cons]
  split
  · rename_i e
    subst e
    have hv := h.fr t
    rw [ht] at hv
    have : a.tmps.getD t undef = .slice none 0 0 := VR.nilsl_inv hv
    rw [this]
    exact VR.oslnil (upd_same _ _ _)
  · exact h'.fr s
/-- the same, and only some slots and blocks are kept -/
theorem Wk.nilKeep {c : Cfg} (t b : Nat) (blk : OBlk) (ks ids : List Nat) (ht : lk c.fr t = .nilsl) (hf : fresh b c = true) (hr : blk.rows = []) : Wk c (Cfg.only ⟨(t, .osl b blk.sz 0) :: c.fr, setO b blk c.O⟩ ks ids) :=
  (Wk.nil t b blk ht hf hr).trans (Wk.keep ks ids)

theorem drop_cons {α : Type} {l : List α} {i : Nat} (h : i < l.length) : ∃ a, l[i]? = some a ∧ l.drop i = a :: l.drop (i + 1) ∧ l.take (i + 1) = l.take i ++ [a] :=
  ⟨l[i], by simp [h], List.drop_eq_getElem_cons h, by simp⟩
theorem get_map {α β : Type} {f : α → β} {l : List α} {i : Nat} {a : α} (h : l[i]? = some a) : (l.map f)[i]? = some (f a) := by simp [h]
theorem get_map' {α β : Type} {f : α → β} {l : List α} {i : Nat} {j : Int} {a : α} (h : l[i]? = some a) (hj : j = i) : (l.map f)[j.toNat]? = some (f a) := by subst hj; simp [h]
end Go.Abs
end
section
namespace Go.Abs
open Go.RowKit
set_option linter.unusedVariables false
/-! ### plain laws on lists and integers -/
/-- the first index at which p holds, or -1 -/
def idxF {α : Type} (p : α → Bool) : Nat → List α → Int
  | _, [] => -1
  | k, a :: r => if p a = true then k else idxF p (k + 1) r
theorem idxF_spec {α : Type} (p : α → Bool) : ∀ (l : List α) (k : Nat), (idxF p k l = -1 ∧ ∀ a ∈ l, p a = false) ∨ ∃ (i : Nat) (a : α), l[i]? = some a ∧ p a = true ∧ idxF p k l = (k + i : Nat) ∧ ∀ (j : Nat) b, j < i → l[j]? = some b → p b = false
  | [], k => .inl ⟨rfl, by simp⟩
  | a :: r, k => by
    simp only [idxF]
    split
    · rename_i h
      exact .inr ⟨0, a, by simp, h, by simp, by omega⟩
    · rename_i h
      rcases idxF_spec p r (k + 1) with ⟨h1, h2⟩ | ⟨i, b, h1, h2, h3, h4⟩
      · exact .inl ⟨h1, by simpa using ⟨by simpa using h, h2⟩⟩
      · refine .inr ⟨i + 1, b, by simpa using h1, h2, by rw [h3]; congr 1; omega, fun j c hj hc => ?_⟩
        cases j with
        | zero => simp at hc; subst hc; simpa using h
        | succ j => exact h4 j c (by omega) (by simpa using hc)
theorem idxF_any {α : Type} (p : α → Bool) (l : List α) : decide (idxF p 0 l ≥ 0) = l.any p := by
  rw [Bool.eq_iff_iff]
  rcases idxF_spec p l 0 with ⟨h1, h2⟩ | ⟨i, a, h1, h2, h3, _⟩
  · rw [h1]
    simp only [decide_eq_true_eq, List.any_eq_true]
    constructor
    · intro h; omega
    · rintro ⟨a, ha, hp⟩
      rw [h2 a ha] at hp; cases hp
  · rw [h3]
    simp only [decide_eq_true_eq, List.any_eq_true]
    constructor
    · intro _; exact ⟨a, List.mem_of_getElem? h1, h2⟩
    · intro _; omega
theorem map_take_all {α β : Type} (f : α → β) (l : List α) : (l.map f).take l.length = l.map f := List.take_of_length_le (by simp)
def i64 (n : Int) : Prop := -9223372036854775808 ≤ n ∧ n ≤ 9223372036854775807
theorem wf64 {n : Int} (h : (Lit.int .i64 n).wf = true) : i64 n := by
  simp [Lit.wf, IntKind.min, IntKind.max, IntKind.bits, IntKind.signed] at h
  unfold i64
  omega
theorem rdvs3 {P : Program} {d t0 t1 t2 : Nat} {us : List AV} (h : RdVs P d [t0, t1, t2] us) : ∃ u0 u1 u2, us = [u0, u1, u2] ∧ RdV P d t0 u0 ∧ RdV P d t1 u1 ∧ RdV P d t2 u2 := by
  match us, h with
  | [u0, u1, u2], h => exact ⟨u0, u1, u2, rfl, h.1, h.2.1, h.2.2.1⟩
end Go.Abs
end
section
namespace Go.Abs
open Go.RowKit
set_option linter.unusedVariables false
/-- a slice of a block of one's own, handed back -/
def retM (c : Cfg) (u r : AV) : Prop :=
  match u with
  | .osl b sz n => ∃ blk, olk c.O b = some blk ∧ blk.sz = sz ∧ n ≤ blk.rows.length ∧ blk.kd = .pure ∧ r = .fsl true blk.e sz n (blk.rows.take n)
  | _ => False
def retQM (t : Nat) (r : AV) : Ex → Cfg → Prop
  | .exit _, _ => False
  | _, c => retM c (lk c.fr t) r
section
variable {P : Program} {N : Nat}
/-! ### functions that write blocks in place -/
def subO : List (Nat × OBlk) → List (Nat × OBlk) → Prop
  | [], _ => True
  | (b, x) :: r, O => olk O b = some x ∧ subO r O
/-- plain values alone -/
def scalB (blk : OBlk) : Bool :=
  match blk.kd with
  | .pure => true
  | .any => blk.rows.all (·.all AV.scalar)
  | .flat => false
  | .map _ _ => blk.ents.all (·.all AV.scalar)
def scalO : List (Nat × OBlk) → Bool
  | [] => true
  | (_, blk) :: r => scalB blk && scalO r
/-- ids that stay bound -/
def pinsOK : List (Nat × OBlk) → Bool
  | [] => true
  | (b, _) :: r => Nat.ble 2 (b % 16) && pinsOK r
def retRS (c : Cfg) : List ResultVar → AV → Prop
  | [], r => r = .tup []
  | [.tmp t], r => r = lk c.fr t ∧ r.scalar = true
  | _, _ => False
def retQS (rv : List ResultVar) (r : AV) (O' : List (Nat × OBlk)) : Ex → Cfg → Prop
  | .exit _, _ => False
  | _, c => retRS c rv r ∧ scalO O' = true ∧ subO O' c.O
set_option maxHeartbeats 400000 in
/-- one variable, whatever its id -/
theorem FnS.one {f : FuncId} {us : List AV} {b0 b e sz : Nat} {row row' : List AV} {r : AV} (h : FnS P f (us ++ [.ovar b0 0]) [(b0, ⟨e, sz, .any, [row], []⟩)] [(b0, ⟨e, sz, .any, [row'], []⟩)] r) (hu : AV.idlessL us = true) (h1 : AV.idlessL row = true) (h2 : row'.all AV.scalar = true) (hr : scalR r = true) :
    FnS P f (us ++ [.ovar b 0]) [(b, ⟨e, sz, .any, [row], []⟩)] [(b, ⟨e, sz, .any, [row'], []⟩)] r := by
  refine ⟨h.1, fun w K vs hwi hown hlen hargs => ?_⟩
  have hget : ∀ (i : Nat) (x : OBlk) (j : Nat) (y : OBlk), olk [(i, x)] j = some y → j = i ∧ y = x := by
    intro i x j y hy
    rw [olk_cons] at hy
    by_cases e : i = j
    · rw [if_pos e] at hy; injection hy with hy; exact ⟨e.symm, hy.symm⟩
    · rw [if_neg e] at hy; simp [olk] at hy
  have hself : ∀ (i : Nat) (x : OBlk), olk [(i, x)] i = some x := by intro i x; rw [olk_cons, if_pos rfl]
  obtain ⟨x, hx⟩ : ∃ x, K b = some x := by
    rcases hown.own b _ (hself b _) with ⟨k, _⟩ | ⟨g, k, _⟩
    · exact ⟨_, k⟩
    · exact ⟨_, k⟩
  have hblk : blkOf (upd K0 b0 x) b0 = blkOf K b := by unfold blkOf; rw [upd_same, hx]
  have hL : ∀ (y y' : OBlk), Live (upd K0 b0 x) [(b0, y)] = Live K [(b, y')] := by
    intro y y'
    funext g
    apply propext
    constructor
    · rintro ⟨i, hi, hk⟩
      obtain ⟨z, hz⟩ := Option.isSome_iff_exists.1 hi
      obtain ⟨rfl, _⟩ := hget _ _ _ _ hz
      exact ⟨b, by rw [hself]; rfl, by rw [← hblk]; exact hk⟩
    · rintro ⟨i, hi, hk⟩
      obtain ⟨z, hz⟩ := Option.isSome_iff_exists.1 hi
      obtain ⟨rfl, _⟩ := hget _ _ _ _ hz
      exact ⟨b0, by rw [hself]; rfl, by rw [hblk]; exact hk⟩
  have hcell : ∀ {X : Nat → Prop} {K1 K2 : KM} {w : World} {g : Nat} {row : List AV}, AV.idlessL row = true → BlkR w X K1 g ⟨e, sz, .any, [row], []⟩ → BlkR w X K2 g ⟨e, sz, .any, [row], []⟩ := by
    rintro X K1 K2 w g row hrow ⟨cur, hc, hu⟩
    refine ⟨cur, hc, fun j u hj => ?_⟩
    obtain ⟨y, hy, h1, hv⟩ := hu j u hj
    refine ⟨y, hy, h1, idless_K ?_ hv⟩
    simp only [List.flatten_cons, List.flatten_nil, List.append_nil] at hj
    exact idlessL_get hrow hj
  have hrow' : AV.idlessL row' = true := by
    clear h
    induction row' with
    | nil => rfl
    | cons y ys ih =>
      simp only [List.all_cons, Bool.and_eq_true] at h2
      simp only [AV.idlessL, ih h2.2, Bool.and_true]
      have := h2.1
      cases y <;> first | rfl | cases this
  refine (h.2 w (upd K0 b0 x) vs (fun w' hx' => hwi w' (by rw [hL _ ⟨e, sz, .any, [row], []⟩] at hx'; exact hx')) ?_ (by simpa using hlen) (fun j u c hj hc => ?_)).mono ?_
  · rw [hL _ ⟨e, sz, .any, [row], []⟩]
    refine ⟨fun i y hy => ?_, fun i y hy => ?_, fun i i' g k1 k2 _ _ => ?_⟩
    · obtain ⟨rfl, rfl⟩ := hget _ _ _ _ hy
      exact hown.rows b _ (hself b _)
    · obtain ⟨rfl, rfl⟩ := hget _ _ _ _ hy
      rcases hown.own b _ (hself b _) with ⟨k1, k2⟩ | ⟨g, k1, k2⟩
      · exact .inl ⟨by rw [upd_same, ← hx]; exact k1, k2⟩
      · exact .inr ⟨g, by rw [upd_same, ← hx]; exact k1, hcell h1 k2⟩
    · obtain ⟨z, hz⟩ := Option.isSome_iff_exists.1 k1
      obtain ⟨z', hz'⟩ := Option.isSome_iff_exists.1 k2
      rw [(hget _ _ _ _ hz).1, (hget _ _ _ _ hz').1]
  · rw [hL _ ⟨e, sz, .any, [row], []⟩]
    rcases Nat.lt_or_ge j us.length with hlt | hge
    · rw [List.getElem?_append_left hlt] at hj
      exact idless_K (idlessL_get hu hj) (hargs j u c (by rw [List.getElem?_append_left hlt]; exact hj) hc)
    · rw [List.getElem?_append_right hge] at hj
      have hj0 : j - us.length = 0 := by
        rcases Nat.eq_zero_or_pos (j - us.length) with h | h
        · exact h
        · rw [List.getElem?_eq_none (by simp; omega)] at hj; cases hj
      rw [hj0] at hj
      simp at hj; subst hj
      have hv := hargs j (.ovar b 0) c (by rw [List.getElem?_append_right hge, hj0]; rfl) hc
      obtain ⟨g, hk, rfl⟩ := VR.ovar_inv hv
      exact .ovar (by rw [hblk]; exact hk)
  · rintro en w' ⟨v, rfl, hrr, hown', hext⟩
    rw [hL _ ⟨e, sz, .any, [row], []⟩] at hrr hown' hext
    refine ⟨v, rfl, scalR_any hr hrr, ⟨fun i y hy => ?_, fun i y hy => ?_, fun i i' g k1 k2 _ _ => ?_⟩, hext⟩
    · obtain ⟨rfl, rfl⟩ := hget _ _ _ _ hy
      exact hown'.rows b0 _ (hself b0 _)
    · obtain ⟨rfl, rfl⟩ := hget _ _ _ _ hy
      rcases hown'.own b0 _ (hself b0 _) with ⟨k1, k2⟩ | ⟨g, k1, k2⟩
      · exact .inl ⟨by rw [hx, ← upd_same K0 b0 x]; exact k1, k2⟩
      · exact .inr ⟨g, by rw [hx, ← upd_same K0 b0 x]; exact k1, hcell hrow' k2⟩
    · obtain ⟨z, hz⟩ := Option.isSome_iff_exists.1 k1
      obtain ⟨z', hz'⟩ := Option.isSome_iff_exists.1 k2
      rw [(hget _ _ _ _ hz).1, (hget _ _ _ _ hz').1]
end
end Go.Abs
end
section
namespace Go.Abs
open Go.RowKit
set_option linter.unusedVariables false
/-! ### an evaluation in parts -/
/-- what an evaluation comes to, of the machine -/
def SemA (P : Program) (N : Nat) (code : Code) (c : Cfg) (Q : Ex → Cfg → Prop) : Prop :=
  ∀ (E : Env), E.N = N → ∀ (Q' : Exit → Act → World → Prop) (a : Act) (w : World), (∀ e c a w, Q e c → SR E c a w → Q' e.toExit a w) → SR E c a w → code.wp P Q' a w
section
variable {P : Program} {T : Tab} {N : Nat} {ks : List Nat}
theorem SemA.ev (hT : TabOK P T) (h1 : TabOne T = true) (hm : P.follows .mixedOrders = true) {code : Code} {c : Cfg} {Q : Ex → Cfg → Prop} (hd : drawsOK code = true) (h : ev P T N ks code c Q) : SemA P N code c Q :=
  fun E hN Q' a w hQ hs => ev_sound hT h1 hN hm code c Q Q' a w hd h hQ hs
theorem SemA.seq {x y : Code} {c : Cfg} {Q : Ex → Cfg → Prop} (R : Cfg → Prop) (hx : SemA P N x c fun e c' => match e with | .normal => R c' | e => Q e c') (hy : ∀ c', R c' → SemA P N y c' Q) : SemA P N (.seq x y) c Q := by
  intro E hN Q' a w hQ hs
  refine wp_seq (hx E hN _ a w (fun e c a w hq hs => ?_) hs)
  cases e with
  | normal => exact hy c hq E hN Q' a w hQ hs
  | exit id => exact hQ _ c a w hq hs
  | ret => exact hQ _ c a w hq hs
theorem SemA.cond {x : Operand} {t e : Code} {c : Cfg} {Q : Ex → Cfg → Prop} {b : Bool} (hb : opv c x = .bool b) (ht : b = true → SemA P N t c Q) (he : b = false → SemA P N e c Q) : SemA P N (.cond x t e) c Q := by
  intro E hN Q' a w hQ hs
  exact wp_cond_split (opv_FV hs hb) (fun h => ht h E hN Q' a w hQ hs) (fun h => he h E hN Q' a w hQ hs)
end
end Go.Abs
end
section
namespace Go.Abs
open Go.RowKit
set_option linter.unusedVariables false
/-! ### a piece of code beside blocks that it does not know of -/
theorem olk_cat : ∀ (V Tl : List (Nat × OBlk)) (b : Nat), olk (V ++ Tl) b = (olk V b).or (olk Tl b)
  | [], Tl, b => by simp [olk]
  | (i, x) :: V, Tl, b => by
    rw [List.cons_append, olk_cons, olk_cons, olk_cat V Tl b]
    split <;> simp
theorem olk_app_l {V Tl : List (Nat × OBlk)} {b : Nat} {x : OBlk} (h : olk V b = some x) : olk (V ++ Tl) b = some x := by rw [olk_cat, h]; rfl
theorem olk_app_r {V Tl : List (Nat × OBlk)} {b : Nat} (h : olk V b = none) : olk (V ++ Tl) b = olk Tl b := by rw [olk_cat, h]; simp
theorem olk_app_inv {V Tl : List (Nat × OBlk)} {b : Nat} {x : OBlk} (h : olk (V ++ Tl) b = some x) : olk V b = some x ∨ (olk V b = none ∧ olk Tl b = some x) := by
  rw [olk_cat] at h
  cases hV : olk V b with
  | some y => rw [hV] at h; left; simpa using h
  | none => rw [hV] at h; right; exact ⟨rfl, by simpa using h⟩
theorem Live_app {K : KM} {V Tl : List (Nat × OBlk)} {g : Nat} (h : Live K (V ++ Tl) g) : Live K V g ∨ Live K Tl g := by
  obtain ⟨b, hb, hk⟩ := h
  obtain ⟨x, hx⟩ := Option.isSome_iff_exists.1 hb
  rcases olk_app_inv hx with h | ⟨_, h⟩
  · exact .inl ⟨b, by simp [h], hk⟩
  · exact .inr ⟨b, by simp [h], hk⟩
/-- blocks of plain values under ids that stay bound -/
def TailOK (Tl : List (Nat × OBlk)) : Prop := ∀ b x, olk Tl b = some x → x.kd = .pure ∧ Nat.ble 2 (b % 16) = true
theorem TailOK.nil : TailOK [] := fun b x h => by simp [olk] at h
/-- nothing of the first is an id of the second -/
def Apart (V Tl : List (Nat × OBlk)) : Prop := ∀ b x, olk Tl b = some x → olk V b = none
theorem Apart.nil (V : List (Nat × OBlk)) : Apart V [] := fun b x h => by simp [olk] at h
/-- what a piece of code that knows of V alone leaves of the rest -/
structure Left (K : KM) (V : List (Nat × OBlk)) (w : World) (K' : KM) (w' : World) : Prop where
  size : w.heap.size ≤ w'.heap.size
  block : ∀ g, g < w.heap.size → ¬ Live K V g → w'.heap[g]? = w.heap[g]?
  pin : ∀ b x, Nat.ble 2 (b % 16) = true → K b = some x → K' b = some x
  shape : ∀ (g : Nat) (cur : Array Value) (e : TypeId), w.heap[g]? = some (Obj.cells cur e (0, 0)) → ∃ cur' : Array Value, w'.heap[g]? = some (Obj.cells cur' e (0, 0)) ∧ cur'.size = cur.size
theorem frame {E : Env} {K : KM} {fr : List (Nat × AV)} {V Tl : List (Nat × OBlk)} {a : Act} {w : World} (hT : TailOK Tl) (hd : Apart V Tl) (hs : SRK E K ⟨fr, V ++ Tl⟩ a w) :
    ∃ E1 : Env, E1.N = E.N ∧ SRK E1 K ⟨fr, V⟩ a w ∧ ∀ K' c' a' w', SRK E1 K' c' a' w' → SRK E K' ⟨c'.fr, c'.O ++ Tl⟩ a' w' ∧ Left K V w K' w' ∧ (∀ g, Live K' c'.O g → Live K V g ∨ w.heap.size ≤ g) := by
  have hlV : ∀ g, Live K V g → Live K (V ++ Tl) g := by
    rintro g ⟨b, hb, hk⟩
    obtain ⟨x, hx⟩ := Option.isSome_iff_exists.1 hb
    exact ⟨b, by simp [olk_app_l hx], hk⟩
  have hlT : ∀ b x, olk Tl b = some x → olk (V ++ Tl) b = some x := fun b x h => by rw [olk_app_r (hd b x h)]; exact h
  have hlT' : ∀ g, Live K Tl g → Live K (V ++ Tl) g := by
    rintro g ⟨b, hb, hk⟩
    obtain ⟨x, hx⟩ := Option.isSome_iff_exists.1 hb
    exact ⟨b, by simp [hlT b x hx], hk⟩
  have hmine : ∀ g, Live K (V ++ Tl) g → E.X0 g ∨ E.w0.heap.size ≤ g := fun g ⟨b, hb, hk⟩ => hs.mine b g hb hk
  have hlt : ∀ g, Live K (V ++ Tl) g → g < w.heap.size := fun g ⟨b, hb, hk⟩ => hs.live_lt hb hk
  have hext : ∀ w', Ext (Live K V) w w' → Ext E.X0 E.w0 w' := by
    intro w' hx
    refine ⟨hx.os.trans hs.ext.os, hx.tape.trans hs.ext.tape, hx.output.trans hs.ext.output, Nat.le_trans hs.ext.size hx.size, fun g hg hX => ?_, fun g cur e hc => ?_⟩
    · rw [hx.block g (Nat.lt_of_lt_of_le hg hs.ext.size) fun ho => ?_]
      · exact hs.ext.block g hg hX
      · rcases hmine g (hlV g ho) with h | h
        · exact hX h
        · omega
    · obtain ⟨c1, h1, s1⟩ := hs.ext.shape g cur e hc
      obtain ⟨c2, h2, s2⟩ := hx.shape g c1 e h1
      exact ⟨c2, h2, s2.trans s1⟩
  refine ⟨⟨Live K V, fun g => XX E K (V ++ Tl) g ∧ ¬ Live K V g, w, E.N, fun w' hx => E.hwi w' (hext w' hx), fun b => if Nat.ble 2 (b % 16) = true then K b else none, fun b x hx => by
    by_cases h : Nat.ble 2 (b % 16) = true
    · exact h
    · rw [if_neg h] at hx; exact (by cases hx), fun g h => h.2⟩, rfl, ?_, ?_⟩
  · have hX : ∀ g, g < w.heap.size → (Live K V g ∨ ((XX E K (V ++ Tl) g ∧ ¬ Live K V g) ∧ g < w.heap.size)) → XX E K (V ++ Tl) g := by
      rintro g _ (h | h)
      · exact .inl (hlV g h)
      · exact h.1.1
    refine ⟨hs.size, hs.defers, ⟨rfl, rfl, rfl, Nat.le_refl _, fun _ _ _ => rfl, fun _ cur _ h => ⟨cur, h, rfl⟩⟩, fun t => (hs.fr t).sub hX, fun b x hb => hs.rows b x (olk_app_l hb), fun b x hb => ?_,
      fun b b' g h1 h2 => ?_, fun b g h1 h2 => .inl ⟨b, h1, h2⟩, fun b x hx => ?_⟩
    · rcases hs.own b x (olk_app_l hb) with h | ⟨g, h1, h2⟩
      · exact .inl h
      · exact .inr ⟨g, h1, h2.keep rfl (Keep.refl _ _) hX (fun _ _ _ _ _ _ => rfl)⟩
    · obtain ⟨x, hx⟩ := Option.isSome_iff_exists.1 h1
      obtain ⟨y, hy⟩ := Option.isSome_iff_exists.1 h2
      exact hs.inj b b' g (by simp [olk_app_l hx]) (by simp [olk_app_l hy])
    · dsimp only at hx
      by_cases h : Nat.ble 2 (b % 16) = true
      · rw [if_pos h] at hx; exact hx
      · rw [if_neg h] at hx; cases hx
  · intro K' c' a' w' h
    have hpin : ∀ b x, Nat.ble 2 (b % 16) = true → K b = some x → K' b = some x := fun b x hb hx => h.pin b x (by dsimp only; rw [if_pos hb]; exact hx)
    have hnew : ∀ g, Live K' c'.O g → Live K V g ∨ w.heap.size ≤ g := fun g ⟨b, hb, hk⟩ => h.mine b g hb hk
    have hTK : ∀ b x, olk Tl b = some x → K' b = K b := by
      intro b x hb
      rcases hs.own b x (hlT b x hb) with ⟨k, _⟩ | ⟨g, k, _⟩
      · rw [k]; exact hpin b _ (hT b x hb).2 k
      · rw [k]; exact hpin b _ (hT b x hb).2 k
    have hTl : ∀ g, Live K' Tl g → Live K Tl g := by
      rintro g ⟨b, hb, hk⟩
      obtain ⟨x, hx⟩ := Option.isSome_iff_exists.1 hb
      exact ⟨b, hb, by rw [← blkOf_eq (hTK b x hx)]; exact hk⟩
    have hnV : ∀ b x g, olk Tl b = some x → blkOf K b = some g → ¬ Live K V g := by
      rintro b x g hb hk ⟨b', hb', hk'⟩
      obtain ⟨y, hy⟩ := Option.isSome_iff_exists.1 hb'
      have := hs.inj b' b g (by simp [olk_app_l hy]) (by simp [hlT b x hb]) hk' hk
      subst this
      rw [hd b' x hb] at hy; cases hy
    have hX' : ∀ g, XX E K' (c'.O ++ Tl) g → Live K' c'.O g ∨ ((XX E K (V ++ Tl) g ∧ ¬ Live K V g) ∧ g < w.heap.size) := by
      rintro g (hg | hg)
      · rcases Live_app hg with hg | hg
        · exact .inl hg
        · obtain ⟨b, hb, hk⟩ := hTl g hg
          obtain ⟨x, hx⟩ := Option.isSome_iff_exists.1 hb
          exact .inr ⟨⟨.inl (hlT' g ⟨b, hb, hk⟩), hnV b x g hx hk⟩, hlt g (hlT' g ⟨b, hb, hk⟩)⟩
      · refine .inr ⟨⟨.inr hg, fun hl => ?_⟩, Nat.lt_of_lt_of_le hg.2 hs.ext.size⟩
        rcases hmine g (hlV g hl) with h | h
        · exact E.hxf g hg.1 h
        · have := hg.2; omega
    have hkeep : Keep (XX E K (V ++ Tl)) w w' := ⟨h.ext.size, fun g hg hx => h.ext.block g hg fun hl => hx (.inl (hlV g hl)), h.ext.shape⟩
    have hX2 : ∀ g, g < w.heap.size → XX E K' (c'.O ++ Tl) g → XX E K (V ++ Tl) g := by
      intro g hg hx
      rcases hX' g hx with hl | hl
      · rcases hnew g hl with hl | hl
        · exact .inl (hlV g hl)
        · omega
      · exact hl.1.1
    refine ⟨⟨h.size, h.defers, hext w' h.ext, fun t => (h.fr t).sub fun g _ => hX' g, fun b x hb => ?_, fun b x hb => ?_, fun b b' g h1 h2 k1 k2 => ?_, fun b g h1 k1 => ?_, fun b x hx => ?_⟩, ⟨h.ext.size, h.ext.block, hpin, h.ext.shape⟩, hnew⟩
    · rcases olk_app_inv hb with hb | ⟨_, hb⟩
      · exact h.rows b x hb
      · exact hs.rows b x (hlT b x hb)
    · rcases olk_app_inv hb with hb | ⟨_, hb⟩
      · rcases h.own b x hb with k | ⟨g, k, k2⟩
        · exact .inl k
        · exact .inr ⟨g, k, k2.keep rfl (Keep.refl _ _) (fun g _ => hX' g) (fun _ _ _ _ _ _ => rfl)⟩
      · rcases hs.own b x (hlT b x hb) with k | ⟨g, k, k2⟩
        · exact .inl ⟨by rw [hTK b x hb]; exact k.1, k.2⟩
        · refine .inr ⟨g, by rw [hTK b x hb]; exact k, k2.keep (h.ext.block g (hlt g (hlT' g ⟨b, by simp [hb], blkOf_of k⟩)) (hnV b x g hb (blkOf_of k))) hkeep hX2 fun hk => ?_⟩
          rw [(hT b x hb).1] at hk; cases hk
    · obtain ⟨x, hx⟩ := Option.isSome_iff_exists.1 h1
      obtain ⟨y, hy⟩ := Option.isSome_iff_exists.1 h2
      have cross : ∀ {i j : Nat} {x y : OBlk}, olk c'.O i = some x → olk Tl j = some y → blkOf K' i = some g → blkOf K' j = some g → i = j := by
        intro i j x y hi hj ki kj
        rw [blkOf_eq (hTK j y hj)] at kj
        rcases hnew g ⟨i, by simp [hi], ki⟩ with hl | hl
        · exact (hnV j y g hj kj hl).elim
        · have := hlt g (hlT' g ⟨j, by simp [hj], kj⟩); omega
      rcases olk_app_inv hx with hx | ⟨_, hx⟩ <;> rcases olk_app_inv hy with hy | ⟨_, hy⟩
      · exact h.inj b b' g (by simp [hx]) (by simp [hy]) k1 k2
      · exact cross hx hy k1 k2
      · exact (cross hy hx k2 k1).symm
      · rw [blkOf_eq (hTK b x hx)] at k1
        rw [blkOf_eq (hTK b' y hy)] at k2
        exact hs.inj b b' g (by simp [hlT b x hx]) (by simp [hlT b' y hy]) k1 k2
    · obtain ⟨x, hx⟩ := Option.isSome_iff_exists.1 h1
      rcases olk_app_inv hx with hx | ⟨_, hx⟩
      · rcases hnew g ⟨b, by simp [hx], k1⟩ with hl | hl
        · exact hmine g (hlV g hl)
        · exact .inr (Nat.le_trans hs.ext.size hl)
      · rw [blkOf_eq (hTK b x hx)] at k1
        exact hmine g (hlT' g ⟨b, by simp [hx], k1⟩)
    · exact hpin b x (E.hpin b x hx) (hs.pin b x hx)
section
variable {P : Program} {T : Tab} {E : Env} {N : Nat} {ks : List Nat} {K : KM} {fr : List (Nat × AV)} {V Tl : List (Nat × OBlk)} {a : Act} {w : World}
/-- some operations of a region in the text's order -/
theorem evOps_part {ops : Array Oper} {dr : Bool} {dm : List (Nat × Bool)} (hT : TabOK P T) (h1 : TabOne T = true) (hN : E.N = N) {Kk : Cfg → Prop} {Q : Exit → Act → World → Prop} {is : List Nat} (hQ : ∀ c a w, Kk c → SR E c a w → wpOps P ops Q is a w) :
    ∀ (l : List Oper) (A : Acc) (i : Nat) (c : Cfg) (a : Act) (w : World), (∀ j, j < l.length → l[j]? = ops[i + j]?) → evOps dr P T N dm ops A i l c Kk → SR E c a w → wpOps P ops Q (List.range' i l.length ++ is) a w
  | [], A, i, c, a, w, _, h, hs => hQ c a w h hs
  | o :: rest, A, i, c, a, w, hl, h, hs => by
    obtain ⟨r, hst, _, hrest⟩ := evOps_cons h
    have ho : ops[i]? = some o := by have := hl 0 (by simp); simpa using this.symm
    rw [List.length_cons, List.range'_succ, List.cons_append, wpOps_cons]
    refine wpOp_mono (fun a' w' hs' => ?_) (step_sound hT h1 hN ho hst hs)
    exact evOps_part hT h1 hN hQ rest _ (i + 1) _ a' w' (fun j hj => by have := hl (j + 1) (by simp; omega); rw [List.getElem?_cons_succ] at this; rw [this]; congr 1; omega) hrest hs'
end
end Go.Abs
end
section
namespace Go.Abs
open Go.RowKit
set_option linter.unusedVariables false
section
variable {P : Program} {T : Tab} {E : Env} {N : Nat} {K : KM} {c : Cfg} {a : Act} {w : World} {ops : Array Oper} {o : Oper} {Q : Exit → Act → World → Prop} {K' : Act → World → Prop}
end
/-! ### evaluations in parts: blocks and loops -/
section
variable {P : Program} {T : Tab} {N : Nat} {ks : List Nat}
theorem SemA.mono {code : Code} {c : Cfg} {Q Q1 : Ex → Cfg → Prop} (h : SemA P N code c Q) (hq : ∀ e c, Q e c → Q1 e c) : SemA P N code c Q1 :=
  fun E hN Q' a w hQ hs => h E hN Q' a w (fun e c a w hc hs => hQ e c a w (hq e c hc) hs) hs
theorem SemA.wk {code : Code} {c c' : Cfg} {Q : Ex → Cfg → Prop} (hw : Wk c c') (h : SemA P N code c' Q) : SemA P N code c Q :=
  fun E hN Q' a w hQ hs => h E hN Q' a w hQ (hw E a w hs)
theorem SemA.block {id : Nat} {b : Code} {c : Cfg} {Q : Ex → Cfg → Prop} (h : SemA P N b c fun e c' => match e with | .exit id' => if id' = id then Q .normal c' else Q (.exit id') c' | e => Q e c') : SemA P N (.block id b) c Q := by
  intro E hN Q' a w hQ hs
  refine wp_block (h E hN _ a w (fun e c a w hq hs => ?_) hs)
  cases e with
  | normal => exact hQ _ c a w hq hs
  | exit id' =>
    simp only [Ex.toExit, Exit.inBlock]
    dsimp only at hq
    split at hq
    · rename_i he; rw [if_pos he]; exact hQ .normal c a w hq hs
    · rename_i he; rw [if_neg he]; exact hQ (.exit id') c a w hq hs
  | ret => exact hQ _ c a w hq hs
theorem SemA.loop {b : Code} {c : Cfg} {Q : Ex → Cfg → Prop} (I : Nat → Cfg → Prop) (h0 : ∃ n c', Wk c c' ∧ I n c') (hr : ∀ n c, I n c → SemA P N b c fun e c' => match e with | .normal => ∃ m c'', Wk c' c'' ∧ m < n ∧ I m c'' | e => Q e c') : SemA P N (.loop b) c Q := by
  intro E hN Q' a w hQ hs
  obtain ⟨n, c', hw, hI⟩ := h0
  refine wp_loop_ghost (fun n a w => ∃ c, I n c ∧ SR E c a w) n ⟨c', hI, hw E a w hs⟩ ?_
  rintro n a w ⟨c, hI, hs⟩
  refine hr n c hI E hN _ a w (fun e c a w hq hs => ?_) hs
  cases e with
  | normal =>
    obtain ⟨m, c'', hw, hlt, hI'⟩ := hq
    exact ⟨m, hlt, c'', hI', hw E a w hs⟩
  | exit id => exact hQ _ c a w hq hs
  | ret => exact hQ _ c a w hq hs
end
end Go.Abs
end
section
namespace Go.Abs
open Go.RowKit
set_option linter.unusedVariables false
/-! ### a slice of slices of one's own: the inner blocks are a family -/
/-- the id of a family's j-th member -/
def fid (j : Nat) : Nat := 16 * j + 15
theorem fid_ble (j : Nat) : Nat.ble 2 (fid j % 16) = true := by
  have : fid j % 16 = 15 := by unfold fid; omega
  rw [this]; rfl
def expF (e sz : Nat) : Nat → List (List (List AV)) → List (Nat × OBlk)
  | _, [] => []
  | i, t :: T => (fid i, ⟨e, sz, .pure, t, []⟩) :: expF e sz (i + 1) T
abbrev fam (e sz : Nat) (T : List (List (List AV))) : List (Nat × OBlk) := expF e sz 0 T
/-- an explicit list without ids of the family -/
def noFid : List (Nat × OBlk) → Bool
  | [] => true
  | (b, _) :: r => !(Nat.beq (b % 16) 15) && noFid r
def lits (us : List Value) : List (List AV) := us.map fun v => [.lit v]
theorem lits_len (us : List Value) : (lits us).length = us.length := by simp [lits]
theorem lits_row (us : List Value) : ∀ row ∈ lits us, row.length = 1 := by
  intro row h; obtain ⟨v, _, rfl⟩ := List.mem_map.1 h; rfl
theorem one_flat : ∀ {rows : List (List AV)} {j : Nat} {u : AV}, (∀ row ∈ rows, row.length = 1) → (rows.flatten[j]? = some u ↔ rows[j]? = some [u])
  | [], j, u, _ => by simp
  | [y] :: rows, 0, u, _ => by simp
  | [y] :: rows, j + 1, u, h => by
    have := one_flat (rows := rows) (j := j) (u := u) fun row hr => h row (by simp [hr])
    simpa using this
  | [] :: rows, j, u, h => by have := h [] (by simp); simp at this
  | (y :: z :: r) :: rows, j, u, h => by have := h (y :: z :: r) (by simp); simp at this
/-- the values in the outer slice lead to the family's blocks -/
def LitF (w : World) (K : KM) (sz : Nat) (us : List Value) (T : List (List (List AV))) : Prop :=
  ∀ j t, T[j]? = some t → ∃ v, us[j]? = some v ∧ VR w (fun _ => True) K (.osl (fid j) sz t.length) v
theorem LitF.len {w : World} {K : KM} {sz : Nat} {us : List Value} {T : List (List (List AV))} (h : LitF w K sz us T) : T.length ≤ us.length := by
  rcases Nat.eq_zero_or_pos T.length with h0 | h0
  · omega
  · obtain ⟨t, ht⟩ : ∃ t, T[T.length - 1]? = some t := ⟨T[T.length - 1], by simp⟩
    obtain ⟨v, hv, _⟩ := h _ t ht
    have := (List.getElem?_eq_some_iff.1 hv).1
    omega
theorem LitF.keep {w w' : World} {K K' : KM} {sz : Nat} {us : List Value} {T : List (List (List AV))} {X : Nat → Prop} (h : LitF w K sz us T) (hk : Keep X w w') (hK : ∀ j, K' (fid j) = K (fid j)) : LitF w' K' sz us T := by
  intro j t ht
  obtain ⟨v, hv, h1⟩ := h j t ht
  exact ⟨v, hv, h1.keep (hk.mono fun _ _ _ => trivial) (fun _ _ h => h) fun b hb => by
    simp [AV.has] at hb; subst hb; exact hK j⟩
theorem LitF.left {w w' : World} {K K' : KM} {sz : Nat} {us : List Value} {T : List (List (List AV))} {V : List (Nat × OBlk)} (h : LitF w K sz us T) (hl : Left K V w K' w') : LitF w' K' sz us T := by
  intro j t ht
  obtain ⟨v, hv, h1⟩ := h j t ht
  refine ⟨v, hv, ?_⟩
  have hK : K' (fid j) = K (fid j) := by
    rcases VR.osl_inv h1 with ⟨h2, _⟩ | ⟨g, cap, cur, e, m, h2, _⟩
    · rw [h2]; exact hl.pin _ _ (fid_ble j) h2
    · rw [h2]; exact hl.pin _ _ (fid_ble j) h2
  exact h1.keep (X' := fun _ => True) ⟨hl.size, fun g hg hx => (hx trivial).elim, hl.shape⟩ (fun _ _ h => h) fun b hb => by
    simp [AV.has] at hb; subst hb; exact hK
theorem VR.osl_id {w : World} {X X' : Nat → Prop} {K K' : KM} {b b' sz n : Nat} {v : Value} (h : VR w X K (.osl b sz n) v) (hK : K' b' = K b) : VR w X' K' (.osl b' sz n) v := by
  rcases VR.osl_inv h with ⟨h1, rfl, rfl⟩ | ⟨g, cap, cur, e, m, h1, h2, rfl, h3, h4, h5, h6⟩
  · exact .oslnil (hK.trans h1)
  · exact .osl (hK.trans h1) h2 h3 h4 h5 h6
section
variable {E : Env} {K : KM} {c : Cfg} {a : Act} {w : World} {fr : List (Nat × AV)} {V : List (Nat × OBlk)}
theorem SRK.congrO {O O' : List (Nat × OBlk)} (h : SRK E K ⟨fr, O⟩ a w) (hO : ∀ b, olk O' b = olk O b) : SRK E K ⟨fr, O'⟩ a w :=
  h.weak (fun t => .inl rfl) fun b x hb => by rw [← hO b]; exact hb
end
end Go.Abs
end
section
namespace Go.Abs
open Go.RowKit
set_option linter.unusedVariables false
section
variable {E : Env} {K : KM} {c : Cfg} {a : Act} {w : World} {fr : List (Nat × AV)} {V : List (Nat × OBlk)} {e sz eo o : Nat} {us : List Value} {T : List (List (List AV))}
/-- a block's entry is said anew -/
theorem SRK.recast {b : Nat} {blk blk0 : OBlk} (h : SRK E K c a w) (hb : olk c.O b = some blk0) (hne : blk0.rows ≠ []) (hlen : blk.rows.length = blk0.rows.length) (hrows : ∀ row ∈ blk.rows, row.length = blk.sz)
    (hblk : ∀ g, blkOf K b = some g → BlkR w (XX E K c.O) K g blk0 → BlkR w (XX E K c.O) K g blk) : SRK E K ⟨c.fr, setO b blk c.O⟩ a w := by
  rcases h.own b blk0 hb with ⟨_, h2⟩ | ⟨g, h1, h2⟩
  · exact absurd h2 hne
  · exact h.write hb (blkOf_of h1) hlen (Step.refl _ _) hrows (hblk g (blkOf_of h1) h2)
theorem lits_at {k : Nat} {v : Value} : (lits us)[k]? = some [.lit v] ↔ us[k]? = some v := by
  simp [lits]
end
end Go.Abs
end
section
namespace Go.Abs
open Go.RowKit
set_option linter.unusedVariables false
section
variable {E : Env} {K : KM} {c : Cfg} {a : Act} {w : World} {fr : List (Nat × AV)} {V : List (Nat × OBlk)} {e sz eo o : Nat} {us : List Value} {T : List (List (List AV))}
def nilS : Value := .slice none 0 0
/-- a row of the nil slice is a literal -/
def toLit : List AV → Value
  | [.lit v] => v
  | _ => nilS
def litOrNil : List AV → Bool
  | [.lit _] => true
  | [.nilsl] => true
  | _ => false
theorem SRK.lits {O : List (Nat × OBlk)} {rows : List (List AV)} (hs : SRK E K ⟨fr, O⟩ a w) (ho : olk O o = some ⟨eo, 1, .pure, rows, []⟩) (hr : ∀ row ∈ rows, litOrNil row = true) : SRK E K ⟨fr, setO o ⟨eo, 1, .pure, lits (rows.map toLit), []⟩ O⟩ a w := by
  by_cases hne : rows = []
  · subst hne
    refine hs.congrO fun b => ?_
    rw [olk_setO]
    split
    · rename_i h; subst h; exact ho.symm
    · rfl
  · refine hs.recast ho hne (by simp [Abs.lits]) (lits_row _) fun g _ hB => ?_
    obtain ⟨cur, hc, hu⟩ := hB
    have hrows : ∀ row ∈ rows, row.length = 1 := hs.rows o _ ho
    refine ⟨cur, hc, fun j u hj => ?_⟩
    rw [one_flat (lits_row _)] at hj
    have hjl : j < rows.length := by
      have := (List.getElem?_eq_some_iff.1 hj).1
      rw [lits_len, List.length_map] at this; exact this
    obtain ⟨row, hrow⟩ : ∃ row, rows[j]? = some row := ⟨rows[j], by simp⟩
    have hm := hr row (List.mem_of_getElem? hrow)
    rw [lits_at.2 (show (rows.map toLit)[j]? = some (toLit row) by simp [hrow])] at hj
    injection hj with hj; injection hj with hj; subst hj
    unfold litOrNil at hm
    split at hm
    · rename_i v
      obtain ⟨z, hz, h1, h2⟩ := hu j _ ((one_flat hrows).2 hrow)
      cases h2
      exact ⟨_, hz, h1, .lit⟩
    · obtain ⟨z, hz, h1, h2⟩ := hu j _ ((one_flat hrows).2 hrow)
      have := VR.nilsl_inv h2
      subst this
      exact ⟨_, hz, h1, .lit⟩
    · cases hm
end
end Go.Abs
end
section
namespace Go.Abs
open Go.RowKit
set_option linter.unusedVariables false
section
variable {P : Program} {N : Nat}
/-- how a body ends -/
def EndW (T : Tab) (rv : List ResultVar) (r : AV) (E : Env) : Exit → Act → World → Prop := fun e a w => (e = .normal ∨ e = .ret) ∧ ∃ K c, SRK E K c a w ∧ retR T c rv r
/-- the rule of a function, from its body's run -/
theorem fn_ofW {T : Tab} {f : FuncId} {fn : Func} {code : Code} {args : List AV} {r : AV} (rv : List ResultVar) (hT : TabOK P T)
    (hf : P.funcs[f]? = some fn) (hb : fn.body = some code) (hname : (fn.name == "runtime.NumGoroutine") = false) (hn : Nat.ble args.length fn.ntmps = true) (hN : fn.ntmps = N)
    (hr : fn.results.toList = rv) (h : ∀ (E : Env) (K : KM) (a : Act) (w : World), E.N = N → (∀ b, E.pin b = none) → SRK E K ⟨idx 0 args, []⟩ a w → code.wp P (EndW T rv r E) a w) : Fn P f args r := by
  refine ⟨⟨fn, hf, hname, by rw [hb]; rfl⟩, fun X w vs hwi hlen hargs => ?_⟩
  refine calls_of_wp hf hb ?_
  have hn' := Nat.le_of_ble_eq_true hn
  subst hN
  refine wp_mono (h (Env0 (fun _ => False) X w fn.ntmps (fun w' hx => hwi.mono hx.size fun g hg => hx.block g hg id)) K0 _ _ rfl (fun _ => rfl) ?_) ?_
  · refine ⟨by simp; omega, rfl, ⟨rfl, rfl, rfl, Nat.le_refl _, fun _ _ _ => rfl, fun _ cur _ h => ⟨cur, h, rfl⟩⟩, fun t => ?_, fun b blk hb => by simp [olk] at hb, fun b blk hb => by simp [olk] at hb, fun b b' g hb => by simp [olk] at hb, fun b g hb => by simp [olk] at hb, fun b x hx => by cases hx⟩
    simp only [lk_idx, Nat.zero_le, if_true, Nat.sub_zero]
    cases hu : args[t]? with
    | none => rw [List.getD_eq_getElem?_getD, hu]; exact FV.top
    | some u =>
      rw [List.getD_eq_getElem?_getD, hu]
      have ht : t < vs.size := by rw [← hlen]; exact (List.getElem?_eq_some_iff.1 hu).1
      have hv : vs[t]? = some vs[t] := by simp [ht]
      have := hargs t u _ hu hv
      rw [show (vs ++ Array.replicate (fn.ntmps - vs.size) undef).getD t undef = vs[t] by
        rw [Array.getD_eq_getD_getElem?, Array.getElem?_append_left ht, hv]; rfl]
      refine FV.of (this.sub fun g hg hX => ?_)
      rcases hX with ⟨b, hb, _⟩ | hX
      · simp [olk] at hb
      · exact hX.1.1
  · rintro e a w' ⟨he, K, c, hs, hq⟩
    have key : a.defers = [] ∧ ∃ v, (results fn a.tmps).run P w' = .ok v w' ∧ ∃ v', Ending.returned v = .returned v' ∧ RR w' w.heap.size (fun g => X g ∧ g < w.heap.size) r v' ∧ Below w.heap.size w w' := by
      obtain ⟨vs, hl, ht, hR⟩ := retR_sound hT hs hq
      refine ⟨hs.defers, _, results_run hr _ _ hl ht, _, rfl, hR, ?_⟩
      exact ⟨hs.ext.os, hs.ext.tape, hs.ext.output, hs.ext.size, fun k hk => hs.ext.block k hk (fun h => h)⟩
    rcases he with rfl | rfl
    · exact key
    · exact key
end
theorem SRK.only {E : Env} {K : KM} {c : Cfg} {a : Act} {w : World} (h : SRK E K c a w) (ks ids : List Nat) : SRK E K (c.only ks ids) a w :=
  h.weak (fun t => lk_keep c.fr ks t) fun b x hb => olk_keep c.O ids b x hb
end Go.Abs
end
section
namespace Go.Abs
open Go.RowKit
set_option linter.unusedVariables false
/-! ### ids of a family are in no explicit value -/
def nf (b : Nat) : Bool := !(Nat.beq (b % 16) 15)
mutual
def AV.noF : AV → Bool
  | .osl b _ _ => nf b
  | .optr b _ _ _ => nf b
  | .osuf b _ _ _ => nf b
  | .ovar b _ => nf b
  | .omap b => nf b
  | .agg xs => AV.noFL xs
  | .tup xs => AV.noFL xs
  | .func _ xs => AV.noFL xs
  | .opt _ _ v => AV.noF v
  | _ => true
def AV.noFL : List AV → Bool
  | [] => true
  | u :: us => AV.noF u && AV.noFL us
end
theorem nf_fid {b j : Nat} (h : nf b = true) : (b == fid j) = false := by
  simp only [nf, Bool.not_eq_true'] at h
  have := beq_false h
  simp only [beq_eq_false_iff_ne]
  rintro rfl
  exact this (by unfold fid; omega)
mutual
theorem has_noF (j : Nat) : ∀ u : AV, u.noF = true → u.has (fid j) = false
  | .osl b _ _, h => nf_fid h
  | .optr b _ _ _, h => nf_fid h
  | .osuf b _ _ _, h => nf_fid h
  | .ovar b _, h => nf_fid h
  | .omap b, h => nf_fid h
  | .agg xs, h => hasL_noF j xs h
  | .tup xs, h => hasL_noF j xs h
  | .func _ xs, h => hasL_noF j xs h
  | .opt _ _ v, h => has_noF j v h
  | .top, _ => rfl
  | .bool _, _ => rfl
  | .int _ _, _ => rfl
  | .str _, _ => rfl
  | .nilsl, _ => rfl
  | .nilfn, _ => rfl
  | .esl, _ => rfl
  | .und, _ => rfl
  | .lit _, _ => rfl
  | .rsl _ _ _, _ => rfl
  | .rptr _ _, _ => rfl
  | .rmap _ _ _ _, _ => rfl
  | .itr, _ => rfl
  | .fsl _ _ _ _ _, _ => rfl
theorem hasL_noF (j : Nat) : ∀ xs : List AV, AV.noFL xs = true → AV.hasL (fid j) xs = false
  | [], _ => rfl
  | x :: xs, h => by
    simp only [AV.noFL, Bool.and_eq_true] at h
    simp only [AV.hasL, has_noF j x h.1, hasL_noF j xs h.2, Bool.or_self]
end
def noFF : List (Nat × AV) → Bool
  | [] => true
  | (_, v) :: r => v.noF && noFF r
def noFR : List (List AV) → Bool
  | [] => true
  | r :: rs => AV.noFL r && noFR rs
/-- every block but o that may hold ids holds none of the family's -/
def noFO (o : Nat) : List (Nat × OBlk) → Bool
  | [] => true
  | (b, blk) :: r => (match Nat.beq b o with
    | true => true
    | false => match blk.kd with
      | .any => noFR blk.rows
      | _ => true) && noFO o r
end Go.Abs
namespace Go.Abs
/-! ### checks over rows that are not spelt out -/
end Go.Abs
namespace Go.Abs
open Go.RowKit
section
variable {E : Env} {K : KM} {a : Act} {w : World} {fr : List (Nat × AV)} {V : List (Nat × OBlk)} {e sz eo o : Nat} {us : List Value} {T : List (List (List AV))}
end
end Go.Abs
namespace Go.Abs
theorem LitF.app {w : World} {K : KM} {sz : Nat} {us : List Value} {T : List (List (List AV))} (h : LitF w K sz us T) (xs : List Value) : LitF w K sz (us ++ xs) T := by
  intro j t ht
  obtain ⟨v, hv, h1⟩ := h j t ht
  exact ⟨v, by rw [List.getElem?_append_left (List.getElem?_eq_some_iff.1 hv).1]; exact hv, h1⟩
end Go.Abs
namespace Go.Abs
end Go.Abs
end
section
namespace Go.Abs
open Go.RowKit
set_option linter.unusedVariables false
section
variable {E : Env} {K : KM} {c : Cfg} {a : Act} {w : World} {fr : List (Nat × AV)} {V : List (Nat × OBlk)} {e sz eo o : Nat} {us : List Value} {T : List (List (List AV))}
end
end Go.Abs
namespace Go.Abs
open Go.RowKit
section
variable {E : Env} {K : KM} {c : Cfg} {a : Act} {w : World} {fr : List (Nat × AV)} {V : List (Nat × OBlk)}
/-- a block's entry is said anew, with the same rows -/
theorem SRK.recastK {b : Nat} {blk blk0 : OBlk} (h : SRK E K c a w) (hb : olk c.O b = some blk0) (hr : blk.rows = blk0.rows) (hsz : blk.sz = blk0.sz)
    (hblk : ∀ g, BlkR w (XX E K c.O) K g blk0 → BlkR w (XX E K c.O) K g blk) : SRK E K ⟨c.fr, setO b blk c.O⟩ a w := by
  have hsome : ∀ i, (olk (setO b blk c.O) i).isSome = true → (olk c.O i).isSome = true := by
    intro i hi
    rw [olk_setO] at hi
    split at hi
    · rename_i e; subst e; rw [hb]; rfl
    · exact hi
  have hX : ∀ r, XX E K (setO b blk c.O) r → XX E K c.O r := by
    rintro r (⟨i, hi, hk⟩ | hx)
    · exact .inl ⟨i, hsome i hi, hk⟩
    · exact .inr hx
  refine ⟨h.size, h.defers, h.ext, fun t => (h.fr t).sub (fun g _ => hX g), fun i x hi => ?_, fun i x hi => ?_, fun i i' r h1 h2 => h.inj i i' r (hsome i h1) (hsome i' h2), fun i r h1 => h.mine i r (hsome i h1), h.pin⟩
  · simp only [olk_setO] at hi
    split at hi
    · injection hi with hi; subst hi
      rw [hr, hsz]; exact h.rows b blk0 hb
    · exact h.rows i x hi
  · simp only [olk_setO] at hi
    split at hi
    · rename_i e; subst e
      injection hi with hi; subst hi
      rcases h.own b blk0 hb with ⟨h1, h2⟩ | ⟨g, h1, h2⟩
      · exact .inl ⟨h1, by rw [hr]; exact h2⟩
      · exact .inr ⟨g, by rw [hr]; exact h1, (hblk g h2).keep rfl (Keep.refl _ _) (fun g _ => hX g) (fun _ _ _ _ _ _ => rfl)⟩
    · rcases h.own i x hi with h1 | ⟨g, h1, h2⟩
      · exact .inl h1
      · exact .inr ⟨g, h1, h2.keep rfl (Keep.refl _ _) (fun g _ => hX g) (fun _ _ _ _ _ _ => rfl)⟩
end
theorem LitF.keepK {w : World} {K K' : KM} {sz : Nat} {us : List Value} {T : List (List (List AV))} (h : LitF w K sz us T) (hK : ∀ j, K' (fid j) = K (fid j)) : LitF w K' sz us T := fun j t ht => by
  obtain ⟨v, hv, h1⟩ := h j t ht
  exact ⟨v, hv, h1.osl_id (hK j)⟩
end Go.Abs
namespace Go.Abs
end Go.Abs
end
section
namespace Go.Abs
open Go.RowKit
set_option linter.unusedVariables false
/-! ### functions that bind blocks anew that are handed over -/
def FnT (P : Program) (f : FuncId) (args : List AV) (O : List (Nat × OBlk)) (pins : List Nat) (Pre : World → KM → Prop) (Post : World → KM → List (Nat × OBlk) → AV → Prop) : Prop :=
  Head P f ∧ ∀ (XF : Nat → Prop) (w : World) (K : KM) (vs : Array Value), (∀ w', Ext (Live K O) w w' → WI w') → (∀ g, XF g → ¬ Live K O g ∧ g < w.heap.size) → OwnR w (fun g => Live K O g ∨ XF g) K O → args.length = vs.size →
    (∀ (j : Nat) u c, args[j]? = some u → vs[j]? = some c → VR w (fun g => Live K O g ∨ XF g) K u c) → Pre w K →
    Calls P f vs w fun e w' => ∃ v K' O' r, e = .returned v ∧ Post w' K' O' r ∧ VR w' (fun _ => True) K0 r v ∧ r.scalar = true ∧ (∀ b, memN b pins = true → K' b = K b) ∧ OwnR w' (fun g => Live K' O' g ∨ XF g) K' O' ∧ (∀ g, Live K' O' g → Live K O g ∨ w.heap.size ≤ g) ∧ Ext (Live K O) w w'
section
variable {P : Program} {N : Nat}
def EndT (t : Nat) (E : Env) (Post : World → KM → List (Nat × OBlk) → AV → Prop) : Exit → Act → World → Prop := fun e a w => (e = .normal ∨ e = .ret) ∧ ∃ K c, SRK E K c a w ∧ (lk c.fr t).scalar = true ∧ Post w K c.O (lk c.fr t)
/-- what a call of such a function leaves -/
theorem SRK.callT {E : Env} {K K' : KM} {fr : List (Nat × AV)} {O O' : List (Nat × OBlk)} {a : Act} {w w' : World} {pins : List Nat} (h : SRK E K ⟨fr, O⟩ a w)
    (hK : ∀ b, memN b pins = true → K' b = K b) (hown : OwnR w' (fun g => Live K' O' g ∨ (E.XF g ∧ g < E.w0.heap.size)) K' O') (hl : ∀ g, Live K' O' g → Live K O g ∨ w.heap.size ≤ g) (hx : Ext (Live K O) w w')
    (hfr : ∀ t b, (lk fr t).has b = true → memN b pins = true) (hpin : ∀ b, memN b pins = false → E.pin b = none) : SRK E K' ⟨fr, O'⟩ a w' := by
  have hmine : ∀ g, Live K O g → E.X0 g ∨ E.w0.heap.size ≤ g := fun g ⟨b, hb, hk⟩ => h.mine b g hb hk
  have hX : ∀ g, g < w.heap.size → XX E K' O' g → XX E K O g := by
    rintro g hg (hL | hL)
    · rcases hl g hL with h1 | h1
      · exact .inl h1
      · omega
    · exact .inr hL
  have hkeep : Keep (XX E K O) w w' := ⟨hx.size, fun g hg hn => hx.block g hg fun hL => hn (.inl hL), hx.shape⟩
  refine ⟨h.size, h.defers, ⟨hx.os.trans h.ext.os, hx.tape.trans h.ext.tape, hx.output.trans h.ext.output, Nat.le_trans h.ext.size hx.size, fun g hg hX => ?_, fun g cur e hc => ?_⟩, fun t => (h.fr t).keep hkeep hX fun b hb => hK b (hfr t b hb), hown.rows, hown.own, hown.inj, fun b g h1 k1 => ?_, fun b x hb => ?_⟩
  · rw [hx.block g (Nat.lt_of_lt_of_le hg h.ext.size) fun hL => ?_]
    · exact h.ext.block g hg hX
    · rcases hmine g hL with h1 | h1
      · exact hX h1
      · omega
  · obtain ⟨c1, h1, s1⟩ := h.ext.shape g cur e hc
    obtain ⟨c2, h2, s2⟩ := hx.shape g c1 e h1
    exact ⟨c2, h2, s2.trans s1⟩
  · rcases hl g ⟨b, h1, k1⟩ with h2 | h2
    · exact hmine g h2
    · exact .inr (Nat.le_trans h.ext.size h2)
  · have hm : memN b pins = true := by
      cases hq : memN b pins with
      | true => rfl
      | false => rw [hpin b hq] at hb; cases hb
    rw [hK b hm]
    exact h.pin b x hb
end
end Go.Abs
namespace Go.Abs
mutual
/-- no id but these -/
def AV.inP (ps : List Nat) : AV → Bool
  | .osl b _ _ => memN b ps
  | .optr b _ _ _ => memN b ps
  | .osuf b _ _ _ => memN b ps
  | .ovar b _ => memN b ps
  | .omap b => memN b ps
  | .agg xs => AV.inPL ps xs
  | .tup xs => AV.inPL ps xs
  | .func _ xs => AV.inPL ps xs
  | .opt _ _ v => AV.inP ps v
  | _ => true
def AV.inPL (ps : List Nat) : List AV → Bool
  | [] => true
  | u :: us => AV.inP ps u && AV.inPL ps us
end
mutual
theorem has_inP {ps : List Nat} {b : Nat} : ∀ u : AV, u.inP ps = true → u.has b = true → memN b ps = true
  | .osl b' _ _, h, hb => by simp only [AV.has, beq_iff_eq] at hb; subst hb; exact h
  | .optr b' _ _ _, h, hb => by simp only [AV.has, beq_iff_eq] at hb; subst hb; exact h
  | .osuf b' _ _ _, h, hb => by simp only [AV.has, beq_iff_eq] at hb; subst hb; exact h
  | .ovar b' _, h, hb => by simp only [AV.has, beq_iff_eq] at hb; subst hb; exact h
  | .omap b', h, hb => by simp only [AV.has, beq_iff_eq] at hb; subst hb; exact h
  | .agg xs, h, hb => hasL_inP xs h hb
  | .tup xs, h, hb => hasL_inP xs h hb
  | .func _ xs, h, hb => hasL_inP xs h hb
  | .opt _ _ v, h, hb => has_inP v h hb
  | .top, _, hb => by cases hb
  | .bool _, _, hb => by cases hb
  | .int _ _, _, hb => by cases hb
  | .str _, _, hb => by cases hb
  | .nilsl, _, hb => by cases hb
  | .nilfn, _, hb => by cases hb
  | .esl, _, hb => by cases hb
  | .und, _, hb => by cases hb
  | .lit _, _, hb => by cases hb
  | .rsl _ _ _, _, hb => by cases hb
  | .rptr _ _, _, hb => by cases hb
  | .rmap _ _ _ _, _, hb => by cases hb
  | .itr, _, hb => by cases hb
  | .fsl _ _ _ _ _, _, hb => by cases hb
theorem hasL_inP {ps : List Nat} {b : Nat} : ∀ xs : List AV, AV.inPL ps xs = true → AV.hasL b xs = true → memN b ps = true
  | [], _, hb => by cases hb
  | x :: xs, h, hb => by
    simp only [AV.inPL, Bool.and_eq_true] at h
    simp only [AV.hasL, Bool.or_eq_true] at hb
    rcases hb with hb | hb
    · exact has_inP x h.1 hb
    · exact hasL_inP xs h.2 hb
end
def inPF (ps : List Nat) : List (Nat × AV) → Bool
  | [] => true
  | (_, v) :: r => v.inP ps && inPF ps r
theorem inPF_lk {ps : List Nat} : ∀ {fr : List (Nat × AV)}, inPF ps fr = true → ∀ t b, (lk fr t).has b = true → memN b ps = true
  | [], _, t, b, h => by simp [lk, AV.has] at h
  | (s, v) :: r, hf, t, b, h => by
    simp only [inPF, Bool.and_eq_true] at hf
    rw [lk_cons] at h
    split at h
    · exact has_inP v hf.1 h
    · exact inPF_lk hf.2 t b h
def noOptL : List AV → Bool
  | [] => true
  | u :: us => notOpt u && noOptL us
theorem noOptL_get : ∀ {us : List AV}, noOptL us = true → ∀ u ∈ us, ∀ d want u', u ≠ .opt d want u'
  | x :: xs, h, u, hu, d, want, u', e => by
    simp only [noOptL, Bool.and_eq_true] at h
    rcases List.mem_cons.1 hu with rfl | hu
    · subst e; cases h.1
    · exact noOptL_get h.2 u hu d want u' e
end Go.Abs
namespace Go.Abs
theorem wanted_no' {ops : Array Oper} {o : Oper} {tm : Array Value} (hg : o.guard = none) : Region.wanted o (yielded ops tm) = true := by
  simp [Region.wanted, hg]
end Go.Abs
namespace Go.Abs
end Go.Abs
end
section
namespace Go.Abs
open Go.RowKit
set_option linter.unusedVariables false
/-! ### functions that bind blocks anew that are handed over -/
def FnV (P : Program) (f : FuncId) (args : List AV) (O : List (Nat × OBlk)) (pins : List Nat) (Pre : World → KM → Prop) (Post : World → KM → List (Nat × OBlk) → Prop) : Prop :=
  Head P f ∧ ∀ (XF : Nat → Prop) (w : World) (K : KM) (vs : Array Value), (∀ w', Ext (Live K O) w w' → WI w') → (∀ g, XF g → ¬ Live K O g ∧ g < w.heap.size) → OwnR w (fun g => Live K O g ∨ XF g) K O → args.length = vs.size →
    (∀ (j : Nat) u c, args[j]? = some u → vs[j]? = some c → VR w (fun g => Live K O g ∨ XF g) K u c) → Pre w K →
    Calls P f vs w fun e w' => ∃ v K' O', e = .returned v ∧ Post w' K' O' ∧ (∀ b, memN b pins = true → K' b = K b) ∧ OwnR w' (fun g => Live K' O' g ∨ XF g) K' O' ∧ (∀ g, Live K' O' g → Live K O g ∨ w.heap.size ≤ g) ∧ Ext (Live K O) w w'
section
variable {P : Program} {N : Nat}
def EndV (E : Env) (Post : World → KM → List (Nat × OBlk) → Prop) : Exit → Act → World → Prop := fun e a w => (e = .normal ∨ e = .ret) ∧ ∃ K c, SRK E K c a w ∧ Post w K c.O
end
end Go.Abs
end
