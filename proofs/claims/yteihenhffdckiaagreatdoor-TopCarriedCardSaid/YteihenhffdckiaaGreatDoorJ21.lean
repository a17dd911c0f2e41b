import Derived.Test.YteihenhffdckiaaGreatDoorJ20
section
namespace Go.Abs.Ltop
open Go Go.Abs Go.Proofs
set_option linter.unusedVariables false
set_option maxRecDepth 20000
/-- an event of a kind that has just so many numbers, and no flag -/
theorem c55 (e : Ev) (k : Nat) (f : FuncId) (hk : mget (I e.kind) kindL = some [I k, I 0, B false, I (-1), .func f []]) (hn : e.nums.length = k) (hs : k ≤ 10) :
    Fn Tryz.prog 55 [.agg (encEv e)] (.tup [.agg [I k, I 0, B false, I (-1), .func f []], B true]) := by
  refine mk55 rfl ⟨_, c99, true, _, hk, ?_⟩
  refine ⟨[(2, false), (10, false), (16, false), (21, false)], rfl, rfl, by simp [hn], by simp [hn], fun h => ?_, fun _ => ?_⟩
  · revert h; simp [hn]
  · exact ⟨[(4, true)], rfl, _, _, rfl, ⟨rfl, rfl⟩, rfl, rfl, trivial⟩
/-! ### a step -/
abbrev evM (id day b s : Int) : Ev := ⟨id, day, 52, [b, 1, s]⟩
theorem c28 (u : Us) (n : Nat) (rows : List (List AV)) (id : Int) (hch : u.ch = 0) (hm : MsOK u.ms) (hb : u.bs.length ≤ 1000) (hl : u.ls.length ≤ 1000) (hq : u.qs.length ≤ 2000) (hk : u.ks.length ≤ 2000)
    (hi : ∀ b ∈ u.bs, isId b.id = true ∧ 0 ≤ b.width ∧ b.width ≤ 10000 ∧ b.cont.length ≤ 100000) (i k : Nat) (b : Bx) (s : Sh)
    (hbi : u.bs[i]? = some b) (hsk : u.ls[k]? = some s) (hbx : bxI u.bs b.id = i) (hsh : shI u.ls s.id = k) (h3 : (placeE u.ms b.id).1 ≠ 3) :
    Fn Tryz.prog 28 [.agg (encU u), .rsl 3 n rows, .agg (encEv (evM id 0 b.id s.id))] (.tup [.agg (if movE u (evM id 0 b.id s.id) s b = 0 then encU (movU u (evM id 0 b.id s.id) s b) else zU), I (movE u (evM id 0 b.id s.id) s b)]) := by
  have a55 := c55 (evM id 0 b.id s.id) 3 143 rfl rfl (by omega)
  have a32 := c32 u hb hl (by have := hm.ln; omega) hq hk (fun b hb => (hi b hb).2.2.2)
  have a143 := c143 u n rows id 0 52 hm hb hl (fun b hb => ⟨(hi b hb).1, (hi b hb).2.1, (hi b hb).2.2.1⟩) i k b s hbi hsk hbx hsh h3
  have g : decide ((0 : Int) < u.ch) = false := decide_eq_false (by omega)
  have hch' : (movU u (evM id 0 b.id s.id) s b).ch = 0 := by unfold movU; split <;> exact hch
  generalize movU u (evM id 0 b.id s.id) s b = u' at a143 hch' ⊢
  generalize movE u (evM id 0 b.id s.id) s b = er at a143 ⊢
  obtain ⟨yr', bs', ls', ms', qs', st', ks', ch'⟩ := u'
  simp only at hch'
  subst hch'
  have fr := a143.frame (R := [(80, ⟨60, 5, .any, [encEv (evM id 0 b.id s.id)], []⟩), (96, ⟨42, 16, .any, [zU], []⟩)]) rfl rfl rfl rfl rfl
  refine mkG28 [(9, [3])] [] rfl ⟨_, a55, fun h => (by cases h), fun _ => ⟨fun h => absurd h (by simp [hch]), fun _ => ⟨fun h => (by cases h), fun _ => ⟨_, a32, ?_⟩⟩⟩⟩
  refine ⟨_, WkP.kr [5, 6, 7, 10, 40, 41] [608, 80, 96] [(608, 18)] rfl rfl rfl rfl, _, I er, [18, 80, 96], fr.as (by rfl) (by rfl) (by rfl), rfl, fun he => ?_, fun he => ?_⟩
  · have he : er ≠ 0 := by simpa using he
    rw [if_neg he]
    exact ⟨_, WkP.refl _ _, _, _, rfl, ⟨rfl, rfl⟩, rfl, rfl, trivial⟩
  · have he : er = 0 := by simpa using he
    subst he
    rw [if_pos rfl]
    exact ⟨_, WkP.refl _ _, _, _, rfl, ⟨rfl, rfl⟩, rfl, rfl, trivial⟩
end Go.Abs.Ltop
end
section
namespace Go.Abs.Ltop
open Go Go.Abs Go.Proofs
set_option linter.unusedVariables false
/-! ### a state whose boxes stand as a list says is right -/
theorem heldGo_true {ls : List Sh} {bs0 : List Bx} (hh : Hs ls bs0) {pl : Int → Int × Int} : ∀ (bs : List Bx) (x : List Int) (w : Wd), (∀ b ∈ bs, 1 ≤ b.width) → x.length = bs.length → climP ls x bs →
    (∀ (i : Nat) (b : Bx) (a : Int), bs[i]? = some b → x[i]? = some a → pl b.id = if a = 0 then (0, 0) else (1, a)) → (∀ s ∈ ls, wget s.id w + wid s.id x bs ≤ s.len) → heldGo ls pl bs w = true
  | [], x, w, _, _, _, _, _ => rfl
  | b :: bs, [], w, _, h, _, _, _ => by simp at h
  | b :: bs, a :: x, w, hw, hl, hc, hp, hs => by
    have hp0 := hp 0 b a rfl rfl
    have hp' : ∀ (i : Nat) (b : Bx) (a : Int), bs[i]? = some b → x[i]? = some a → pl b.id = if a = 0 then (0, 0) else (1, a) := fun i c d h1 h2 => hp (i + 1) c d (by simpa using h1) (by simpa using h2)
    have hw' : ∀ b ∈ bs, 1 ≤ b.width := fun c hc => hw c (by simp [hc])
    simp only [heldGo]
    by_cases h0 : a = 0
    · rw [if_pos h0] at hp0
      rw [hp0, if_pos (by simp)]
      refine heldGo_true hh bs x w hw' (by simpa using hl) hc.2 hp' fun s hm => ?_
      have := hs s hm
      have hb := sid_bd hh hm
      simp only [wid] at this
      rw [if_neg (by omega)] at this
      omega
    · rw [if_neg h0] at hp0
      obtain ⟨s, hm, hid, hcl⟩ := hc.1.resolve_left h0
      obtain ⟨k, hk⟩ := List.getElem?_of_mem hm
      have hsk := shI_of hh.sp hk
      rw [hid] at hsk
      rw [hp0, if_neg (by simp)]
      simp only [hsk, Int.toNat_natCast, hk]
      have h1 := hs s hm
      have hn := wid_nn hw' s.id x
      simp only [wid] at h1
      rw [if_pos hid.symm] at h1
      rw [if_neg (by rintro (q | q); · omega
                     · exact q hcl)]
      refine heldGo_true hh bs x _ hw' (by simpa using hl) hc.2 hp' fun t ht => ?_
      rw [wget_put]
      have h2 := hs t ht
      simp only [wid] at h2
      by_cases e : t.id = s.id
      · obtain ⟨j, hj⟩ := List.getElem?_of_mem ht
        have := sh_inj hh.sp hj hk e
        subst this
        rw [hj] at hk; cases hk
        rw [if_pos rfl]; omega
      · rw [if_neg e]
        rw [if_neg (by omega)] at h2
        omega
theorem bx_lt {bs : List Bx} {n : Int} (h : ∃ b ∈ bs, b.id = n) : ¬ bxI bs n < 0 := by
  obtain ⟨b, hb, rfl⟩ := h
  unfold bxI
  rcases idxF_spec (fun x : Bx => x.id == b.id) bs 0 with ⟨h1, h2⟩ | ⟨j, a, h1, h2, h3, _⟩
  · have := h2 b hb; simp at this
  · omega
theorem sh_lt {ls : List Sh} {n : Int} (h : ∃ b ∈ ls, b.id = n) : ¬ shI ls n < 0 := by
  intro hn
  obtain ⟨s, hs, he⟩ := h
  exact shI_neg.1 hn s hs he
theorem UOK.of {u : Us} (ho : openE u.ls u.bs = 0) {x : List Int} (r : Rep u.ls u.bs u.ms x) (ok : OkP u.ls u.bs x) (hln : u.ms.length ≤ 1024) (hy : 0 ≤ u.yr ∧ u.yr ≤ 200) (hst : 1 ≤ u.seats ∧ u.seats ≤ 32) (hch : 0 ≤ u.ch ∧ u.ch ≤ 1048575) (hq : u.qs = []) (hk : u.ks = []) : UOK u := by
  have hh := hs_of ho
  have hbx : boxE u.bs = 0 := by
    unfold openE at ho
    split at ho
    · cases ho
    · rename_i h1; simp only [not_or, ne_eq, Decidable.not_not] at h1; exact h1.2
  have hget : ∀ b ∈ u.bs, ∃ a ∈ x, placeE u.ms b.id = if a = 0 then (0, 0) else (1, a) := by
    intro b hb
    obtain ⟨i, hi⟩ := List.getElem?_of_mem hb
    have hlt : i < x.length := by rw [r.len]; exact (List.getElem?_eq_some_iff.1 hi).1
    exact ⟨x[i], List.getElem_mem hlt, r.pl i b _ hi (List.getElem?_eq_getElem hlt)⟩
  refine ⟨⟨hh.sh, hbx, ⟨r.rd, fun m hm => by rw [r.d0 m hm]; omega, hln⟩, hy, hst, hch, hq, hk⟩, ?_, ?_, ?_, ?_, ?_⟩
  · rw [List.any_eq_false]
    intro m hm
    obtain ⟨h1, h2, h3⟩ := r.mb m hm
    have hb := bx_lt h1
    have hd := r.d0 m hm
    unfold mvBad knwn
    have e1 : decide (m.day > u.ch) = false := decide_eq_false (by omega)
    have e2 : decide (bxI u.bs m.box < 0) = false := decide_eq_false hb
    have e4 : decide (shI u.ls m.to ≥ 0) = true := decide_eq_true (by have := sh_lt h3.2; omega)
    rw [e1, e2, e4]
    rcases h2 with h2 | ⟨h2, h4⟩
    · simp [h2]
    · have e5 : decide (shI u.ls m.fo ≥ 0) = true := decide_eq_true (by have := sh_lt h4; omega)
      rw [e5]; simp
  · refine heldGo_true hh u.bs x [] (fun b hb => (hh.bw b hb).1) r.len ok.clim r.pl fun s hs => ?_
    have := ok.wid s hs
    simp [wget]; exact this
  · intro b hb
    obtain ⟨a, _, e⟩ := hget b hb
    rw [e]; split <;> simp
  · intro b hb h1
    obtain ⟨a, ha, e⟩ := hget b hb
    rw [e] at h1 ⊢
    by_cases h0 : a = 0
    · rw [if_pos h0] at h1; simp at h1
    · rw [if_neg h0]
      rcases r.sh a ha with q | q
      · exact absurd q h0
      · exact sh_lt q
  · intro b hb
    have := hh.bw b hb
    exact ⟨isId_of this.2.2.1 this.2.2.2.1, by omega, by omega, by omega⟩
end Go.Abs.Ltop
end
section
namespace Go.Abs.Ltop
open Go Go.Abs Go.Proofs
set_option linter.unusedVariables false
/-! ### a move between shelves, by the list of where the boxes stand -/
theorem mov_of {u : Us} {e : Ev} (hd : e.day = 0) (hh : Hs u.ls u.bs) {x : List Int} (r : Rep u.ls u.bs u.ms x) (ok : OkP u.ls u.bs x) (hln : u.ms.length < 1024) {i : Nat} {b : Bx} {a : Int} {s : Sh} (hb : u.bs[i]? = some b) (ha : x[i]? = some a) (hs : s ∈ u.ls) :
    (movE u e s b = 0 → s.id ≠ a ∧ s.clim = b.clim ∧ wid s.id (x.set i s.id) u.bs ≤ s.len) ∧
    (s.id ≠ a → s.clim = b.clim → wid s.id (x.set i s.id) u.bs ≤ s.len → movE u e s b = 0 ∧ Rep u.ls u.bs (movU u e s b).ms (x.set i s.id) ∧ OkP u.ls u.bs (x.set i s.id) ∧ movU u e s b = { u with ms := u.ms ++ [mvAt u e b.id 1 s.id] }) := by
  have hsb := sid_bd hh hs
  have hw := hsum_wid hh r hb (s := s.id) (by omega)
  have hm : mvAt u e b.id 1 s.id = mvOf b.id (placeE u.ms b.id) s.id := by
    unfold mvAt mvOf; rw [hd]
  have hap : appE u.ms (mvAt u e b.id 1 s.id) = nextE (readE u.ms).1 (mvOf b.id (placeE u.ms b.id) s.id) := by
    unfold appE; rw [if_neg (by omega), hm]
  refine ⟨fun h => ?_, fun hne hc hwd => ?_⟩
  · unfold movE at h
    by_cases h0 : holdE u.ms s b u.bs = 0
    · rw [if_neg (by simp [h0]), hap] at h
      refine ⟨fun e => ?_, ?_⟩
      · have hp := r.pl i b a hb ha
        rw [if_neg (by omega)] at hp
        rw [hp, ← e] at h
        exact next_same h
      · unfold holdE at h0
        by_cases hc : s.clim ≠ b.clim
        · rw [if_pos hc] at h0; exact absurd h0 (by decide)
        · rw [if_neg hc] at h0
          by_cases hl : b.width + hsum u.ms b.id s.id u.bs > s.len
          · rw [if_pos hl] at h0; exact absurd h0 (by decide)
          · exact ⟨by simpa using hc, by omega⟩
    · rw [if_pos h0] at h; exact absurd h h0
  · have h0 : holdE u.ms s b u.bs = 0 := by
      unfold holdE
      rw [if_neg (by simp [hc]), if_neg (by omega)]
    obtain ⟨q1, q2⟩ := r.move hh hb ha hs hne hln
    have hE : movE u e s b = 0 := by
      unfold movE
      rw [if_neg (by simp [h0]), hap, q1]
    have hU : movU u e s b = { u with ms := u.ms ++ [mvAt u e b.id 1 s.id] } := by unfold movU; rw [if_pos hE]
    refine ⟨hE, ?_, ok.set hh hb hs hc hwd, hU⟩
    rw [hU, hm]
    exact q2
end Go.Abs.Ltop
end
section
namespace Go.Abs.Ltop
open Go Go.Abs Go.Proofs
set_option linter.unusedVariables false
set_option maxRecDepth 20000
/-! ### no rows -/
theorem c27 : Fn Tryz.prog 27 [Zs 3] (I 0) := by
  refine mkG27 [] [] rfl ⟨fun h => absurd h (by decide), fun _ => ?_⟩
  (refine once _ (WkP.refl _ _) ⟨fun h => absurd h (by decide), fun _ => ?_⟩)
  (refine once _ (WkP.refl _ _) ⟨fun h => absurd h (by decide), fun _ => ?_⟩)
  (refine once _ (WkP.refl _ _) ⟨fun h => absurd h (by decide), fun _ => ?_⟩)
  exact ⟨_, WkP.refl _ _, rfl, rfl, rfl⟩
/-! ### an event comes: a move -/
theorem c11 (u : Us) (id : Int) (h : UOK u) (hch : u.ch = 0) (i k : Nat) (b : Bx) (s : Sh)
    (hbi : u.bs[i]? = some b) (hsk : u.ls[k]? = some s) (hbx : bxI u.bs b.id = i) (hsh : shI u.ls s.id = k) :
    Fn Tryz.prog 11 [.agg (encU u), Zs 3, .agg (encEv (evM id 0 b.id s.id))] (.tup [.agg (if movE u (evM id 0 b.id s.id) s b = 0 then encU (movU u (evM id 0 b.id s.id) s b) else zU), I (movE u (evM id 0 b.id s.id) s b)]) := by
  have hsl := shelves_len h.pt.sh
  have hbl := box_len h.pt.bx
  have a26 := c26 u h
  have a28 := c28 u 0 [] id hch h.pt.mv (by omega) (by omega) (by rw [h.pt.q0]; simp) (by rw [h.pt.k0]; simp) h.bi i k b s hbi hsk hbx hsh (h.k3 b (List.mem_of_getElem? hbi))
  generalize movE u (evM id 0 b.id s.id) s b = er at a28 ⊢
  by_cases he : er = 0
  · subst he
    rw [if_pos rfl] at a28 ⊢
    exact mkG11 [] [] rfl ⟨[(3, false)], _, a26, rfl, _, c27, fun h => (by cases h), fun _ => ⟨_, a28, _, WkP.refl _ _, _, _, rfl, ⟨rfl, rfl⟩, rfl, rfl, trivial⟩⟩
  · rw [if_neg he] at a28 ⊢
    exact mkG11 [] [] rfl ⟨[(3, false)], _, a26, rfl, _, c27, fun h => (by cases h), fun _ => ⟨_, a28, _, WkP.refl _ _, _, _, rfl, ⟨rfl, rfl⟩, rfl, rfl, trivial⟩⟩
/-! ### where a box stands -/
theorem c29 (u : Us) (h : UOK u) (b : Bx) (hb : b ∈ u.bs) : Fn Tryz.prog 29 [.agg (encU u), I b.id] (.tup [pAV (placeE u.ms b.id), I 0]) := by
  have hsl := shelves_len h.pt.sh
  have hbl := box_len h.pt.bx
  have a26 := c26 u h
  have a56 := c56 u (by omega) b.id
  have a57 := c57 u h.pt.mv b.id (h.bi b hb).1
  have g : decide (bxI u.bs b.id < 0) = false := decide_eq_false (bx_lt ⟨b, hb, rfl⟩)
  exact mkG29 [] [] rfl ⟨_, a26, fun h => (by cases h), fun _ => ⟨_, a56, fun h => (by rw [g] at h; cases h), fun _ => ⟨_, a57, _, WkP.refl _ _, _, _, rfl, ⟨rfl, rfl⟩, rfl, rfl, trivial⟩⟩⟩
theorem c6 (seats years : Int) (h1 : inB seats 1 32 = true) (h2 : inB years 0 200 = true) : Fn Tryz.prog 6 [I seats, I years] (.tup [.agg [.nilsl, .nilsl, .nilsl, I years, .nilsl, .nilsl, .nilsl, .nilsl, .nilsl, .nilsl, I seats, .nilsl, .nilsl, .nilsl, .nilsl, I 0], I 0]) := by
  have a1 := c21 seats 1 32
  have a2 := c21 years 0 200
  rw [h1] at a1
  rw [h2] at a2
  exact mkG6 [] [] rfl ⟨[(3, false)], _, a1, rfl, _, a2, fun h => (by cases h), fun _ => ⟨_, WkP.refl _ _, _, _, rfl, ⟨rfl, rfl⟩, rfl, rfl, trivial⟩⟩
end Go.Abs.Ltop
end
section
namespace Go.Abs.Ltop
open Go Go.Abs Go.Proofs
set_option linter.unusedVariables false
set_option maxRecDepth 20000
/-! ### boxes without their contents -/
def clr (b : Bx) : Bx := { b with cont := [] }
/-- the first i are cleared -/
def clrP (l : List Bx) (i : Nat) : List (List AV) := (l.take i).map (fun b => [I b.id, I b.width, I b.room, I b.clim, .nilsl]) ++ (l.drop i).map encB
abbrev f8R (l : List Bx) : List (List AV) := l.map fun b => [I b.id, I b.width, I b.room, I b.clim, .nilsl]
theorem c8 (l : List Bx) (hl : l.length ≤ 100000) : Fn Tryz.prog 8 [BS l] (.fsl false 56 5 l.length (f8R l)) := by
  have a22 := c22 (l.map encB) (by simpa using hl)
  rw [List.length_map] at a22
  refine mkG8 [] [] rfl ⟨_, a22, false, ?_⟩
  refine ⟨fun n c => ∃ i : Nat, i ≤ l.length ∧ n = l.length - i ∧ c = ⟨[(0, .osl 80 5 l.length), (2, .nilsl), (7, I l.length), (8, I i)], [(80, ⟨56, 5, .flat, clrP l i, []⟩)]⟩, ⟨_, _, WkP.keep [0, 2, 7, 8] [80], 0, by omega, rfl, by unfold clrP; rw [List.take_zero, List.map_nil, List.nil_append, List.drop_zero]; rfl⟩, ?_⟩
  rintro n c ⟨i, hi, rfl, rfl⟩
  refine ⟨fun hlt => ?_, fun hlt => ?_⟩
  · simp at hlt
    obtain ⟨b, hb, hd, ht⟩ := drop_cons hlt
    have htl : ((l.take i).map (fun b => [I b.id, I b.width, I b.room, I b.clim, AV.nilsl])).length = i := by simp; omega
    have hrow : (clrP l i)[i]? = some (encB b) := by
      unfold clrP
      rw [List.getElem?_append_right (by omega), htl, Nat.sub_self, hd]; rfl
    have hset : (clrP l i).set i [I b.id, I b.width, I b.room, I b.clim, .nilsl] = clrP l (i + 1) := by
      unfold clrP
      rw [List.set_append_right _ _ (by omega), htl, Nat.sub_self, hd, List.map_cons, List.set_cons_zero, ht, List.map_append, List.append_assoc]
      rfl
    refine ⟨⟨by omega, by omega⟩, encB b, hrow, ?_⟩
    refine ⟨_, wrap64 (by omega) (by omega), ?_⟩
    refine ⟨_, _, WkP.keep [0, 2, 7, 8] [80], by omega, i + 1, by omega, rfl, ?_⟩
    rw [← hset]
    rfl
  · simp at hlt
    have : i = l.length := by omega
    subst this
    have e : clrP l l.length = f8R l := by unfold clrP; simp
    rw [e]
    exact ⟨_, WkP.refl _ _, rfl, _, rfl, rfl, by simp, .inr ⟨rfl, rfl⟩⟩
end Go.Abs.Ltop
end
section
namespace Go.Abs
open Go.RowKit
set_option linter.unusedVariables false
theorem Fn.res_fsl {P : Program} {f : FuncId} {us : List AV} {p : Bool} {e sz n : Nat} {rows rows' : List (List AV)} (h : Fn P f us (.fsl p e sz n rows)) (hl : rows'.length = rows.length) (hs : ∀ row ∈ rows', row.length = sz)
    (hi : ∀ (j : Nat) u', rows'.flatten[j]? = some u' → ∃ u, rows.flatten[j]? = some u ∧ Imp u u') : Fn P f us (.fsl p e sz n rows') := by
  refine ⟨h.1, fun X w vs hw hl' ha => (h.2 X w vs hw hl' ha).mono ?_⟩
  rintro en w' ⟨v, rfl, ⟨h1, h2, h3⟩, hb⟩
  refine ⟨_, rfl, ⟨h1.trans hl.symm, hs, ?_⟩, hb⟩
  rcases h3 with h3 | ⟨g, cap, cur, a1, a2, a3, a4, a5, a6, a7⟩
  · exact .inl h3
  · refine .inr ⟨g, cap, cur, a1, a2, a3, a4, a5, a6, fun j u hj => ?_⟩
    obtain ⟨u0, hu0, hi0⟩ := hi j u hj
    obtain ⟨c, b1, b2, b3⟩ := a7 j u0 hu0
    exact ⟨c, b1, b2, hi0 _ _ _ _ b3⟩
theorem flat_map_imp {α : Type} {f g : α → List AV} (hl : ∀ a, ImpL (f a) (g a)) : ∀ (l : List α) (j : Nat) u', (l.map g).flatten[j]? = some u' → ∃ u, (l.map f).flatten[j]? = some u ∧ Imp u u'
  | [], j, u', h => by simp at h
  | a :: l, j, u', h => by
    have hlen := (hl a).len
    rw [List.map_cons, List.flatten_cons] at h ⊢
    rcases Nat.lt_or_ge j (g a).length with hj | hj
    · rw [List.getElem?_append_left hj] at h
      rw [List.getElem?_append_left (by omega)]
      exact ⟨_, List.getElem?_eq_getElem (by omega), (hl a).get j _ _ (List.getElem?_eq_getElem (by omega)) h⟩
    · rw [List.getElem?_append_right hj] at h
      rw [List.getElem?_append_right (by omega), hlen]
      exact flat_map_imp hl l _ _ h
end Go.Abs
namespace Go.Abs.Ltop
open Go Go.Abs Go.Proofs
set_option linter.unusedVariables false
set_option maxRecDepth 20000
abbrev fBS (l : List Bx) : AV := .fsl false 56 5 l.length (l.map encB)
theorem c8' (l : List Bx) (hl : l.length ≤ 100000) : Fn Tryz.prog 8 [BS l] (fBS (l.map clr)) := by
  have h := c8 l hl
  unfold fBS
  rw [List.length_map, List.map_map]
  exact h.res_fsl (by simp) (by simp [encB, clr]) (flat_map_imp (f := fun b : Bx => [I b.id, I b.width, I b.room, I b.clim, .nilsl]) (g := encB ∘ clr) (fun b => show ImpL [_, _, _, _, _] [_, _, _, _, _] from ⟨.refl _, .refl _, .refl _, .refl _, .nil 2, trivial⟩) l)
theorem c30 (l : List Bx) (hl : l.length ≤ 100000) (hc : ∀ b ∈ l, b.cont.length ≤ 100000) : Fn Tryz.prog 30 [BS l] (fBS l) := by
  refine mkG30 [(1, [2, 2]), (5, [9, 9])] [] rfl ?_
  refine ⟨rfl, _, WkP.flat 80 ⟨56, 5, .pure, [], []⟩ rfl rfl, ?_⟩
  refine ⟨⟨by show (0 + l.length) * 56 ≤ 140737488355328; omega, by omega⟩, ?_⟩
  refine ⟨fun n c => ∃ i : Nat, i ≤ l.length ∧ n = l.length - i ∧ c = ⟨[(2, .nilsl), (3, .osl 80 5 l.length), (9, I l.length), (10, I i)], [(80, ⟨56, 5, .flat, l.map encB, []⟩)]⟩, ⟨_, _, WkP.keep [2, 3, 9, 10] [80], 0, by omega, rfl, ?_⟩, ?_⟩
  · have e : (⟨[(2, .nilsl), (3, .osl 80 5 (0 + l.length)), (9, I ((0 + l.length : Nat) : Int)), (10, I ((0 : Nat) : Int))], [(80, ⟨56, 5, .flat, l.map encB, []⟩)]⟩ : Cfg) = ⟨[(2, .nilsl), (3, .osl 80 5 l.length), (9, I l.length), (10, I ((0 : Nat) : Int))], [(80, ⟨56, 5, .flat, l.map encB, []⟩)]⟩ := by rw [Nat.zero_add]
    exact e
  rintro n c ⟨i, hi, rfl, rfl⟩
  refine ⟨fun hlt => ?_, fun hlt => ?_⟩
  · simp at hlt
    obtain ⟨b, hb, _, _⟩ := drop_cons hlt
    have hcb := hc b (List.mem_of_getElem? hb)
    have hrow : (l.map encB)[i]? = some (encB b) := by rw [List.getElem?_map, hb]; rfl
    refine ⟨rfl, ⟨by omega, by omega⟩, encB b, hrow, ⟨by show (0 + b.cont.length) * 16 ≤ 140737488355328; omega, by omega⟩, sc2 b.cont, ?_⟩
    refine ⟨_, WkP.frz 240 ⟨162, 2, .pure, b.cont.map encC, []⟩ rfl rfl, ⟨by omega, by omega⟩, encB b, hrow, ?_⟩
    refine ⟨_, wrap64 (by omega) (by omega), ?_⟩
    have ht : (b.cont.map encC).take (0 + b.cont.length) = b.cont.map encC := List.take_of_length_le (by simp)
    have hset : (l.map encB).set i [I b.id, I b.width, I b.room, I b.clim, .rsl 2 (0 + b.cont.length) ((b.cont.map encC).take (0 + b.cont.length))] = l.map encB := by
      rw [ht, Nat.zero_add]
      refine List.ext_getElem? fun j => ?_
      rw [List.getElem?_set]
      split
      · rename_i h; subst h; rw [if_pos (by simpa using hlt), hrow]; rfl
      · rfl
    refine ⟨_, _, WkP.keep [2, 3, 9, 10] [80], by omega, i + 1, by omega, rfl, ?_⟩
    exact Eq.trans (b := (⟨[(2, .nilsl), (3, .osl 80 5 l.length), (9, I l.length), (10, I ((i + 1 : Nat) : Int))], [(80, ⟨56, 5, .flat, (l.map encB).set i [I b.id, I b.width, I b.room, I b.clim, .rsl 2 (0 + b.cont.length) ((b.cont.map encC).take (0 + b.cont.length))], []⟩)]⟩ : Cfg)) rfl
      (congrArg (fun R => (⟨[(2, .nilsl), (3, .osl 80 5 l.length), (9, I l.length), (10, I ((i + 1 : Nat) : Int))], [(80, ⟨56, 5, .flat, R, []⟩)]⟩ : Cfg)) hset)
  · exact ⟨_, WkP.refl _ _, rfl, _, rfl, rfl, by simp, .inr ⟨rfl, rfl⟩⟩
end Go.Abs.Ltop
end
section
namespace Go.Abs.Ltop
open Go Go.Abs Go.Proofs
set_option linter.unusedVariables false
set_option maxRecDepth 20000
theorem sE : Scal ([] : List (List AV)) := fun _ h => by cases h
set_option maxHeartbeats 8000000 in
theorem c13 (u : Us) (hb : u.bs.length ≤ 1000) (hl : u.ls.length ≤ 1000) (hm : u.ms.length ≤ 2000) (hq : u.qs.length ≤ 2000) (hk : u.ks.length ≤ 2000) (hc : ∀ b ∈ u.bs, b.cont.length ≤ 100000) : Fn Tryz.prog 13 [.agg (encU u)] (.agg (encU u)) := by
  have a30 := c30 u.bs (by omega) hc
  refine mkG13 [] [] rfl ⟨by decide, sE, ?_⟩
  (refine once _ (WkP.refl _ _) ⟨fun h => absurd h (by decide), fun _ => ?_⟩)
  refine ⟨by decide, sE, by decide, sE, by decide, sE, by decide, sE, _, a30, true, ?_⟩
  refine ⟨⟨by show (0 + u.ls.length) * 32 ≤ 140737488355328; omega, by omega⟩, sc4 u.ls, ⟨by show (0 + u.ms.length) * 48 ≤ 140737488355328; omega, by omega⟩, sc6 u.ms, ⟨by show (0 + u.qs.length) * 56 ≤ 140737488355328; omega, by omega⟩, sc7 u.qs, ⟨by show (0 + u.ks.length) * 32 ≤ 140737488355328; omega, by omega⟩, sc4k u.ks, by decide, sE, ?_⟩
  (refine once _ (WkP.refl _ _) ⟨fun h => absurd h (by decide), fun _ => ?_⟩)
  refine ⟨by decide, sE, by decide, sE, ?_⟩
  refine ⟨_, WkP.see [2] rfl, rfl, rfl, ?_⟩
  have tk : ∀ (R : List (List AV)) (n : Nat), R.length = n → R.take (0 + n) = R := fun R n h => List.take_of_length_le (by omega)
  show AV.agg (encU u) = AV.agg [Zs 5, Zs 6, Zs 6, I u.yr, Zs 6, Zs 6, BS u.bs, .rsl 4 (0 + u.ls.length) ((u.ls.map encS).take (0 + u.ls.length)), .rsl 6 (0 + u.ms.length) ((u.ms.map rowM).take (0 + u.ms.length)), .rsl 7 (0 + u.qs.length) ((u.qs.map encR).take (0 + u.qs.length)),
    I u.seats, .rsl 4 (0 + u.ks.length) ((u.ks.map encK).take (0 + u.ks.length)), Zs 8, Zs 2, Zs 3, I u.ch]
  rw [tk _ u.ls.length (by simp), tk _ u.ms.length (by simp), tk _ u.qs.length (by simp), tk _ u.ks.length (by simp), Nat.zero_add, Nat.zero_add, Nat.zero_add, Nat.zero_add]
end Go.Abs.Ltop
end
section
namespace Go.Abs.Ltop
open Go Go.Abs Go.Proofs
set_option linter.unusedVariables false
set_option maxRecDepth 20000
/-! ### are the boxes where they shall be -/
def rchGo (pl : Int → Int × Int) : List Bx → List Int → Bool
  | [], _ => true
  | b :: r, t :: ts => if pl b.id = (1, t) then rchGo pl r ts else false
  | _ :: _, [] => false
theorem c12 (u : Us) (h : UOK u) (hq : u.qs.length ≤ 2000) (hk : u.ks.length ≤ 2000) (bs : List Bx) (to : List Int) (hl : to.length = bs.length) (hb : bs.length ≤ 1000) (hm : ∀ b ∈ bs, ∃ c ∈ u.bs, c.id = b.id) :
    Fn Tryz.prog 12 [.agg (encU u), BS bs, NS to] (B (rchGo (placeE u.ms) bs to)) := by
  have hsl := shelves_len h.pt.sh
  have hbl := box_len h.pt.bx
  have hml := h.pt.mv.ln
  have a13 := c13 u (by omega) (by omega) (by omega) hq hk (fun b hb => (h.bi b hb).2.2.2)
  refine mkG12 [] [] rfl ?_
  refine ⟨fun n c => ∃ i : Nat, i ≤ bs.length ∧ n = bs.length - i ∧ rchGo (placeE u.ms) (bs.drop i) (to.drop i) = rchGo (placeE u.ms) bs to ∧ c = ⟨[(2, NS to), (3, .ovar 48 0), (6, B false), (11, BS bs), (12, I bs.length), (13, I i)], [(48, ⟨42, 16, .any, [encU u], []⟩)]⟩,
    ⟨_, _, WkP.keep [2, 3, 6, 11, 12, 13] [48], 0, by omega, rfl, by simp, rfl⟩, ?_⟩
  rintro n c ⟨i, hi, rfl, hI, rfl⟩
  refine ⟨fun hlt => ?_, fun hlt => ?_⟩
  · simp at hlt
    obtain ⟨b, hbb, hd, _⟩ := drop_cons hlt
    obtain ⟨t, ht, hdt, _⟩ := drop_cons (l := to) (i := i) (by omega)
    obtain ⟨c, hc, hcid⟩ := hm b (List.mem_of_getElem? hbb)
    have a29 := c29 u h c hc
    rw [hcid] at a29
    rw [hd, hdt, rchGo] at hI
    have hge : decide ((i : Int) ≥ to.length) = false := decide_eq_false (by omega)
    refine ⟨⟨by omega, by omega⟩, encB b, by simp [hbb], _, a13, _, a29, [(2, false), (8, false)], rfl, hge, ⟨by omega, by omega⟩, [I t], by simp [ht], fun hc => ?_, fun hc => ?_⟩
    · have hc : (!((placeE u.ms b.id).1 == 1 && ((placeE u.ms b.id).2 == t && true))) = true := hc
      rw [if_neg (by intro e; rw [e] at hc; simp at hc)] at hI
      rw [← hI]
      exact ⟨_, WkP.refl _ _, rfl, rfl, rfl⟩
    · have hc : (!((placeE u.ms b.id).1 == 1 && ((placeE u.ms b.id).2 == t && true))) = false := hc
      simp at hc
      rw [if_pos (Prod.ext hc.1 hc.2)] at hI
      refine ⟨_, wrap64 (by omega) (by omega), ?_⟩
      exact ⟨_, _, WkP.keep [2, 3, 6, 11, 12, 13] [48], by omega, i + 1, by omega, rfl, hI, rfl⟩
  · simp at hlt
    have : i = bs.length := by omega
    subst this
    rw [List.drop_length, rchGo] at hI
    rw [← hI]
    exact ⟨_, WkP.refl _ _, rfl, rfl, rfl⟩
/-! ### few shelves and boxes -/
def fewB (bs : List Bx) : Bool := (bs.all fun b => decide (b.cont.length ≤ 40)) && decide (bs.length ≤ 20)
def sizeF (L : Int) : Nat → Int → Int
  | 0, n => n
  | k + 1, n => sizeF L k (minI (n * L) 4097)
def fewE (ls : List Sh) (bs : List Bx) : Bool := decide (ls.length ≤ 20) && fewB bs && (decide (sizeF ls.length bs.length 1 ≤ 300) || decide (sizeF ls.length bs.length 1 > 4096))
theorem c40 (bs : List Bx) (hl : bs.length ≤ 9223372036854775807) : Fn Tryz.prog 40 [BS bs] (B (fewB bs)) := by
  refine mkG40 [] [] rfl ?_
  refine ⟨fun n c => ∃ i : Nat, i ≤ bs.length ∧ n = bs.length - i ∧ (∀ b ∈ bs.take i, b.cont.length ≤ 40) ∧ c = ⟨[(0, BS bs), (2, B false), (5, BS bs), (6, I bs.length), (7, I i)], []⟩, ⟨_, _, WkP.keep [0, 2, 5, 6, 7] [], 0, by omega, rfl, by simp, rfl⟩, ?_⟩
  rintro n c ⟨i, hi, rfl, hI, rfl⟩
  refine ⟨fun hlt => ?_, fun hlt => ?_⟩
  · simp at hlt
    obtain ⟨b, hb, _, ht⟩ := drop_cons hlt
    refine ⟨⟨by omega, by omega⟩, encB b, by simp [hb], fun hg => ?_, fun hg => ?_⟩
    · have hg : (b.cont.length : Int) > 40 := of_decide_eq_true hg
      have e : fewB bs = false := by
        unfold fewB
        rw [Bool.and_eq_false_iff]; left
        rw [List.all_eq_false]
        exact ⟨b, List.mem_of_getElem? hb, by simp; omega⟩
      rw [e]
      exact ⟨_, WkP.refl _ _, rfl, rfl, rfl⟩
    · have hg : ¬ (b.cont.length : Int) > 40 := of_decide_eq_false hg
      refine ⟨_, wrap64 (by omega) (by omega), ?_⟩
      refine ⟨_, _, WkP.keep [0, 2, 5, 6, 7] [], by omega, i + 1, by omega, rfl, fun c hc => ?_, rfl⟩
      rw [ht] at hc
      rcases List.mem_append.1 hc with q | q
      · exact hI c q
      · simp at q; subst q; omega
  · simp at hlt
    have : i = bs.length := by omega
    subst this
    rw [List.take_length] at hI
    have e : fewB bs = decide ((bs.length : Int) ≤ 20) := by
      unfold fewB
      have : (bs.all fun b => decide (b.cont.length ≤ 40)) = true := List.all_eq_true.2 fun b hb => decide_eq_true (hI b hb)
      rw [this, Bool.true_and]
      exact decide_eq_decide.2 (by omega)
    rw [e]
    exact ⟨_, WkP.refl _ _, rfl, rfl, rfl⟩
theorem c20 (ls : List Sh) (bs : List Bx) (hl : ls.length ≤ 20) (hb : bs.length ≤ 9223372036854775807) : Fn Tryz.prog 20 [SS ls, BS bs] (I (sizeF ls.length bs.length 1)) := by
  refine mkG20 [] [] rfl ?_
  refine ⟨fun n c => ∃ (i : Nat) (x : Int), i ≤ bs.length ∧ n = bs.length - i ∧ 0 ≤ x ∧ x ≤ 4097 ∧ sizeF ls.length (bs.length - i) x = sizeF ls.length bs.length 1 ∧ c = ⟨[(0, SS ls), (4, I 0), (5, I x), (7, I bs.length), (8, I i)], []⟩, ⟨_, _, WkP.keep [0, 4, 5, 7, 8] [], 0, 1, by omega, rfl, by omega, by omega, by simp, rfl⟩, ?_⟩
  rintro n c ⟨i, x, hi, rfl, hx0, hx1, hI, rfl⟩
  refine ⟨fun hlt => ?_, fun hlt => ?_⟩
  · simp at hlt
    have hmul : 0 ≤ x * ls.length ∧ x * ls.length ≤ 4097 * 20 := ⟨Int.mul_nonneg hx0 (by omega), Int.mul_le_mul hx1 (by omega) (by omega) (by omega)⟩
    rw [show bs.length - i = (bs.length - (i + 1)) + 1 by omega, sizeF] at hI
    refine ⟨_, wrap64 (by omega) (by omega), ?_⟩
    refine ⟨_, wrap64 (by omega) (by omega), ?_⟩
    exact ⟨_, _, WkP.keep [0, 4, 5, 7, 8] [], by omega, i + 1, minI (x * ls.length) 4097, by omega, rfl, by unfold minI; split <;> omega, by unfold minI; split <;> omega, hI, rfl⟩
  · simp at hlt
    have : i = bs.length := by omega
    subst this
    rw [Nat.sub_self, sizeF] at hI
    rw [← hI]
    exact ⟨_, WkP.refl _ _, rfl, rfl, rfl⟩
theorem c19 (ls : List Sh) (bs : List Bx) (hb : bs.length ≤ 9223372036854775807) : Fn Tryz.prog 19 [SS ls, BS bs, Zs 2] (B (decide (ls.length ≤ 20) && fewB bs)) := by
  have a40 := c40 bs hb
  refine mkG19 [] [] rfl ?_
  (refine once _ (WkP.refl _ _) ⟨fun h => absurd h (by decide), fun _ => ?_⟩)
  by_cases h : ls.length ≤ 20
  · have g : decide ((ls.length : Int) ≤ 20) = true := decide_eq_true (by omega)
    have g' : decide (ls.length ≤ 20) = true := decide_eq_true h
    rw [g', Bool.true_and]
    cases hf : fewB bs with
    | true =>
      rw [hf] at a40
      exact ⟨[(3, true), (7, true)], g, _, a40, rfl, _, WkP.refl _ _, rfl, rfl, rfl⟩
    | false =>
      rw [hf] at a40
      exact ⟨[(3, true), (7, false)], g, _, a40, rfl, _, WkP.refl _ _, rfl, rfl, rfl⟩
  · have g : decide ((ls.length : Int) ≤ 20) = false := decide_eq_false (by omega)
    have g' : decide (ls.length ≤ 20) = false := decide_eq_false h
    rw [g', Bool.false_and]
    exact ⟨[(3, false), (7, false)], g, rfl, _, WkP.refl _ _, rfl, rfl, rfl⟩
theorem c5 (ls : List Sh) (bs : List Bx) (hb : bs.length ≤ 9223372036854775807) : Fn Tryz.prog 5 [SS ls, BS bs] (B (fewE ls bs)) := by
  have a19 := (c19 ls bs hb).args_weak (us' := [SS ls, BS bs, .nilsl]) ⟨.refl _, .refl _, .nil 2, trivial⟩
  unfold fewE
  cases h : (decide (ls.length ≤ 20) && fewB bs) with
  | false =>
    rw [h] at a19
    rw [Bool.false_and]
    exact mkG5 [] [] rfl ⟨_, a19, fun _ => ⟨_, WkP.refl _ _, rfl, rfl, rfl⟩, fun h => (by cases h)⟩
  | true =>
    rw [h] at a19
    rw [Bool.true_and]
    simp only [Bool.and_eq_true, decide_eq_true_eq] at h
    have a20 := c20 ls bs h.1 hb
    generalize sizeF ls.length bs.length 1 = n at a20 ⊢
    cases g : decide (n ≤ 300) with
    | true => exact mkG5 [] [] rfl ⟨_, a19, fun h => (by cases h), fun _ => ⟨_, a20, [(2, true)], g, _, WkP.refl _ _, rfl, rfl, rfl⟩⟩
    | false => exact mkG5 [] [] rfl ⟨_, a19, fun h => (by cases h), fun _ => ⟨_, a20, [(2, false)], g, _, WkP.refl _ _, rfl, rfl, rfl⟩⟩
end Go.Abs.Ltop
end
section
namespace Go.Abs
open Go.RowKit
set_option linter.unusedVariables false
/-- less is said of a variable of one's own -/
theorem WkP.row {ps : List Nat} {c : Cfg} (b : Nat) {e sz : Nat} {row : List AV} (row' : List AV) (hb : olk c.O b = some ⟨e, sz, .any, [row], []⟩) (hi : ImpL row row') : WkP ps c ⟨c.fr, setO b ⟨e, sz, .any, [row'], []⟩ c.O⟩ := by
  rintro E a w _ ⟨K, h⟩
  refine ⟨K, h.recast hb (by simp) rfl (fun r hr => ?_) fun g hK hB => ?_⟩
  · simp at hr; subst hr
    have := h.rows b _ hb row (by simp)
    rw [← hi.len]; exact this
  · obtain ⟨cur, hc, hu⟩ := hB
    refine ⟨cur, hc, fun j u hj => ?_⟩
    simp only [List.flatten_cons, List.flatten_nil, List.append_nil] at hj
    have hj' : j < row.length := by rw [hi.len]; exact (List.getElem?_eq_some_iff.1 hj).1
    obtain ⟨y, h1, h2, h3⟩ := hu j row[j] (by simp [hj'])
    exact ⟨y, h1, h2, hi.get j _ u (List.getElem?_eq_getElem hj') hj _ _ _ _ h3⟩
end Go.Abs
namespace Go.Abs.Ltop
open Go Go.Abs Go.Proofs
set_option linter.unusedVariables false
/-! ### the law that carries -/
theorem chk_vals (ls : List Sh) (bs : List Bx) (x : List Int) : chkE ls bs x ≠ 24 := by
  unfold chkE
  split
  · decide
  · split
    · decide
    · split <;> decide
theorem poss_ne24 (ls : List Sh) (bs : List Bx) (x : List Int) : possE ls bs x ≠ 24 := by
  unfold possE
  split
  · unfold openE
    split
    · decide
    · split <;> decide
  · exact chk_vals ls bs x
theorem plan_ok {ls : List Sh} {bs : List Bx} {frm to : List Int} (h : (planR ls bs frm to).2 = 0 ∨ (planR ls bs frm to).2 = 24) :
    openE ls bs = 0 ∧ Hs ls bs ∧ OkAt ls bs frm ∧ OkAt ls bs to ∧
      ((∃ p, planE to (searchE ls bs frm) = some p ∧ planR ls bs frm to = (YS p, 0)) ∨ (planE to (searchE ls bs frm) = none ∧ planR ls bs frm to = (.nilsl, 24))) := by
  have n1 := poss_ne24 ls bs frm
  have n2 := poss_ne24 ls bs to
  by_cases h1 : possE ls bs frm = 0
  · by_cases h2 : possE ls bs to = 0
    · obtain ⟨hh, hf⟩ := poss_ok h1
      obtain ⟨_, ht⟩ := poss_ok h2
      have ho : openE ls bs = 0 := by
        unfold possE at h1
        by_cases h0 : openE ls bs = 0
        · exact h0
        · rw [if_pos h0] at h1; exact absurd h1 h0
      refine ⟨ho, hh, hf, ht, ?_⟩
      unfold planR
      rw [if_neg (by simp [h1]), if_neg (by simp [h2])]
      cases hp : planE to (searchE ls bs frm) with
      | some p => exact .inl ⟨p, rfl, rfl⟩
      | none => exact .inr ⟨rfl, rfl⟩
    · exfalso
      unfold planR at h
      rw [if_neg (by simp [h1]), if_pos h2] at h
      simp only at h
      omega
  · exfalso
    unfold planR at h
    rw [if_pos h1] at h
    simp only at h
    omega
theorem sizeF_of {L : Nat} : ∀ (n : Nat) (s : Nat), sizeGo L n s = true → sizeF L n s = ((s * L ^ n : Nat) : Int)
  | 0, s, _ => by simp [sizeF]
  | n + 1, s, h => by
    simp only [sizeGo] at h
    split at h
    · cases h
    · rename_i hs
      have e : (s : Int) * (L : Int) = ((s * L : Nat) : Int) := by simp
      simp only [sizeF]
      rw [e] at h hs ⊢
      have em : minI ((s * L : Nat) : Int) 4097 = ((s * L : Nat) : Int) := by unfold minI; rw [if_neg (by omega)]
      rw [em, sizeF_of n (s * L) h, Nat.pow_succ, Nat.mul_comm (L ^ n) L, Nat.mul_assoc]
theorem few_size {ls : List Sh} {bs : List Bx} (ho : openE ls bs = 0) (hf : sizeF ls.length bs.length 1 ≤ 300 ∨ sizeF ls.length bs.length 1 > 4096) : ls.length ^ bs.length ≤ 300 := by
  have hh := hs_of ho
  have hz : sizeGo ls.length bs.length 1 = true := by
    unfold openE at ho
    split at ho
    · cases ho
    · split at ho
      · cases ho
      · rename_i h2; simpa using h2
  have := sizeF_of (L := ls.length) bs.length 1 hz
  rw [Nat.one_mul] at this
  have hsz := hh.sz
  rw [show ((1 : Nat) : Int) = 1 from rfl] at this
  omega
theorem rch_iff {pl : Int → Int × Int} : ∀ (bs : List Bx) (x to : List Int), x.length = bs.length → to.length = bs.length → (∀ (i : Nat) (b : Bx) (a : Int), bs[i]? = some b → x[i]? = some a → pl b.id = (1, a)) → (rchGo pl bs to = true ↔ x = to)
  | [], [], [], _, _, _ => by simp [rchGo]
  | [], _ :: _, _, h, _, _ => by simp at h
  | [], [], _ :: _, _, h, _ => by simp at h
  | b :: bs, [], _, h, _, _ => by simp at h
  | b :: bs, _ :: _, [], _, h, _ => by simp at h
  | b :: bs, a :: x, t :: ts, hx, ht, h => by
    have h0 := h 0 b a rfl rfl
    have ih := rch_iff bs x ts (by simpa using hx) (by simpa using ht) fun i c d h1 h2 => h (i + 1) c d (by simpa using h1) (by simpa using h2)
    simp only [rchGo, h0]
    by_cases e : a = t
    · subst e
      rw [if_pos rfl, ih]; simp
    · rw [if_neg (by simpa using e)]
      simp [e]
theorem clr_len (l : List Bx) : (l.map clr).length = l.length := by simp
theorem clr_get {l : List Bx} {i : Nat} {b : Bx} (h : l[i]? = some b) : (l.map clr)[i]? = some (clr b) := by rw [List.getElem?_map, h]; rfl
theorem clr_mem {l : List Bx} {b : Bx} (h : b ∈ l) : ∃ c ∈ l.map clr, c.id = b.id := ⟨clr b, List.mem_map.2 ⟨b, h, rfl⟩, rfl⟩
/-- the state behind some moves -/
abbrev uM (ls : List Sh) (bs : List Bx) (ms : List Mv) : Us := ⟨0, bs.map clr, ls, ms, [], 1, [], 0⟩
theorem uM_ok {ls : List Sh} {bs : List Bx} {ms : List Mv} (ho : openE ls (bs.map clr) = 0) {x : List Int} (r : Rep ls (bs.map clr) ms x) (ok : OkP ls (bs.map clr) x) (hln : ms.length ≤ 1024) : UOK (uM ls bs ms) :=
  UOK.of (u := uM ls bs ms) ho r ok hln ⟨by show (0 : Int) ≤ 0; omega, by show (0 : Int) ≤ 200; omega⟩ ⟨by show (1 : Int) ≤ 1; omega, by show (1 : Int) ≤ 32; omega⟩ ⟨by show (0 : Int) ≤ 0; omega, by show (0 : Int) ≤ 1048575; omega⟩ rfl rfl
theorem ok_nz {ls : List Sh} {bs : List Bx} (hh : Hs ls bs) {x : List Int} (hx : OkAt ls bs x) : ∀ a ∈ x, a ≠ 0 := by
  intro a ha e
  obtain ⟨s, hs, he⟩ := clim_mem hx.len hx.clim a ha
  have := sid_bd hh hs
  omega
theorem rep_place {ls : List Sh} {bs : List Bx} {ms : List Mv} {x : List Int} (hh : Hs ls (bs.map clr)) (hx : OkAt ls (bs.map clr) x) (r : Rep ls (bs.map clr) ms x) : ∀ (i : Nat) (b : Bx) (a : Int), bs[i]? = some b → x[i]? = some a → placeE ms b.id = (1, a) := by
  intro i b a hb ha
  have := r.pl i (clr b) a (clr_get hb) ha
  rw [if_neg (ok_nz hh hx a (List.mem_of_getElem? ha))] at this
  exact this
end Go.Abs.Ltop
end
section
namespace Go.Abs.Ltop
open Go Go.Abs Go.Proofs
set_option linter.unusedVariables false
set_option maxRecDepth 20000
abbrev X3 (x0 x1 x2 : List Int) : AV := .agg [NS x0, NS x1, NS x2]
abbrev evC (b s : Int) : AV := .agg [I 0, I 0, I 52, NS [b, 1, s], .nilsl]
/-- a move of a box between shelves comes: what it is -/
theorem c11m {ls : List Sh} {bs : List Bx} {ms : List Mv} (ho : openE ls (bs.map clr) = 0) {x : List Int} (r : Rep ls (bs.map clr) ms x) (ok : OkP ls (bs.map clr) x) (hln : ms.length < 1024) {i : Nat} {b : Bx} {s : Sh} (hb : bs[i]? = some b) (hs : s ∈ ls) :
    Fn Tryz.prog 11 [.agg (encU (uM ls bs ms)), .nilsl, evC b.id s.id] (.tup [.agg (if movE (uM ls bs ms) (evM 0 0 b.id s.id) s (clr b) = 0 then encU (movU (uM ls bs ms) (evM 0 0 b.id s.id) s (clr b)) else zU), I (movE (uM ls bs ms) (evM 0 0 b.id s.id) s (clr b))]) := by
  have hh := hs_of ho
  obtain ⟨k, hk⟩ := List.getElem?_of_mem hs
  have h := c11 (uM ls bs ms) 0 (uM_ok ho r ok (by omega)) rfl i k (clr b) s (clr_get hb) hk (bxI_of hh.bp (clr_get hb)) (shI_of hh.sp hk)
  exact h.args_weak ⟨.refl _, .nil 3, .aggL ⟨.refl _, .refl _, .refl _, .refl _, .nil 1, trivial⟩, trivial⟩
/-- .. one that can be made -/
theorem c11y {ls : List Sh} {bs : List Bx} {ms : List Mv} (ho : openE ls (bs.map clr) = 0) {x : List Int} (r : Rep ls (bs.map clr) ms x) (ok : OkP ls (bs.map clr) x) (hln : ms.length < 1024) {i : Nat} {b : Bx} {a : Int} {s : Sh} (hb : bs[i]? = some b) (ha : x[i]? = some a) (hs : s ∈ ls)
    (hne : s.id ≠ a) (hc : s.clim = b.clim) (hw : wid s.id (x.set i s.id) (bs.map clr) ≤ s.len) :
    ∃ ms', ms'.length = ms.length + 1 ∧ Fn Tryz.prog 11 [.agg (encU (uM ls bs ms)), .nilsl, evC b.id s.id] (.tup [.agg (encU (uM ls bs ms')), I 0]) ∧ Rep ls (bs.map clr) ms' (x.set i s.id) ∧ OkP ls (bs.map clr) (x.set i s.id) := by
  have h := c11m ho r ok hln hb hs
  obtain ⟨h1, h2, h3, h4⟩ := (mov_of (u := uM ls bs ms) (e := evM 0 0 b.id s.id) rfl (hs_of ho) r ok hln (clr_get hb) ha hs).2 hne hc hw
  rw [if_pos h1, h1, h4] at h
  rw [h4] at h2
  exact ⟨ms ++ [mvAt (uM ls bs ms) (evM 0 0 b.id s.id) b.id 1 s.id], by simp, h, h2, h3⟩
/-- one step of a plan -/
theorem step_ev {ls : List Sh} {bs : List Bx} {ms : List Mv} (ho : openE ls (bs.map clr) = 0) {x y : List Int} {c : Cy} (r : Rep ls (bs.map clr) ms x) (hx : OkAt ls (bs.map clr) x) (hln : ms.length < 1024) (hs : StepR ls (bs.map clr) x c y) :
    ∃ (q : Nat) (b : Bx) (s : Sh), bs[q]? = some b ∧ s ∈ ls ∧ c.box = b.id ∧ c.to = s.id ∧ ∃ ms', ms'.length = ms.length + 1 ∧ Fn Tryz.prog 11 [.agg (encU (uM ls bs ms)), .nilsl, evC b.id s.id] (.tup [.agg (encU (uM ls bs ms')), I 0]) ∧ Rep ls (bs.map clr) ms' y ∧ OkAt ls (bs.map clr) y := by
  have hh := hs_of ho
  obtain ⟨q, b0, a, hb0, ha, hc1, hne, ⟨s, hs, hsid⟩, hy, hyok⟩ := hs
  obtain ⟨b, hb, rfl⟩ : ∃ b, bs[q]? = some b ∧ clr b = b0 := by
    rw [List.getElem?_map] at hb0
    cases hq : bs[q]? with
    | none => rw [hq] at hb0; cases hb0
    | some b => rw [hq] at hb0; exact ⟨b, rfl, Option.some.inj hb0⟩
  have hq := (List.getElem?_eq_some_iff.1 ha).1
  have hyq : y[q]? = some c.to := by rw [hy, List.getElem?_set_self hq]
  obtain ⟨s', hs', he', hcl⟩ := clim_get hyok.clim hb0 hyq
  have hss : s' = s := by
    obtain ⟨i, hi⟩ := List.getElem?_of_mem hs'
    obtain ⟨j, hj⟩ := List.getElem?_of_mem hs
    have := sh_inj hh.sp hi hj (by omega)
    subst this
    rw [hi] at hj; exact Option.some.inj hj
  subst hss
  have hw := hyok.wid s' hs
  rw [hy, ← hsid] at hw
  obtain ⟨ms', h1, h2, h3, h4⟩ := c11y ho r hx.p hln hb ha hs (by rw [hsid]; exact hne) hcl hw
  rw [hsid, ← hy] at h3
  exact ⟨q, b, s', hb, hs, by rw [hc1]; rfl, hsid.symm, ms', h1, h2, h3, hyok⟩
theorem mx_nonneg {a : Int} (h1 : -9223372036854775808 ≤ a) (h2 : a ≤ 9223372036854775807) : 0 ≤ maxI a (IntKind.i64.wrap (0 - IntKind.i64.wrap (a + 1))) := by
  unfold maxI
  by_cases h : a < 0
  · rw [wrap64 (x := a + 1) (by omega) (by omega), wrap64 (x := 0 - (a + 1)) (by omega) (by omega)]
    split <;> omega
  · split <;> omega
theorem tmod_idx {m : Int} {n : Nat} (hm : 0 ≤ m) (hn : 0 < n) : ∃ q : Nat, m.tmod (n : Int) = (q : Int) ∧ q < n := by
  have h1 := Int.tmod_nonneg (n : Int) hm
  have h2 := Int.tmod_lt_of_pos m (show (0 : Int) < (n : Int) by omega)
  exact ⟨(m.tmod n).toNat, by omega, by omega⟩
theorem plan_bad {ls : List Sh} {bs : List Bx} {frm to : List Int} (h : ¬ ((planR ls bs frm to).2 = 0 ∨ (planR ls bs frm to).2 = 24)) : ∃ e, planR ls bs frm to = (.nilsl, e) ∧ e ≠ 0 ∧ e ≠ 24 := by
  simp only [not_or] at h
  refine ⟨(planR ls bs frm to).2, ?_, h.1, h.2⟩
  unfold planR at h ⊢
  split
  · rfl
  · split
    · rfl
    · rename_i h1 h2
      rw [if_neg h1, if_neg h2] at h
      split at h
      · exact absurd rfl h.1
      · exact absurd rfl h.2
abbrev OF (ls : List Sh) (bs : List Bx) (x0 x1 x2 : List Int) (ms : List Mv) : List (Nat × OBlk) := [(80, ⟨25, 3, .any, [[NS x0, NS x1, NS x2]], []⟩), (144, ⟨42, 16, .any, [encU (uM ls bs ms)], []⟩)]
abbrev rw0 (ls : List Sh) (bs : List Bx) : List AV := [.nilsl, .nilsl, .nilsl, I 0, .nilsl, .nilsl, BS (bs.map clr), SS ls, .nilsl, .nilsl, I 1, .nilsl, .nilsl, .nilsl, .nilsl, I 0]
set_option maxHeartbeats 8000000 in
theorem c3 (ls : List Sh) (bs : List Bx) (x0 x1 x2 : List Int) (hw2 : ∀ n ∈ x2, -9223372036854775808 ≤ n ∧ n ≤ 9223372036854775807) (hb : bs.length ≤ 9223372036854775807) (hl : ls.length ≤ 9223372036854775807)
    (haw : Fn Tryz.prog 4 [] (B true)) : Fn Tryz.prog 3 [SS ls, BS bs, X3 x0 x1 x2] (B true) := by
  have a5 := c5 ls bs hb
  by_cases hfew : fewE ls bs = false ∨ 30 < x0.length ∨ 30 < x1.length ∨ 30 < x2.length
  · cases hw : fewE ls bs with
    | false =>
      rw [hw] at a5
      exact mkG3 [] [] rfl ⟨[(2, false), (8, true), (14, true), (20, true)], _, haw, rfl, _, a5, rfl, rfl, rfl, fun _ => ⟨_, haw, _, WkP.refl _ _, rfl, rfl, rfl⟩, fun h => (by cases h)⟩
    | true =>
      rw [hw] at a5
      by_cases h0 : 30 < x0.length
      · have g0 : decide ((x0.length : Int) > 30) = true := decide_eq_true (by omega)
        exact mkG3 [] [] rfl ⟨[(2, false), (8, false), (14, true), (20, true)], _, haw, rfl, _, a5, rfl, g0, rfl, fun _ => ⟨_, haw, _, WkP.refl _ _, rfl, rfl, rfl⟩, fun h => (by cases h)⟩
      · have g0 : decide ((x0.length : Int) > 30) = false := decide_eq_false (by omega)
        by_cases h1 : 30 < x1.length
        · have g1 : decide ((x1.length : Int) > 30) = true := decide_eq_true (by omega)
          exact mkG3 [] [] rfl ⟨[(2, false), (8, false), (14, false), (20, true)], _, haw, rfl, _, a5, rfl, g0, g1, fun _ => ⟨_, haw, _, WkP.refl _ _, rfl, rfl, rfl⟩, fun h => (by cases h)⟩
        · have g1 : decide ((x1.length : Int) > 30) = false := decide_eq_false (by omega)
          have g2 : decide ((x2.length : Int) > 30) = true := decide_eq_true (by rw [hw] at hfew; simp at hfew; omega)
          exact mkG3 [] [] rfl ⟨[(2, false), (8, false), (14, false), (20, false)], _, haw, rfl, _, a5, rfl, g0, g1, fun _ => ⟨_, haw, _, WkP.refl _ _, rfl, rfl, rfl⟩, fun h => absurd (show (false || decide ((x2.length : Int) > 30)) = false from h) (by rw [g2]; decide)⟩
  simp only [not_or, Nat.not_lt, Bool.not_eq_false] at hfew
  obtain ⟨hfw, hx0, hx1, hx2⟩ := hfew
  have hfw' := hfw
  unfold fewE fewB at hfw'
  simp only [Bool.and_eq_true, Bool.or_eq_true, decide_eq_true_eq, List.all_eq_true] at hfw'
  obtain ⟨⟨hls, hcont, hbs⟩, hsz⟩ := hfw'
  rw [hfw] at a5
  have a6 := c6 1 0 rfl rfl
  have a7 := c7 (ls.map encS) (by simp; omega) (sc4 ls)
  rw [List.length_map] at a7
  have a8 := c8' bs (by omega)
  have a10 := c10N x0 (by omega)
  have a10' := c10N x1 (by omega)
  have a9 := c9 ls (bs.map clr) x0 x1 (by omega) (by simp; omega) (fun b hb => by obtain ⟨c, _, rfl⟩ := List.mem_map.1 hb; simp [clr])
  have g0 : decide ((x0.length : Int) > 30) = false := decide_eq_false (by omega)
  have g1 : decide ((x1.length : Int) > 30) = false := decide_eq_false (by omega)
  have g2 : decide ((x2.length : Int) > 30) = false := decide_eq_false (by omega)
  by_cases hP : (planR ls (bs.map clr) x0 x1).2 = 0 ∨ (planR ls (bs.map clr) x0 x1).2 = 24
  case neg =>
    obtain ⟨e, hpe, he0, he24⟩ := plan_bad hP
    rw [hpe] at a9
    have q0 : (e != 0) = true := by simpa using he0
    have q1 : (e != 24) = true := by simpa using he24
    refine mkG3 [] [] rfl ⟨[(2, false), (8, false), (14, false), (20, false)], _, haw, rfl, _, a5, rfl, g0, g1, fun h => absurd (show (false || decide ((x2.length : Int) > 30)) = true from h) (by rw [g2]; decide), fun _ => ?_⟩
    refine ⟨_, a6, fun h => (by cases h), fun _ => ?_⟩
    refine ⟨_, a7, true, _, a8, true, _, a7, true, _, a8, true, _, a10, true, _, a10', true, _, a9, ?_⟩
    exact ⟨[(2, true), (6, true), (13, true)], q0, q1, rfl, fun _ => ⟨_, WkP.refl _ _, rfl, rfl, by rw [← q0]; rfl⟩, fun h => (by cases h)⟩
  obtain ⟨ho, hh, hf, ht, hpl⟩ := plan_ok hP
  have hx0l : x0.length = bs.length := by have := hf.len; simpa using this
  have hx1l : x1.length = bs.length := by have := ht.len; simpa using this
  obtain ⟨pp, f, a9', hpf⟩ : ∃ (pp : List Cy) (f : Int), Fn Tryz.prog 9 [SS ls, BS (bs.map clr), NS x0, NS x1] (.tup [YS pp, I f]) ∧ ((f = 0 ∧ planE x1 (searchE ls (bs.map clr) x0) = some pp) ∨ (f = 24 ∧ planE x1 (searchE ls (bs.map clr) x0) = none)) := by
    rcases hpl with ⟨p, h1, h2⟩ | ⟨h1, h2⟩
    · rw [h2] at a9; exact ⟨p, 0, a9, .inl ⟨rfl, h1⟩⟩
    · rw [h2] at a9; exact ⟨[], 24, a9.res_weak rfl rfl (.nil 3), .inr ⟨rfl, h1⟩⟩
  have e0 : ((x0.length : Int) != bs.length) = false := by simp [hx0l]
  have e1 : ((x1.length : Int) != bs.length) = false := by simp [hx1l]
  refine mkG3 [] [] rfl ⟨[(2, false), (8, false), (14, false), (20, false)], _, haw, rfl, _, a5, rfl, g0, g1, fun h => absurd (show (false || decide ((x2.length : Int) > 30)) = true from h) (by rw [g2]; decide), fun _ => ?_⟩
  refine ⟨_, a6, fun h => (by cases h), fun _ => ?_⟩
  refine ⟨_, a7, true, _, a8, true, _, a7, true, _, a8, true, _, a10, true, _, a10', true, _, a9', ?_⟩
  have hsplit : f = 0 ∨ f = 24 := by rcases hpf with h | h; exact .inl h.1; exact .inr h.1
  rcases hsplit with hf0 | hf0
  all_goals first
  | refine ⟨[(2, false), (6, false), (13, false)], (show (f != 0) = false by rw [hf0]; rfl), rfl, e0, fun h => absurd (show (false || ((x1.length : Int) != bs.length)) = true from h) (by rw [e1]; decide), fun _ => ?_⟩
  | refine ⟨[(2, true), (6, false), (13, false)], (show (f != 0) = true by rw [hf0]; rfl), (show (f != 24) = false by rw [hf0]; rfl), e0, fun h => absurd (show (false || ((x1.length : Int) != bs.length)) = true from h) (by rw [e1]; decide), fun _ => ?_⟩
  all_goals
    refine ⟨fun n c => ∃ (i : Nat) (ms : List Mv), i ≤ bs.length ∧ n = bs.length - i ∧ ms.length = i ∧ Rep ls (bs.map clr) ms (pref i x0) ∧ c = ⟨[(0, SS ls), (1, BS bs), (5, .ovar 80 0), (6, B false), (7, NS x0), (8, NS x1), (9, .ovar 144 0), (10, I 0), (11, YS pp), (12, I f), (99, BS bs), (100, I bs.length), (101, I i)], OF ls bs x0 x1 x2 ms⟩,
      ⟨_, _, (WkP.row 144 (e := 42) (sz := 16) (row := rw0 ls bs) (encU (uM ls bs [])) rfl ⟨.nil 5, .nil 6, .nil 6, .refl _, .nil 6, .nil 6, .refl _, .refl _, .nil 6, .nil 7, .refl _, .nil 4, .nil 8, .nil 2, .nil 3, .refl _, trivial⟩).trans (WkP.keep [0, 1, 5, 6, 7, 8, 9, 10, 11, 12, 99, 100, 101] [80, 144]), 0, [], by omega, rfl, rfl, ?_, rfl⟩, ?_⟩
    · have := Rep.nil (ls := ls) (bs := bs.map clr)
      rw [pref_zero, hx0l]
      simpa using this
    rintro n c ⟨i, ms, hi, rfl, hml, hr, rfl⟩
    refine ⟨fun hlt => ?_, fun hlt => ?_⟩
    · simp at hlt
      obtain ⟨b, hbb, _, _⟩ := drop_cons hlt
      obtain ⟨a, ha, _, _⟩ := drop_cons (l := x0) (i := i) (by omega)
      obtain ⟨s, hs, hsa, hsc⟩ := clim_get hf.clim (clr_get hbb) ha
      have hok := hf.p.pref hh i
      have hset : (pref i x0).set i s.id = pref (i + 1) x0 := by rw [hsa]; exact pref_succ ha
      have hsb := sid_bd hh hs
      obtain ⟨ms', hml', hst, hr', hok'⟩ := c11y ho hr hok (by omega) hbb (pref_get (by omega)) hs (by omega) hsc (by rw [hset]; exact (hf.p.pref hh (i + 1)).wid s hs)
      rw [hset] at hr'
      rw [hsa] at hst
      refine ⟨⟨by omega, by omega⟩, encB b, by simp [hbb], ⟨by omega, by omega⟩, [I a], by simp [ha], ?_⟩
      refine ⟨_, hst, fun h => (by cases h), fun _ => ?_⟩
      refine ⟨_, wrap64 (by omega) (by omega), ?_⟩
      refine ⟨_, _, WkP.keep [0, 1, 5, 6, 7, 8, 9, 10, 11, 12, 99, 100, 101] [80, 144], by omega, i + 1, ms', by omega, rfl, by omega, hr', rfl⟩
    · simp at hlt
      have : i = bs.length := by omega
      subst this
      have hpa : pref bs.length x0 = x0 := by rw [← hx0l]; exact pref_all x0
      rw [hpa] at hr
      refine ⟨fun hf1 => ?_, fun hf1 => ?_⟩
      · -- a plan: step by step
        have hf1 : f = 0 := by simpa using hf1
        have hpl1 : planE x1 (searchE ls (bs.map clr) x0) = some pp := by
          rcases hpf with h | h
          · exact h.2
          · exact absurd (h.1.symm.trans hf1) (by decide)
        have hsi := search_SI hh hf
        have hpath : PathR ls (bs.map clr) x0 pp x1 := hsi.pt _ (planE_mem hpl1)
        have hfs := few_size ho (by rw [clr_len]; exact hsz)
        have hlen : pp.length < (searchE ls (bs.map clr) x0).length := hsi.ln _ (planE_mem hpl1)
        have hE := hsi.few hh hf
        refine ⟨fun n c => ∃ (j : Nat) (ms : List Mv) (x : List Int), j ≤ pp.length ∧ n = pp.length - j ∧ ms.length = bs.length + j ∧ Rep ls (bs.map clr) ms x ∧ OkAt ls (bs.map clr) x ∧ PathR ls (bs.map clr) x (pp.drop j) x1 ∧
            c = ⟨[(0, SS ls), (1, BS bs), (5, .ovar 80 0), (6, B false), (8, NS x1), (9, .ovar 144 0), (10, I 0), (124, YS pp), (125, I pp.length), (126, I j)], OF ls bs x0 x1 x2 ms⟩,
          ⟨_, _, WkP.keep [0, 1, 5, 6, 8, 9, 10, 124, 125, 126] [80, 144], 0, ms, x0, by omega, rfl, by omega, hr, hf, by simpa using hpath, rfl⟩, ?_⟩
        rintro n c ⟨j, ms, x, hj, rfl, hml, hr, hx, hp, rfl⟩
        refine ⟨fun hlt => ?_, fun hlt => ?_⟩
        · simp at hlt
          obtain ⟨c, hc, hcd, _⟩ := drop_cons hlt
          rw [hcd] at hp
          obtain ⟨y, hs1, hp2⟩ := hp.uncons
          obtain ⟨q, b, s, hb, hs, hcb, hct, ms', hml', hst, hr', hyok⟩ := step_ev ho hr hx (by omega) hs1
          rw [← hcb, ← hct] at hst
          refine ⟨⟨by omega, by omega⟩, encY c, by simp [hc], _, hst, fun h => (by cases h), fun _ => ?_⟩
          refine ⟨_, wrap64 (by omega) (by omega), ?_⟩
          exact ⟨_, _, WkP.keep [0, 1, 5, 6, 8, 9, 10, 124, 125, 126] [80, 144], by omega, j + 1, ms', y, by omega, rfl, by omega, hr', hyok, hp2, rfl⟩
        · simp at hlt
          have : j = pp.length := by omega
          subst this
          rw [List.drop_length] at hp
          have := hp.nil_inv
          subst this
          have a12 := c12 (uM ls bs ms) (uM_ok ho hr hx.p (by omega)) (by simp) (by simp) bs x1 hx1l (by omega) (fun b hb => clr_mem hb)
          rw [(rch_iff bs x1 x1 hx1l hx1l (rep_place hh hx hr)).2 rfl] at a12
          exact ⟨_, a12, _, WkP.refl _ _, rfl, rfl, rfl⟩
      · -- no plan: other moves do not lead there
        have hf1 : f ≠ 0 := by simpa using hf1
        have hno : planE x1 (searchE ls (bs.map clr) x0) = none := by
          rcases hpf with h | h
          · exact absurd h.1 hf1
          · exact h.2
        have hsi := search_SI hh hf
        have hnot : ∀ p, ¬ PathR ls (bs.map clr) x0 p x1 := fun p hp => planE_none.1 hno (hsi.done hp)
        refine ⟨fun n c => ∃ (k : Nat) (ms : List Mv) (x : List Int), k ≤ x2.length + 1 ∧ n = 100 - k ∧ ms.length ≤ bs.length + k ∧ Rep ls (bs.map clr) ms x ∧ OkAt ls (bs.map clr) x ∧ (∃ p, PathR ls (bs.map clr) x0 p x) ∧
            c = ⟨[(0, SS ls), (1, BS bs), (5, .ovar 80 0), (6, B false), (8, NS x1), (9, .ovar 144 0), (17, I k)], OF ls bs x0 x1 x2 ms⟩,
          ⟨_, _, WkP.keep [0, 1, 5, 6, 8, 9, 17] [80, 144], 0, ms, x0, by omega, rfl, by omega, hr, hf, ⟨[], .nil⟩, rfl⟩, ?_⟩
        rintro n c ⟨k, ms, x, hk, rfl, hml, hr, hx, ⟨p, hp⟩, rfl⟩
        by_cases h1 : k + 1 < x2.length
        · have g1 : decide (((k : Int) + 1) < x2.length) = true := decide_eq_true (by omega)
          by_cases h2 : 0 < bs.length
          · have g2 : decide ((bs.length : Int) > 0) = true := decide_eq_true (by omega)
            by_cases h3 : 0 < ls.length
            · have g3 : decide ((ls.length : Int) > 0) = true := decide_eq_true (by omega)
              refine ⟨[(6, true), (11, true)], _, wrap64 (by omega) (by omega), g1, g2, fun _ => ?_, fun h => absurd (show decide ((ls.length : Int) > 0) = false from h) (by rw [g3]; decide)⟩
              obtain ⟨v, hv, _, _⟩ := drop_cons (l := x2) (i := k) (by omega)
              obtain ⟨v', hv', _, _⟩ := drop_cons (l := x2) (i := k + 1) (by omega)
              have hvr := hw2 v (List.mem_of_getElem? hv)
              have hvr' := hw2 v' (List.mem_of_getElem? hv')
              obtain ⟨q, hq, hql⟩ := tmod_idx (mx_nonneg hvr.1 hvr.2) h2
              obtain ⟨t, ht', htl⟩ := tmod_idx (mx_nonneg hvr'.1 hvr'.2) h3
              obtain ⟨b, hb, _, _⟩ := drop_cons (l := bs) (i := q) hql
              obtain ⟨s, hs, _, _⟩ := drop_cons (l := ls) (i := t) htl
              have hsm := List.mem_of_getElem? hs
              have a13 := c13 (uM ls bs ms) (by simp; omega) (by show ls.length ≤ 1000; omega) (by show ms.length ≤ 2000; omega) (by simp) (by simp) (fun b hb => by obtain ⟨c, _, rfl⟩ := List.mem_map.1 hb; simp [clr])
              have hrow1 : (bs.map encB)[((maxI v (IntKind.i64.wrap (0 - IntKind.i64.wrap (v + 1)))).tmod (bs.length : Int)).toNat]? = some (encB b) := by rw [hq, Int.toNat_natCast, List.getElem?_map, hb]; rfl
              have hrow2 : (ls.map encS)[((maxI v' (IntKind.i64.wrap (0 - IntKind.i64.wrap (v' + 1)))).tmod (ls.length : Int)).toNat]? = some (encS s) := by rw [ht', Int.toNat_natCast, List.getElem?_map, hs]; rfl
              have hk1 : (x2.map fun n => [I n])[((k : Int) + 1).toNat]? = some [I v'] := by rw [show ((k : Int) + 1).toNat = k + 1 by omega, List.getElem?_map, hv']; rfl
              refine ⟨⟨by omega, by omega⟩, [I v], by simp [hv], ⟨by omega, by omega⟩, [I v], by simp [hv], _, rfl, _, rfl, by omega, ⟨by rw [hq]; omega, by rw [hq]; omega⟩, encB b, hrow1, ?_⟩
              refine ⟨_, wrap64 (by omega) (by omega), ⟨by omega, by omega⟩, [I v'], hk1, _, wrap64 (by omega) (by omega), ⟨by omega, by omega⟩, [I v'], hk1, _, rfl, _, rfl, by omega, ⟨by rw [ht']; omega, by rw [ht']; omega⟩, encS s, hrow2, ?_⟩
              have hxl : x.length = bs.length := by have := hx.len; simpa using this
              obtain ⟨a, ha, _, _⟩ := drop_cons (l := x) (i := q) (by omega)
              by_cases hm : movE (uM ls bs ms) (evM 0 0 b.id s.id) s (clr b) = 0
              · obtain ⟨m1, m2, m3⟩ := (mov_of (u := uM ls bs ms) (e := evM 0 0 b.id s.id) rfl hh hr hx.p (by show ms.length < 1024; omega) (clr_get hb) ha hsm).1 hm
                obtain ⟨ms', hml', hst, hr', hok'⟩ := c11y ho hr hx.p (by omega) hb ha hsm m1 m2 m3
                have hy : OkAt ls (bs.map clr) (x.set q s.id) := hok'.at fun z hz => by
                  rcases List.mem_or_eq_of_mem_set hz with h | h
                  · exact ok_nz hh hx z h
                  · have := sid_bd hh hsm; omega
                have hp' := PathR.snoc hp (⟨q, clr b, a, clr_get hb, ha, rfl, m1, ⟨s, hsm, rfl⟩, rfl, hy⟩ : StepR ls (bs.map clr) x ⟨b.id, a, s.id⟩ (x.set q s.id))
                have a12 := c12 (uM ls bs ms') (uM_ok ho hr' hok' (by omega)) (by simp) (by simp) bs x1 hx1l (by omega) (fun b hb => clr_mem hb)
                have hfl : rchGo (placeE ms') bs x1 = false := by
                  cases hc : rchGo (placeE ms') bs x1 with
                  | false => rfl
                  | true => exact absurd hp' (((rch_iff bs (x.set q s.id) x1 (by rw [List.length_set]; exact hxl) hx1l (rep_place hh hy hr')).1 hc) ▸ hnot _)
                rw [hfl] at a12
                refine ⟨_, a13, _, hst, fun _ => ⟨_, a12, fun h => (by cases h), fun _ => ?_⟩, fun h => (by cases h)⟩
                refine ⟨_, wrap64 (by omega) (by omega), ?_⟩
                exact ⟨_, _, WkP.keep [0, 1, 5, 6, 8, 9, 17] [80, 144], by omega, k + 2, ms', x.set q s.id, by omega, rfl, by omega, hr', hy, ⟨_, hp'⟩, rfl⟩
              · have hst := c11m ho hr hx.p (by omega) hb hsm
                rw [if_neg hm] at hst
                have a12 := c12 (uM ls bs ms) (uM_ok ho hr hx.p (by omega)) (by simp) (by simp) bs x1 hx1l (by omega) (fun b hb => clr_mem hb)
                have hfl : rchGo (placeE ms) bs x1 = false := by
                  cases hc : rchGo (placeE ms) bs x1 with
                  | false => rfl
                  | true => exact absurd hp (((rch_iff bs x x1 hxl hx1l (rep_place hh hx hr)).1 hc) ▸ hnot _)
                rw [hfl] at a12
                refine ⟨_, a13, _, hst, fun h => absurd (by simpa using h) hm, fun _ => ⟨_, a12, fun h => (by cases h), fun _ => ?_⟩⟩
                refine ⟨_, wrap64 (by omega) (by omega), ?_⟩
                exact ⟨_, _, WkP.keep [0, 1, 5, 6, 8, 9, 17] [80, 144], by omega, k + 2, ms, x, by omega, rfl, by omega, hr, hx, ⟨_, hp⟩, rfl⟩
            · have g3 : decide ((ls.length : Int) > 0) = false := decide_eq_false (by omega)
              exact ⟨[(6, true), (11, true)], _, wrap64 (by omega) (by omega), g1, g2, fun h => absurd (show decide ((ls.length : Int) > 0) = true from h) (by rw [g3]; decide), fun _ => ⟨_, WkP.refl _ _, rfl, rfl, rfl⟩⟩
          · have g2 : decide ((bs.length : Int) > 0) = false := decide_eq_false (by omega)
            exact ⟨[(6, true), (11, false)], _, wrap64 (by omega) (by omega), g1, g2, fun h => (by cases h), fun _ => ⟨_, WkP.refl _ _, rfl, rfl, rfl⟩⟩
        · have g1 : decide (((k : Int) + 1) < x2.length) = false := decide_eq_false (by omega)
          exact ⟨[(6, false), (11, false)], _, wrap64 (by omega) (by omega), g1, rfl, fun h => (by cases h), fun _ => ⟨_, WkP.refl _ _, rfl, rfl, rfl⟩⟩
end Go.Abs.Ltop
end
