import Derived.Test.YteihenhffdckiaaGreatDoorJ9
section
namespace Go.Abs
open Go.RowKit
set_option linter.unusedVariables false

/-! ### an operation looks at its operands alone -/
theorem fillE_congr {val val' : Operand → AV} {place : Nat → Option (Nat × Nat)} : ∀ {parts : List (Nat × Operand)} {row : List AV}, (∀ p ∈ parts, val p.2 = val' p.2) → fillE place val parts row = fillE place val' parts row
  | [], _, _ => rfl
  | (i, x) :: r, row, h => by
    have h0 := h (i, x) (by simp)
    simp only at h0
    simp only [fillE, h0]
    split
    · rfl
    · split
      · rfl
      · split
        · split
          · exact fillE_congr fun p hp => h p (by simp [hp])
          · rfl
        · rfl
theorem map_congr' {val val' : Operand → AV} {xs : List Operand} (h : ∀ x ∈ xs, val x = val' x) : xs.map val = xs.map val' := List.map_congr_left h

theorem evOp_congr {dr : Bool} {T : Tab} {val val' : Operand → AV} {own : Nat → Option OBlk} {o : Oper} (h : ∀ x ∈ o.op.operands, val x = val' x) : evOp dr T val own o = evOp dr T val' own o := by
  have hm : ∀ {xs : Array Operand}, (∀ x ∈ xs, x ∈ o.op.operands) → xs.toList.map val = xs.toList.map val' := fun hx => map_congr' fun x hx' => h x (hx x (by simpa using hx'))
  cases hop : o.op with
  | move x => simp only [evOp, hop]; rw [h x (by simp [hop, Op.operands])]
  | assign x => simp only [evOp, hop]; rw [h x (by simp [hop, Op.operands])]
  | box t x => simp only [evOp, hop]; rw [h x (by simp [hop, Op.operands])]
  | load t x => simp only [evOp, hop]; rw [h x (by simp [hop, Op.operands])]
  | store t x y => simp only [evOp, hop]; rw [h x (by simp [hop, Op.operands]), h y (by simp [hop, Op.operands])]
  | binOp op t x y t' => simp only [evOp, hop]; rw [h x (by simp [hop, Op.operands]), h y (by simp [hop, Op.operands])]
  | unOp op t x =>
    have := h x (by simp [hop, Op.operands])
    cases op <;> simp only [evOp, hop, this]
  | convert s t x => simp only [evOp, hop]; rw [h x (by simp [hop, Op.operands])]
  | fieldAddr s x f => simp only [evOp, hop]; rw [h x (by simp [hop, Op.operands])]
  | field s x f => simp only [evOp, hop]; rw [h x (by simp [hop, Op.operands])]
  | indexAddr t x ix => simp only [evOp, hop]; rw [h x (by simp [hop, Op.operands]), h ix (by simp [hop, Op.operands])]
  | extract x k => simp only [evOp, hop]; rw [h x (by simp [hop, Op.operands])]
  | pick x y z => simp only [evOp, hop]; rw [h x (by simp [hop, Op.operands]), h y (by simp [hop, Op.operands]), h z (by simp [hop, Op.operands])]
  | makeFunc fn first caps =>
    have hc : caps.toList.map (fun x => (val x).noopt) = caps.toList.map (fun x => (val' x).noopt) := List.map_congr_left fun x hx => by rw [h x (by simp [hop, Op.operands]; exact .inr (by simpa using hx))]
    cases fn <;> simp only [evOp, hop, hc]
  | build t parts =>
    have hf : ∀ place row, fillE place val parts.toList row = fillE place val' parts.toList row := fun place row => fillE_congr fun p hp => h p.2 (by simp [hop, Op.operands]; exact ⟨p.1, by simpa using hp⟩)
    simp only [evOp, hop, hf]
  | buildSlice t n parts =>
    have hf : ∀ place row, fillE place val parts.toList row = fillE place val' parts.toList row := fun place row => fillE_congr fun p hp => h p.2 (by simp [hop, Op.operands]; exact ⟨p.1, by simpa using hp⟩)
    simp only [evOp, hop, hf]
  | makeSlice t l c => simp only [evOp, hop]; rw [h l (by simp [hop, Op.operands]), h c (by simp [hop, Op.operands])]
  | slice t x lo hi mx =>
    have hx := h x (by simp [hop, Op.operands])
    have hl : lo.map val = lo.map val' := by cases lo with | none => rfl | some l => simp [h l (by simp [hop, Op.operands])]
    have hh : hi.map val = hi.map val' := by cases hi with | none => rfl | some l => simp [h l (by simp [hop, Op.operands])]
    cases mx with
    | none => simp only [evOp, hop, hx, hl, hh]
    | some m =>
      have hm := h m (by simp [hop, Op.operands])
      cases lo with
      | none => simp only [evOp, hop]
      | some l => cases hi with
        | none => simp only [evOp, hop]
        | some k => simp only [evOp, hop, hx, hm, h l (by simp [hop, Op.operands]), h k (by simp [hop, Op.operands])]
  | index t x ix => simp only [evOp, hop]; rw [h x (by simp [hop, Op.operands]), h ix (by simp [hop, Op.operands])]
  | call cl =>
    obtain ⟨callee, args, ts⟩ := cl
    have hargs : args.toList.map val = args.toList.map val' := hm fun x hx => by rw [hop]; simp only [Op.operands, Call.operands]; cases callee <;> simp [hx]
    cases callee with
    | value f => simp only [evOp, hop, callA, hargs, h f (by simp [hop, Op.operands, Call.operands])]
    | invoke x m => simp only [evOp, hop, callA]
    | builtin b => cases b <;> simp only [evOp, hop, callA, hargs]
  | lookup t m k ok => simp only [evOp, hop]; rw [h m (by simp [hop, Op.operands]), h k (by simp [hop, Op.operands])]
  | mapUpdate t m k v => simp only [evOp, hop]; rw [h m (by simp [hop, Op.operands]), h k (by simp [hop, Op.operands]), h v (by simp [hop, Op.operands])]
  | insert t m k v => simp only [evOp, hop]; rw [h m (by simp [hop, Op.operands]), h k (by simp [hop, Op.operands]), h v (by simp [hop, Op.operands])]
  | mapEntry t m k => simp only [evOp, hop]; rw [h m (by simp [hop, Op.operands]), h k (by simp [hop, Op.operands])]
  | entryStore t m s v => simp only [evOp, hop]; rw [h m (by simp [hop, Op.operands]), h s (by simp [hop, Op.operands]), h v (by simp [hop, Op.operands])]
  | nilCheck x => simp only [evOp, hop]; rw [h x (by simp [hop, Op.operands])]
  | makeMap t q => cases q <;> simp only [evOp, hop]
  | range t x => simp only [evOp, hop]; rw [h x (by simp [hop, Op.operands])]
  | next x q => cases q <;> simp only [evOp, hop]; rw [h x (by simp [hop, Op.operands])]
  | _ => simp only [evOp, hop]

/-! ### an operation looks at the blocks that its operands lead to, and at no others -/
section
variable {own own' : Nat → Option OBlk}
/-- the values lead to b -/
def RReach (own : Nat → Option OBlk) (vals : List AV) (b : Nat) : Prop := AV.hasL b vals = true ∨ ∃ i x, own i = some x ∧ x.kd = .any ∧ AV.hasL i vals = true ∧ hasRow b x.rows = true
theorem hasL_mem {b : Nat} {u : AV} : ∀ {us : List AV}, u ∈ us → u.has b = true → AV.hasL b us = true
  | x :: xs, h, hu => by
    rcases List.mem_cons.1 h with rfl | h
    · simp [AV.hasL, hu]
    · simp [AV.hasL, hasL_mem h hu]
theorem RReach.mem {u : AV} {us : List AV} {b : Nat} (hu : u ∈ us) (h : RReach own [u] b) : RReach own us b := by
  rcases h with h | ⟨i, x, h1, h2, h3, h4⟩
  · simp [AV.hasL] at h; exact .inl (hasL_mem hu h)
  · simp [AV.hasL] at h3; exact .inr ⟨i, x, h1, h2, hasL_mem hu h3, h4⟩
theorem RReach.sub {us vs : List AV} {b : Nat} (hs : ∀ b, AV.hasL b us = true → AV.hasL b vs = true) (h : RReach own us b) : RReach own vs b := by
  rcases h with h | ⟨i, x, h1, h2, h3, h4⟩
  · exact .inl (hs b h)
  · exact .inr ⟨i, x, h1, h2, hs i h3, h4⟩
theorem viewCell_own {u : AV} (h : ∀ b, u.has b = true → own' b = own b) : viewCell own' u = viewCell own u := by
  cases u <;> simp only [viewCell]
  · rename_i b sz n
    rw [h b (by simp [AV.has])]
  · rename_i b
    rw [h b (by simp [AV.has])]
theorem viewCells_own : ∀ {us : List AV}, (∀ b, AV.hasL b us = true → own' b = own b) → viewCells own' us = viewCells own us
  | [], _ => rfl
  | x :: xs, h => by
    simp only [viewCells]
    rw [viewCell_own fun b hb => h b (by simp [AV.hasL, hb]), viewCells_own (us := xs) fun b hb => h b (by simp [AV.hasL, hb])]
theorem viewRows_own : ∀ {us : List (List AV)}, (∀ b, hasRow b us = true → own' b = own b) → viewRows own' us = viewRows own us
  | [], _ => rfl
  | x :: xs, h => by
    simp only [viewRows]
    rw [viewCells_own fun b hb => h b (by simp [hasRow, hb]), viewRows_own (us := xs) fun b hb => h b (by simp only [hasRow, Bool.or_eq_true]; exact .inr hb)]
theorem hasRow_of_take {b : Nat} : ∀ {us : List (List AV)} {n : Nat}, hasRow b (us.take n) = true → hasRow b us = true
  | [], n, h => by simp at h; exact h
  | x :: xs, 0, h => by simp [hasRow] at h
  | x :: xs, n + 1, h => by
    simp only [List.take_succ_cons, hasRow, Bool.or_eq_true] at h ⊢
    exact h.imp id hasRow_of_take
theorem view1_own {u : AV} (h : ∀ b, RReach own [u] b → own' b = own b) : view1 own' u = view1 own u := by
  have h0 : ∀ b, u.has b = true → own' b = own b := fun b hb => h b (.inl (by simp [AV.hasL, hb]))
  cases u with
  | osl b sz n =>
    simp only [view1]
    rw [h0 b (by simp [AV.has])]
    cases hb : own b with
    | none => rfl
    | some blk =>
      obtain ⟨e, sz', kd, rows, ents⟩ := blk
      cases kd with
      | pure => exact viewCell_own h0
      | flat => exact viewCell_own h0
      | map ag st => exact viewCell_own h0
      | any =>
        simp only
        rw [viewRows_own fun b' hb' => h b' (.inr ⟨b, _, hb, rfl, by simp [AV.hasL, AV.has], hasRow_of_take hb'⟩)]
  | ovar b off =>
    simp only [view1]
    rw [h0 b (by simp [AV.has])]
    cases hb : own b with
    | none => rfl
    | some blk =>
      obtain ⟨e, sz, kd, rows, ents⟩ := blk
      cases kd with
      | pure => rfl
      | flat => rfl
      | map ag st => rfl
      | any =>
        match rows, hb with
        | [], _ => rfl
        | [row], hb =>
          simp only
          rw [viewCells_own fun b' hb' => h b' (.inr ⟨b, _, hb, rfl, by simp [AV.hasL, AV.has], by simp [hasRow, hb']⟩)]
        | _ :: _ :: _, _ => rfl
  | agg xs =>
    simp only [view1]
    rw [viewCells_own fun b hb => h0 b (by simpa [AV.has] using hb)]
  | _ => simp only [view1]; exact viewCell_own h0
theorem views1_own : ∀ {us : List AV}, (∀ b, RReach own us b → own' b = own b) → views1 own' us = views1 own us
  | [], _ => rfl
  | x :: xs, h => by
    simp only [views1]
    rw [view1_own fun b hb => h b (hb.mem (by simp)), views1_own (us := xs) fun b hb => h b (hb.sub fun b hb => by simp [AV.hasL, hb])]
theorem view_own {u : AV} (h : ∀ b, RReach own [u] b → own' b = own b) : view own' u = view own u := by
  cases u with
  | func f caps =>
    simp only [view]
    rw [views1_own fun b hb => h b (hb.sub fun b hb => by simpa [AV.hasL, AV.has] using hb)]
  | _ => simp only [view]; exact view1_own h
theorem views_own : ∀ {us : List AV}, (∀ b, RReach own us b → own' b = own b) → views own' us = views own us
  | [], _ => rfl
  | x :: xs, h => by
    simp only [views]
    rw [view_own fun b hb => h b (hb.mem (by simp)), views_own (us := xs) fun b hb => h b (hb.sub fun b hb => by simp [AV.hasL, hb])]
theorem cellsOnly_own {b : Nat} (h : own' b = own b) : cellsOnly own' b = cellsOnly own b := by simp only [cellsOnly, h]
theorem seeM_own {u : AV} (h : ∀ b, u.has b = true → own' b = own b) : seeM own' u = seeM own u := by
  cases u <;> simp only [seeM]
  rename_i b
  rw [h b (by simp [AV.has])]
theorem loadA_own {i : TyI} {u : AV} (h : ∀ b, u.has b = true → own' b = own b) : loadA i own' u = loadA i own u := by
  cases u <;> simp only [loadA]
  · rename_i b off; rw [h b (by simp [AV.has])]
  · rename_i b sz k off; rw [h b (by simp [AV.has])]
theorem storeA_own {i : TyI} {u v : AV} (h : ∀ b, u.has b = true → own' b = own b) : storeA i own' u v = storeA i own u v := by
  cases u <;> simp only [storeA]
  · rename_i b off; rw [h b (by simp [AV.has])]
  · rename_i b sz k off; rw [h b (by simp [AV.has])]
theorem srcRows_own {n : Nat} {u : AV} (h : ∀ b, u.has b = true → own' b = own b) : srcRows own' n u = srcRows own n u := by
  cases u <;> simp only [srcRows]
  rename_i b sz n; rw [h b (by simp [AV.has])]
theorem bytesA_own {T : Tab} {s t : Nat} {u : AV} (h : ∀ b, u.has b = true → own' b = own b) : bytesA T own' s t u = bytesA T own s t u := by
  unfold bytesA
  rw [srcRows_own h]
theorem appendA_own {dr : Bool} {T : Tab} {dst : Option Nat} {t : Nat} {s x : AV} (hs : ∀ b, s.has b = true → own' b = own b) (hx : ∀ b, x.has b = true → own' b = own b) : appendA dr T own' dst t s x = appendA dr T own dst t s x := by
  have e : ∀ n, srcRows own' n x = srcRows own n x := fun n => srcRows_own hx
  cases s <;> simp only [appendA, e]
  rename_i b sz n
  rw [hs b (by simp [AV.has])]
theorem cutA_own {T : Tab} {t : Nat} {x : AV} {lo hi : Option AV} (hx : ∀ b, x.has b = true → own' b = own b) : cutA T own' t x lo hi = cutA T own t x lo hi := by
  unfold cutA
  cases T.get t with
  | none => rfl
  | some ti => cases hk : ti.k <;> simp only [hk]
               rename_i e
               cases T.get e with
               | none => rfl
               | some ei =>
                 cases x <;> first | rfl | skip
                 rename_i b sz n
                 have e := hx b (by simp [AV.has])
                 cases lo with
                 | none => cases hi <;> rfl
                 | some l => cases hi with
                   | none => cases l <;> rfl
                   | some h => cases l <;> first | rfl | (cases h <;> first | rfl | simp only [e])
theorem appSelfA_own {T : Tab} {t : Nat} {s x : AV} (hs : ∀ b, s.has b = true → own' b = own b) (hx : ∀ b, x.has b = true → own' b = own b) : appSelfA T own' t s x = appSelfA T own t s x := by
  unfold appSelfA
  cases T.get t with
  | none => rfl
  | some ti => cases hk : ti.k <;> simp only [hk]
               rename_i e
               cases T.get e with
               | none => rfl
               | some ei =>
                 cases s <;> first | rfl | skip
                 rename_i b sz n
                 have e := hs b (by simp [AV.has])
                 cases x <;> first | rfl | simp only [e]
theorem dstOf_has {b sz lo m : Nat} {u : AV} (h : dstOf u = some (b, sz, lo, m)) : u.has b = true := by
  cases u <;> simp only [dstOf] at h <;> try cases h
  · simp [AV.has]
  · simp [AV.has]
theorem copyA_own {T : Tab} {t : Nat} {s x : AV} (hs : ∀ b, s.has b = true → own' b = own b) (hx : ∀ b, x.has b = true → own' b = own b) : copyA T own' t s x = copyA T own t s x := by
  unfold copyA
  rw [srcRows_own hx]
  cases T.get t with
  | none => rfl
  | some ti => cases hk : ti.k <;> simp only [hk]
               rename_i e
               cases T.get e with
               | none => rfl
               | some ei =>
                 simp only
                 cases hd : dstOf s with
                 | none => rfl
                 | some q =>
                   obtain ⟨b, sz, lo, m⟩ := q
                   cases Nat.beq ei.size 1 with
                   | false => rfl
                   | true => simp only [hs b (dstOf_has hd)]
theorem viewM1_own {b : Nat} {u : AV} (h : ∀ b, u.has b = true → own' b = own b) : viewM1 own' b u = viewM1 own b u := by
  cases u <;> simp only [viewM1]
  rename_i b' off
  rw [h b' (by simp [AV.has])]
theorem viewsM1_own {b : Nat} : ∀ {us : List AV}, (∀ b, AV.hasL b us = true → own' b = own b) → viewsM1 own' b us = viewsM1 own b us
  | [], _ => rfl
  | x :: xs, h => by
    simp only [viewsM1]
    rw [viewM1_own fun b hb => h b (by simp [AV.hasL, hb]), viewsM1_own (us := xs) fun b hb => h b (by simp [AV.hasL, hb])]
theorem viewM_own {b : Nat} {u : AV} (h : ∀ b, u.has b = true → own' b = own b) : viewM own' b u = viewM own b u := by
  cases u with
  | func f caps =>
    simp only [viewM]
    rw [viewsM1_own fun b hb => h b (by simpa [AV.has] using hb)]
  | _ => simp only [viewM]; exact viewM1_own h
theorem viewsM_own {b : Nat} : ∀ {us : List AV}, (∀ b, AV.hasL b us = true → own' b = own b) → viewsM own' b us = viewsM own b us
  | [], _ => rfl
  | x :: xs, h => by
    simp only [viewsM]
    rw [viewM_own fun b hb => h b (by simp [AV.hasL, hb]), viewsM_own (us := xs) fun b hb => h b (by simp [AV.hasL, hb])]
theorem callMA_own {dst : Option Nat} {f : AV} {us : List AV} (h : ∀ b, AV.hasL b us = true → own' b = own b) : callMA own' dst f us = callMA own dst f us := by
  unfold callMA
  split
  · rename_i g b sz n rest
    rw [h b (by simp [AV.hasL, AV.has])]
    have e : ∀ b, viewsM own' b rest = viewsM own b rest := fun b => viewsM_own fun b hb => h b (by simp [AV.hasL, hb])
    simp only [e]
  · rfl
theorem handCells_rr : ∀ {row : List AV}, (∀ b, AV.hasL b row = true → own' b = own b) → handCells own' row = handCells own row
  | [], _ => rfl
  | u :: r, h => by
    have ih := handCells_rr (row := r) fun b hb => h b (by simp [AV.hasL, hb])
    cases u with
    | osl b sz n => simp only [handCells]; rw [h b (by simp [AV.hasL, AV.has]), ih]
    | omap b => simp only [handCells]; rw [h b (by simp [AV.hasL, AV.has]), ih]
    | _ => simp only [handCells]; rw [ih]
theorem handOne_rr {u : AV} (h : ∀ b, RReach own [u] b → own' b = own b) : handOne own' u = handOne own u := by
  cases u with
  | ovar b off =>
    have hb := h b (.inl (by simp [AV.hasL, AV.has]))
    simp only [handOne, hb]
    cases hbk : own b with
    | none => rfl
    | some blk =>
      simp only
      split
      · rename_i row hk hr
        rw [handCells_rr fun i hi => h i (.inr ⟨b, blk, hbk, hk, by simp [AV.hasL, AV.has], by rw [hr]; simp [hasRow, hi]⟩)]
      · rfl
  | osl b sz n => simp only [handOne]; rw [h b (.inl (by simp [AV.hasL, AV.has]))]
  | omap b => simp only [handOne]; rw [h b (.inl (by simp [AV.hasL, AV.has]))]
  | _ => rfl
theorem handAll_rr {ps : List Nat} : ∀ {us : List AV} {i : Nat}, (∀ b, RReach own us b → own' b = own b) → handAll own' ps i us = handAll own ps i us
  | [], _, _ => rfl
  | x :: xs, i, h => by
    simp only [handAll]
    rw [handOne_rr fun b hb => h b (hb.mem (by simp)), handAll_rr (us := xs) fun b hb => h b (hb.sub fun b hb => by simp [AV.hasL, hb])]
theorem viewS_rr {bs : List Nat} {u : AV} (h : ∀ b, u.has b = true → own' b = own b) : viewS own' bs u = viewS own bs u := by
  cases u with
  | osl b sz n => simp only [viewS]; rw [h b (by simp [AV.has])]
  | ovar b off => simp only [viewS]; rw [h b (by simp [AV.has])]
  | _ => rfl
theorem viewsS_rr {ps bs : List Nat} : ∀ {us : List AV} {i : Nat}, (∀ b, AV.hasL b us = true → own' b = own b) → viewsS own' ps bs i us = viewsS own ps bs i us
  | [], _, _ => rfl
  | x :: xs, i, h => by
    simp only [viewsS]
    rw [viewS_rr fun b hb => h b (by simp [AV.hasL, hb]), viewsS_rr (us := xs) fun b hb => h b (by simp [AV.hasL, hb])]
theorem hasL_app {b : Nat} : ∀ (xs ys : List AV), AV.hasL b (xs ++ ys) = (AV.hasL b xs || AV.hasL b ys)
  | [], ys => by simp [AV.hasL]
  | x :: xs, ys => by simp [AV.hasL, hasL_app xs ys, Bool.or_assoc]
theorem callSA_rr {f : AV} {us : List AV} (h : ∀ b, RReach own (f :: us) b → own' b = own b) : callSA own' f us = callSA own f us := by
  cases f with
  | func g caps =>
    have hr : ∀ b, RReach own (us ++ caps) b → own' b = own b := fun b hb => h b (hb.sub fun b hb => by
      rw [hasL_app, Bool.or_eq_true] at hb
      rcases hb with hb | hb
      · simp [AV.hasL, hb]
      · simp [AV.hasL, AV.has, hb])
    have h1 : handAll own' (posOf g capIds) 0 (us ++ caps) = handAll own (posOf g capIds) 0 (us ++ caps) := handAll_rr hr
    have h2 : ∀ bs, viewsS own' (posOf g capIds) bs 0 (us ++ caps) = viewsS own (posOf g capIds) bs 0 (us ++ caps) := fun bs => viewsS_rr fun b hb => hr b (.inl hb)
    simp only [callSA, h1, h2]
  | _ => rfl
theorem clearA_own {T : Tab} {t : Nat} {x : AV} (hx : ∀ b, x.has b = true → own' b = own b) : clearA T own' t x = clearA T own t x := by
  cases x <;> simp only [clearA]
  rename_i b sz lo n
  rw [hx b (by simp [AV.has])]
theorem mputA_own {T : Tab} {t : Nat} {m k v : AV} (hm : ∀ b, m.has b = true → own' b = own b) : mputA T own' t m k v = mputA T own t m k v := by
  unfold mputA
  cases T.get t with
  | none => rfl
  | some i =>
    cases hk : i.k <;> simp only [hk]
    rename_i kt et
    cases T.get kt <;> cases T.get et <;> cases m <;> first | rfl | (rename_i b; simp only [hm b (by simp [AV.has])])
theorem mentA_own {T : Tab} {t : Nat} {m k : AV} (hm : ∀ b, m.has b = true → own' b = own b) : mentA T own' t m k = mentA T own t m k := by
  unfold mentA
  cases T.get t with
  | none => rfl
  | some i =>
    cases hk : i.k <;> simp only [hk]
    rename_i kt et
    cases T.get kt <;> cases T.get et <;> cases m <;> first | rfl | (rename_i b; simp only [hm b (by simp [AV.has])])
theorem mstoA_own {m k v : AV} (hm : ∀ b, m.has b = true → own' b = own b) : mstoA own' m k v = mstoA own m k v := by
  cases m <;> first | rfl | skip
  rename_i b
  cases k <;> first | rfl | skip
  rename_i kk n
  cases kk <;> first | rfl | skip
  cases hv : v.cellsOf <;> simp only [mstoA, hv]
  rw [hm b (by simp [AV.has])]
theorem evOp_own {dr : Bool} {T : Tab} {val : Operand → AV} {o : Oper} (h : ∀ b, RReach own (o.op.operands.toList.map val) b → own' b = own b) : evOp dr T val own' o = evOp dr T val own o := by
  have h1 : ∀ x, x ∈ o.op.operands → ∀ b, (val x).has b = true → own' b = own b := fun x hx b hb => h b (.inl (hasL_mem (List.mem_map.2 ⟨x, by simpa using hx, rfl⟩) hb))
  cases hop : o.op with
  | load t x =>
    simp only [evOp, hop]
    cases T.get t with
    | none => rfl
    | some i => exact loadA_own fun b hb => cellsOnly_own (h1 x (by simp [hop, Op.operands]) b hb)
  | store t x y =>
    simp only [evOp, hop]
    cases T.get t with
    | none => rfl
    | some i => exact storeA_own fun b hb => cellsOnly_own (h1 x (by simp [hop, Op.operands]) b hb)
  | unOp op t x => cases op <;> simp only [evOp, hop]
  | convert s t x => simp only [evOp, hop, bytesA_own (h1 x (by simp [hop, Op.operands]))]
  | makeFunc fn first caps => cases fn <;> simp only [evOp, hop]
  | slice t x lo hi mx =>
    have hx := h1 x (by simp [hop, Op.operands])
    cases mx with
    | none =>
      simp only [evOp, hop]
      rw [cutA_own hx]
    | some m => cases lo with
      | none => simp only [evOp, hop]
      | some l => cases hi <;> simp only [evOp, hop]
  | call cl =>
    obtain ⟨callee, args, ts⟩ := cl
    cases callee with
    | value f =>
      simp only [evOp, hop, callA]
      have hm : callMA own' o.dst (val f) (args.toList.map val) = callMA own o.dst (val f) (args.toList.map val) := callMA_own fun b hb => h b (.inl (by
        rw [hop]
        simp only [Op.operands, Call.operands]
        simp [AV.hasL, hb]))
      have hS : callSA own' (val f) (args.toList.map val) = callSA own (val f) (args.toList.map val) := callSA_rr fun b hb => h b (hb.sub fun b hb => by
        rw [hop]
        simp only [Op.operands, Call.operands]
        simpa [AV.hasL, Bool.or_comm] using hb)
      rw [hS, hm, view_own fun b hb => h b (hb.mem (List.mem_map.2 ⟨f, by simp [hop, Op.operands, Call.operands], rfl⟩)),
        views_own fun b hb => h b (hb.sub fun b hb => ?_)]
      rw [hop]
      simp only [Op.operands, Call.operands]
      simp [AV.hasL, hb]
    | invoke x m => simp only [evOp, hop, callA]
    | builtin b =>
      have ha : ∀ u ∈ args.toList.map val, ∀ b, u.has b = true → own' b = own b := by
        intro u hu b hb
        obtain ⟨x, hx, rfl⟩ := List.mem_map.1 hu
        exact h1 x (by rw [hop]; simp only [Op.operands, Call.operands]; simpa using hx) b hb
      cases b <;> simp only [evOp, hop, callA] <;> revert ha <;> generalize args.toList.map val = us <;> intro ha
      case clear =>
        match us, ts.toList, ha with
        | [x], [t], ha => exact clearA_own (ha x (by simp))
        | [], _, _ => rfl
        | [_], [], _ => rfl
        | [_], _ :: _ :: _, _ => rfl
        | _ :: _ :: _, _, _ => rfl
      case copy =>
        match us, ts.toList, ha with
        | [s, x], [t, t'], ha =>
          simp only
          cases Nat.beq t t' with
          | true => rw [copyA_own (ha s (by simp)) (ha x (by simp))]
          | false => rfl
        | [], _, _ => rfl
        | [_], _, _ => rfl
        | _ :: _ :: _ :: _, _, _ => rfl
        | [_, _], [], _ => rfl
        | [_, _], [_], _ => rfl
        | [_, _], _ :: _ :: _ :: _, _ => rfl
      match us, ts.toList, ha with
      | [s, x], [t, t'], ha =>
        simp only
        cases Nat.beq t t' with
        | true => rw [appendA_own (ha s (by simp)) (ha x (by simp)), appSelfA_own (ha s (by simp)) (ha x (by simp))]
        | false => rfl
      | [], _, _ => rfl
      | [_], _, _ => rfl
      | _ :: _ :: _ :: _, _, _ => rfl
      | [_, _], [], _ => rfl
      | [_, _], [_], _ => rfl
      | [_, _], _ :: _ :: _ :: _, _ => rfl
  | lookup t m k ok =>
    simp only [evOp, hop, lookA]
    rw [seeM_own (h1 m (by simp [hop, Op.operands]))]
  | mapUpdate t m k v =>
    have hm := h1 m (by simp [hop, Op.operands])
    simp only [evOp, hop]
    exact mputA_own hm
  | insert t m k v =>
    have hm := h1 m (by simp [hop, Op.operands])
    simp only [evOp, hop]
    exact mputA_own hm
  | mapEntry t m k =>
    have hm := h1 m (by simp [hop, Op.operands])
    simp only [evOp, hop]
    exact mentA_own hm
  | entryStore t m s v =>
    have hm := h1 m (by simp [hop, Op.operands])
    simp only [evOp, hop]
    exact mstoA_own hm
  | makeMap t q => cases q <;> simp only [evOp, hop]
  | next x q => cases q <;> simp only [evOp, hop]
  | _ => simp only [evOp, hop]
end
end Go.Abs
end
section
namespace Go.Abs
open Go.RowKit
set_option linter.unusedVariables false

/-! ### regions that draw their order -/
/-- each bit is borne by an edge -/
def justified (ops : List Oper) (bs : List Nat) : Bool :=
  (List.range ops.length).all fun j => (List.range ops.length).all fun i => !(bs.getD j 0).testBit i ||
    match ops[j]? with
    | some o => o.after.toList.any fun e => Region.binds .any e && (Nat.beq e.on i || (Nat.blt e.on j && (bs.getD e.on 0).testBit i))
    | none => false
def edgesDown (ops : List Oper) : Bool :=
  (List.range ops.length).all fun j => match ops[j]? with
    | some o => o.after.toList.all fun e => !Region.binds .any e || Nat.blt e.on j
    | none => true
def pairsOK (ops : Array Oper) (bs : List Nat) : Bool :=
  (List.range ops.size).all fun j => (List.range j).all fun i => ordB bs i j ||
    match ops[i]?, ops[j]? with
    | some x, some y => x.apart ops y
    | _, _ => true
/-- what is asked, once, of a region that draws its order -/
def drawSt (ops : Array Oper) : Bool := justified ops.toList (befores ops.toList) && edgesDown ops.toList && pairsOK ops (befores ops.toList)

/-- the state behind the operations that are chosen, in the text's order -/
def cfgS (s : Nat → Bool) : Nat → List Oper → List Res → Cfg → Cfg
  | i, o :: l, r :: rs, c => cfgS s (i + 1) l rs (if s i = true then c.app o.dst r else c)
  | _, _, _, c => c

/-- it purges no slot -/
def NoP (r : Res) : Prop := r.pg = none ∨ r.nw = true
theorem app_fr {c : Cfg} {dst : Option Nat} {r : Res} (h : NoP r) : (c.app dst r).fr = putF dst r.v c.fr := by
  unfold Cfg.app
  cases hp : r.pg with
  | none => rfl
  | some b =>
    rcases h with h | h
    · rw [hp] at h; cases h
    · rw [h]
theorem olk_setD (b : Nat) : ∀ (D O : List (Nat × OBlk)), olk (setD D O) b = match olk D b with | some x => some x | none => olk O b
  | [], O => rfl
  | (i, x) :: D, O => by
    rw [setD, olk_setO, olk_cons, olk_setD b D O]
    by_cases e : i = b
    · rw [if_pos e, if_pos e]
    · rw [if_neg e, if_neg e]
theorem olk_app {c : Cfg} {dst : Option Nat} {r : Res} (h : NoP r) (b : Nat) : olk (c.app dst r).O b = match olk r.D b with | some x => some x | none => if r.pg = some b then none else olk c.O b := by
  unfold Cfg.app
  cases hp : r.pg with
  | none => simp only [olk_setD]; simp
  | some p =>
    rcases h with h | h
    · rw [hp] at h; cases h
    · rw [h]
      simp only [olk_setD, olk_delO]
      simp
theorem wids_D {b : Nat} : ∀ {D : List (Nat × OBlk)} {p : Option Nat}, b ∉ wids D p → olk D b = none ∧ p ≠ some b
  | [], none, _ => ⟨rfl, by simp⟩
  | [], some q, h => ⟨rfl, by simp [wids] at h; intro e; injection e with e; exact h e.symm⟩
  | (i, x) :: D, p, h => by
    simp [wids] at h
    obtain ⟨h1, h2⟩ := wids_D (D := D) (p := p) h.2
    exact ⟨by rw [olk_cons, if_neg (fun e => h.1 e.symm)]; exact h1, h2⟩
theorem wids_mem {b : Nat} : ∀ {D : List (Nat × OBlk)} {p : Option Nat}, b ∈ wids D p → (∃ x, (b, x) ∈ D) ∨ p = some b
  | [], none, h => by simp [wids] at h
  | [], some q, h => by simp [wids] at h; exact .inr (by rw [h])
  | (i, x) :: D, p, h => by
    simp [wids] at h
    rcases h with rfl | h
    · exact .inl ⟨x, by simp⟩
    · rcases wids_mem h with ⟨y, hy⟩ | h
      · exact .inl ⟨y, by simp [hy]⟩
      · exact .inr h
theorem wids_of {b : Nat} {x : OBlk} : ∀ {D : List (Nat × OBlk)} {p : Option Nat}, (b, x) ∈ D → b ∈ wids D p
  | (i, y) :: D, p, h => by
    rcases List.mem_cons.1 h with e | h
    · injection e with e _; subst e; simp [wids]
    · simp [wids, wids_of h]
theorem olk_mem {b : Nat} {x : OBlk} : ∀ {D : List (Nat × OBlk)}, olk D b = some x → (b, x) ∈ D
  | (i, y) :: D, h => by
    rw [olk_cons] at h
    by_cases e : i = b
    · rw [if_pos e] at h; injection h with h; subst e h; simp
    · rw [if_neg e] at h; simp [olk_mem h]
theorem mem_olk {b : Nat} {x : OBlk} : ∀ {D : List (Nat × OBlk)}, (b, x) ∈ D → ∃ y, olk D b = some y
  | (i, y) :: D, h => by
    rw [olk_cons]
    by_cases e : i = b
    · exact ⟨y, by rw [if_pos e]⟩
    · rw [if_neg e]
      rcases List.mem_cons.1 h with e' | h
      · injection e' with e' _; exact absurd e'.symm e
      · exact mem_olk h
theorem olk_app_not {c : Cfg} {dst : Option Nat} {r : Res} (h : NoP r) {b : Nat} (hb : b ∉ wids r.D r.pg) : olk (c.app dst r).O b = olk c.O b := by
  obtain ⟨h1, h2⟩ := wids_D hb
  rw [olk_app h, h1, if_neg h2]
/-- what an operation leaves of a block that it makes, turns or hands on -/
theorem olk_app_in {c c' : Cfg} {dst dst' : Option Nat} {r : Res} (h : NoP r) {b : Nat} (hb : b ∈ wids r.D r.pg) : olk (c.app dst r).O b = olk (c'.app dst' r).O b := by
  rw [olk_app h, olk_app h]
  cases hD : olk r.D b with
  | some x => rfl
  | none =>
    rcases wids_mem hb with ⟨x, hx⟩ | hp
    · obtain ⟨y, hy⟩ := mem_olk hx
      rw [hD] at hy; cases hy
    · simp [hp]

theorem cfgS_congr {s s' : Nat → Bool} : ∀ {l : List Oper} {rs : List Res} {i : Nat} {c : Cfg}, (∀ k, k < l.length → s (i + k) = s' (i + k)) → cfgS s i l rs c = cfgS s' i l rs c
  | [], _, _, _, _ => by simp [cfgS]
  | o :: l, [], _, _, _ => by simp [cfgS]
  | o :: l, r :: rs, i, c, h => by
    simp only [cfgS]
    rw [show s i = s' i from h 0 (by simp)]
    exact cfgS_congr fun k hk => by have := h (k + 1) (by simpa using hk); rw [show i + (k + 1) = i + 1 + k by omega] at this; exact this

theorem lk_app {c : Cfg} {dst : Option Nat} {r : Res} (hpg : NoP r) (t : Nat) : lk (c.app dst r).fr t = if dst = some t then r.v else lk c.fr t := by
  rw [app_fr hpg]
  cases dst with
  | none => simp [putF]
  | some d => simp only [putF, lk_cons, Option.some.injEq]

theorem cfgS_lk {s s' : Nat → Bool} {t : Nat} : ∀ {l : List Oper} {rs : List Res} {i : Nat} {c c' : Cfg}, (∀ r ∈ rs, NoP r) → (∀ (k : Nat) o, l[k]? = some o → o.dst = some t → s (i + k) = s' (i + k)) → lk c.fr t = lk c'.fr t →
    lk (cfgS s i l rs c).fr t = lk (cfgS s' i l rs c').fr t
  | [], _, _, _, _, _, _, h => by simpa [cfgS] using h
  | o :: l, [], _, _, _, _, _, h => by simpa [cfgS] using h
  | o :: l, r :: rs, i, c, c', hp, hs, h => by
    simp only [cfgS]
    refine cfgS_lk (fun r' hr' => hp r' (by simp [hr'])) (fun k o' ho hd => by have := hs (k + 1) o' (by simpa using ho) hd; rw [show i + (k + 1) = i + 1 + k by omega] at this; exact this) ?_
    have hpr := hp r (by simp)
    by_cases hd : o.dst = some t
    · have := hs 0 o (by simp) hd
      simp only [Nat.add_zero] at this
      rw [this]
      split
      · rw [lk_app hpr, lk_app hpr, if_pos hd, if_pos hd]
      · exact h
    · have e1 : lk (if s i = true then c.app o.dst r else c).fr t = lk c.fr t := by
        split
        · rw [lk_app hpr, if_neg hd]
        · rfl
      have e2 : lk (if s' i = true then c'.app o.dst r else c').fr t = lk c'.fr t := by
        split
        · rw [lk_app hpr, if_neg hd]
        · rfl
      rw [e1, e2, h]
/-- the last that is chosen counts -/
theorem cfgS_last {s : Nat → Bool} {t : Nat} : ∀ {l : List Oper} {rs : List Res} {i j : Nat} {c : Cfg} {o : Oper} {r : Res}, (∀ r ∈ rs, NoP r) → l[j]? = some o → rs[j]? = some r → o.dst = some t → s (i + j) = true →
    (∀ (k : Nat) o, j < k → l[k]? = some o → o.dst = some t → s (i + k) = false) → lk (cfgS s i l rs c).fr t = r.v
  | [], _, _, _, _, _, _, _, h, _, _, _, _ => by simp at h
  | o' :: l, [], _, _, _, _, _, _, _, h, _, _, _ => by simp at h
  | o' :: l, r' :: rs, i, 0, c, o, r, hp, ho, hr, hd, hsj, hk => by
    simp at ho hr
    subst ho hr
    simp only [cfgS, Nat.add_zero] at hsj ⊢
    rw [if_pos hsj]
    have := cfgS_lk (s := s) (s' := fun _ => false) (t := t) (l := l) (rs := rs) (i := i + 1) (c := c.app o'.dst r') (c' := c.app o'.dst r') (fun r hr => hp r (by simp [hr]))
      (fun k o'' ho'' hd' => by have := hk (k + 1) o'' (by omega) (by simpa using ho'') hd'; rw [show i + (k + 1) = i + 1 + k by omega] at this; exact this) rfl
    rw [this]
    have none_ : ∀ (l : List Oper) (rs : List Res) (i : Nat) (c : Cfg), cfgS (fun _ => false) i l rs c = c := by
      intro l
      induction l with
      | nil => intros; simp [cfgS]
      | cons x xs ih => intro rs i c; cases rs with
        | nil => simp [cfgS]
        | cons y ys => simp [cfgS, ih]
    rw [none_, lk_app (hp r' (by simp)), if_pos hd]
  | o' :: l, r' :: rs, i, j + 1, c, o, r, hp, ho, hr, hd, hsj, hk => by
    simp only [cfgS]
    refine cfgS_last (i := i + 1) (j := j) (fun r hr => hp r (by simp [hr])) (by simpa using ho) (by simpa using hr) hd (by rw [show i + 1 + j = i + (j + 1) by omega]; exact hsj) fun k o'' hlt ho'' hd' => ?_
    have := hk (k + 1) o'' (by omega) (by simpa using ho'') hd'
    rw [show i + (k + 1) = i + 1 + k by omega] at this
    exact this
theorem cfgS_olk {s s' : Nat → Bool} {b : Nat} : ∀ {l : List Oper} {rs : List Res} {i : Nat} {c c' : Cfg}, (∀ r ∈ rs, NoP r) → (∀ (k : Nat) r, k < l.length → rs[k]? = some r → b ∈ wids r.D r.pg → s (i + k) = s' (i + k)) → olk c.O b = olk c'.O b →
    olk (cfgS s i l rs c).O b = olk (cfgS s' i l rs c').O b
  | [], _, _, _, _, _, _, h => by simpa [cfgS] using h
  | o :: l, [], _, _, _, _, _, h => by simpa [cfgS] using h
  | o :: l, r :: rs, i, c, c', hp, hs, h => by
    simp only [cfgS]
    refine cfgS_olk (fun r' hr' => hp r' (by simp [hr'])) (fun k r' hk hr hd => by have := hs (k + 1) r' (by simpa using hk) (by simpa using hr) hd; rw [show i + (k + 1) = i + 1 + k by omega] at this; exact this) ?_
    have hpr := hp r (by simp)
    by_cases hd : b ∈ wids r.D r.pg
    · have := hs 0 r (by simp) (by simp) hd
      simp only [Nat.add_zero] at this
      rw [this]
      split
      · exact olk_app_in hpr hd
      · exact h
    · have e : ∀ (x : Bool) (c : Cfg), olk (if x = true then c.app o.dst r else c).O b = olk c.O b := by
        intro x c
        split
        · exact olk_app_not hpr hd
        · rfl
      rw [e, e, h]
/-- the last that is chosen and writes b counts -/
theorem cfgS_olk_last {s : Nat → Bool} {b : Nat} : ∀ {l : List Oper} {rs : List Res} {i j : Nat} {c c' : Cfg} {o : Oper} {r : Res} {dst : Option Nat}, (∀ r ∈ rs, NoP r) → l[j]? = some o → rs[j]? = some r → b ∈ wids r.D r.pg → s (i + j) = true →
    (∀ (k : Nat) r, j < k → rs[k]? = some r → b ∈ wids r.D r.pg → s (i + k) = false) → olk (cfgS s i l rs c).O b = olk (c'.app dst r).O b
  | [], _, _, _, _, _, _, _, _, _, h, _, _, _, _ => by simp at h
  | o' :: l, [], _, _, _, _, _, _, _, _, _, h, _, _, _ => by simp at h
  | o' :: l, r' :: rs, i, 0, c, c', o, r, dst, hp, ho, hr, hd, hsj, hk => by
    simp at ho hr
    subst ho hr
    simp only [cfgS, Nat.add_zero] at hsj ⊢
    rw [if_pos hsj]
    have := cfgS_olk (s := s) (s' := fun _ => false) (b := b) (l := l) (rs := rs) (i := i + 1) (c := c.app o'.dst r') (c' := c.app o'.dst r') (fun r hr => hp r (by simp [hr]))
      (fun k r'' hkl hr'' hd' => by have := hk (k + 1) r'' (by omega) (by simpa using hr'') hd'; rw [show i + (k + 1) = i + 1 + k by omega] at this; exact this) rfl
    rw [this]
    have none_ : ∀ (l : List Oper) (rs : List Res) (i : Nat) (c : Cfg), cfgS (fun _ => false) i l rs c = c := by
      intro l
      induction l with
      | nil => intros; simp [cfgS]
      | cons x xs ih => intro rs i c; cases rs with
        | nil => simp [cfgS]
        | cons y ys => simp [cfgS, ih]
    rw [none_]
    exact olk_app_in (hp r' (by simp)) hd
  | o' :: l, r' :: rs, i, j + 1, c, c', o, r, dst, hp, ho, hr, hd, hsj, hk => by
    simp only [cfgS]
    refine cfgS_olk_last (i := i + 1) (j := j) (fun r hr => hp r (by simp [hr])) (by simpa using ho) (by simpa using hr) hd (by rw [show i + 1 + j = i + (j + 1) by omega]; exact hsj) fun k r'' hlt hr'' hd' => ?_
    have := hk (k + 1) r'' (by omega) (by simpa using hr'') hd'
    rw [show i + (k + 1) = i + 1 + k by omega] at this
    exact this
theorem cfgS_none : ∀ (s : Nat → Bool) (l : List Oper) (rs : List Res) (i : Nat) (c : Cfg), (∀ k, i ≤ k → s k = false) → cfgS s i l rs c = c
  | s, [], rs, i, c, _ => by simp [cfgS]
  | s, o :: l, [], i, c, _ => by simp [cfgS]
  | s, o :: l, r :: rs, i, c, h => by
    simp only [cfgS]
    rw [if_neg (by rw [h i (Nat.le_refl _)]; simp)]
    exact cfgS_none s l rs (i + 1) c fun k hk => h k (by omega)

/-- the entries of the frame speak of no guard at d -/
theorem noOpt_app {c : Cfg} {dst : Option Nat} {r : Res} {d : Nat} (hpg : NoP r) (h : noOpt d c.fr = true) (hv : ∀ w v, r.v ≠ .opt d w v) : noOpt d (c.app dst r).fr = true := by
  rw [app_fr hpg]
  cases dst with
  | none => exact h
  | some e =>
    simp only [putF]
    unfold noOpt
    cases hr : r.v <;> simp only <;> first | exact h | skip
    rename_i d' w' v'
    split
    · rename_i hb
      have := beq_true hb
      subst this
      exact absurd hr (hv w' v')
    · exact h
theorem noOpt_app_iff {c : Cfg} {dst : Option Nat} {r : Res} {d : Nat} (hpg : NoP r) (h : noOpt d (c.app dst r).fr = true) : noOpt d c.fr = true ∧ (dst ≠ none → ∀ w v, r.v ≠ .opt d w v) := by
  rw [app_fr hpg] at h
  cases dst with
  | none => exact ⟨h, fun h => absurd rfl h⟩
  | some e =>
    simp only [putF] at h
    unfold noOpt at h
    cases hr : r.v <;> rw [hr] at h <;> simp only at h <;> first | exact ⟨h, fun _ _ _ e => by cases e⟩ | skip
    rename_i d' w' v'
    split at h
    · cases h
    · rename_i hb
      refine ⟨h, fun _ w v e => ?_⟩
      injection e with e _ _
      subst e
      exact beq_false hb rfl

theorem cfgS_noOpt {s : Nat → Bool} {d : Nat} : ∀ {l : List Oper} {rs : List Res} {i : Nat} {c : Cfg}, (∀ r ∈ rs, NoP r) → noOpt d c.fr = true → (∀ (k : Nat) o r, l[k]? = some o → rs[k]? = some r → s (i + k) = true → o.dst ≠ none → ∀ w v, r.v ≠ .opt d w v) → noOpt d (cfgS s i l rs c).fr = true
  | [], _, _, _, _, h, _ => by simpa [cfgS] using h
  | o :: l, [], _, _, _, h, _ => by simpa [cfgS] using h
  | o :: l, r :: rs, i, c, hp, h, hv => by
    simp only [cfgS]
    refine cfgS_noOpt (fun r' hr' => hp r' (by simp [hr'])) ?_ (fun k o' r' ho hr hs => by have := hv (k + 1) o' r' (by simpa using ho) (by simpa using hr) (by rw [show i + (k + 1) = i + 1 + k by omega]; exact hs); exact this)
    split
    · rename_i hs
      by_cases hd : o.dst = none
      · have : (c.app o.dst r).fr = c.fr := by rw [app_fr (hp r (by simp)), hd]; rfl
        rw [this]; exact h
      · exact noOpt_app (hp r (by simp)) h (hv 0 o r (by simp) (by simp) (by simpa using hs) hd)
    · exact h
theorem noOpt_cfgS {s : Nat → Bool} {d : Nat} : ∀ {l : List Oper} {rs : List Res} {i : Nat} {c : Cfg}, (∀ r ∈ rs, NoP r) → noOpt d (cfgS s i l rs c).fr = true →
    noOpt d c.fr = true ∧ (∀ (k : Nat) o r, l[k]? = some o → rs[k]? = some r → s (i + k) = true → o.dst ≠ none → ∀ w v, r.v ≠ .opt d w v)
  | [], _, _, _, _, h => ⟨by simpa [cfgS] using h, fun k o r ho => by simp at ho⟩
  | o :: l, [], _, _, _, h => ⟨by simpa [cfgS] using h, fun k o r _ hr => by simp at hr⟩
  | o :: l, r :: rs, i, c, hp, h => by
    simp only [cfgS] at h
    obtain ⟨h1, h2⟩ := noOpt_cfgS (fun r' hr' => hp r' (by simp [hr'])) h
    have h0 : noOpt d c.fr = true ∧ (s i = true → o.dst ≠ none → ∀ w v, r.v ≠ .opt d w v) := by
      by_cases hs : s i = true
      · rw [if_pos hs] at h1
        obtain ⟨a1, a2⟩ := noOpt_app_iff (hp r (by simp)) h1
        exact ⟨a1, fun _ => a2⟩
      · rw [if_neg hs] at h1
        exact ⟨h1, fun e => absurd e hs⟩
    refine ⟨h0.1, fun k o' r' ho hr hs hd => ?_⟩
    cases k with
    | zero => simp at ho hr; subst ho hr; exact h0.2 (by simpa using hs) hd
    | succ k => exact h2 k o' r' (by simpa using ho) (by simpa using hr) (by rw [show i + 1 + k = i + (k + 1) by omega]; exact hs) hd

/-- what the evaluation in the text's order has come to, operation by operation -/
def Outs (P : Program) (T : Tab) (N : Nat) (ops : Array Oper) : Acc → Nat → List Oper → Cfg → List Res → Prop
  | _, _, [], _, [] => True
  | A, i, o :: l, c, r :: rs => StepOK true P T N ops o c r ∧ drOK true ops A r.nw i (mkRec o c r.D r.pg r.v) = true ∧ Outs P T N ops (A.push i (mkRec o c r.D r.pg r.v)) (i + 1) l (c.app o.dst r) rs
  | _, _, _, _, _ => False
theorem evOps_outs {P : Program} {T : Tab} {N : Nat} {dm : List (Nat × Bool)} {ops : Array Oper} {Kk : Cfg → Prop} : ∀ {l : List Oper} {A : Acc} {i : Nat} {c : Cfg}, evOps true P T N dm ops A i l c Kk →
    ∃ rs : List Res, rs.length = l.length ∧ Outs P T N ops A i l c rs ∧ Kk (cfgS (fun k => decide (k < i + l.length)) i l rs c)
  | [], A, i, c, h => ⟨[], rfl, trivial, by simpa [cfgS, evOps] using h⟩
  | o :: l, A, i, c, h => by
    obtain ⟨r, hst, hdr, hrest⟩ := evOps_cons h
    obtain ⟨rs, hlen, hj, hk⟩ := evOps_outs hrest
    refine ⟨r :: rs, by simp [hlen], ⟨hst, hdr, hj⟩, ?_⟩
    simp only [cfgS]
    rw [if_pos (by simp)]
    rw [show i + (o :: l).length = i + 1 + l.length by simp; omega]
    exact hk
def AccOK (A : Acc) : Prop := ∀ q ∈ A.qs, wids q.2.D q.2.pg ≠ [] → q ∈ A.ws
theorem AccOK.push {A : Acc} (h : AccOK A) (i : Nat) (q : Rec) : AccOK (A.push i q) := by
  intro p hp hw
  unfold Acc.push at hp ⊢
  cases hq : wids q.D q.pg with
  | nil =>
    rw [hq] at hp
    simp only at hp ⊢
    rcases List.mem_cons.1 hp with rfl | hp
    · exact absurd hq hw
    · exact h p hp hw
  | cons x xs =>
    rw [hq] at hp
    simp only at hp ⊢
    rcases List.mem_cons.1 hp with rfl | hp
    · simp
    · exact List.mem_cons_of_mem _ (h p hp hw)
theorem push_qs (A : Acc) (i : Nat) (q : Rec) : (A.push i q).qs = (i, q) :: A.qs ∧ (A.push i q).c0 = A.c0 := by
  unfold Acc.push
  split <;> exact ⟨rfl, rfl⟩
theorem outs_get {P : Program} {T : Tab} {N : Nat} {ops : Array Oper} : ∀ {l : List Oper} {rs : List Res} {A : Acc} {i j : Nat} {c : Cfg} {o : Oper} {r : Res}, Outs P T N ops A i l c rs → AccOK A → l[j]? = some o → rs[j]? = some r →
    ∃ B : Acc, AccOK B ∧ B.c0 = A.c0 ∧ (∀ q ∈ A.qs, q ∈ B.qs) ∧ StepOK true P T N ops o (cfgS (fun k => decide (k < i + j)) i l rs c) r ∧ drOK true ops B r.nw (i + j) (mkRec o (cfgS (fun k => decide (k < i + j)) i l rs c) r.D r.pg r.v) = true ∧
      ∀ (k : Nat) o' r', k < j → l[k]? = some o' → rs[k]? = some r' → (i + k, mkRec o' (cfgS (fun m => decide (m < i + k)) i l rs c) r'.D r'.pg r'.v) ∈ B.qs
  | [], _, _, _, _, _, _, _, _, _, h, _ => by simp at h
  | o' :: l, [], _, _, _, _, _, _, _, _, _, h => by simp at h
  | o' :: l, r' :: rs, A, i, 0, c, o, r, h, hA, ho, hr => by
    simp at ho hr
    subst ho hr
    obtain ⟨h1, h2, _⟩ := h
    have e : cfgS (fun k => decide (k < i + 0)) i (o' :: l) (r' :: rs) c = c := cfgS_none _ _ _ _ _ fun k hk => by simp; omega
    rw [e]
    exact ⟨A, hA, rfl, fun q hq => hq, h1, h2, fun k _ _ hk => by omega⟩
  | o' :: l, r' :: rs, A, i, j + 1, c, o, r, h, hA, ho, hr => by
    obtain ⟨_, _, h3⟩ := h
    obtain ⟨B, b1, b2, b3, b4, b5, b6⟩ := outs_get (j := j) h3 (hA.push _ _) (by simpa using ho) (by simpa using hr)
    obtain ⟨p1, p2⟩ := push_qs A i (mkRec o' c r'.D r'.pg r'.v)
    have e : ∀ m, 0 < m → cfgS (fun k => decide (k < i + m)) i (o' :: l) (r' :: rs) c = cfgS (fun k => decide (k < i + m)) (i + 1) l rs (c.app o'.dst r') := by
      intro m hm
      simp only [cfgS]
      rw [if_pos (by simp; omega)]
    refine ⟨B, b1, b2.trans p2, fun q hq => b3 q (by rw [p1]; exact List.mem_cons_of_mem _ hq), ?_, ?_, fun k o'' r'' hk ho'' hr'' => ?_⟩
    · rw [e (j + 1) (by omega), show i + (j + 1) = i + 1 + j by omega]; exact b4
    · rw [e (j + 1) (by omega), show i + (j + 1) = i + 1 + j by omega]; exact b5
    · cases k with
      | zero =>
        simp at ho'' hr''
        subst ho'' hr''
        rw [cfgS_none _ _ _ _ _ fun k hk => by simp; omega]
        exact b3 _ (by rw [p1]; simp)
      | succ k =>
        have := b6 k o'' r'' (by omega) (by simpa using ho'') (by simpa using hr'')
        rw [e (k + 1) (by omega), show i + (k + 1) = i + 1 + k by omega]
        exact this
theorem out_of {s : Rec} {b : Nat} (h : outB s b = false) : s.v.has b = false ∧ outD b s.D = false ∧ b ∉ wids s.D s.pg := by
  unfold outB at h
  cases h1 : s.v.has b with
  | true => rw [h1] at h; cases h
  | false =>
    rw [h1] at h
    cases h2 : outD b s.D with
    | true => rw [h2] at h; cases h
    | false =>
      rw [h2] at h
      refine ⟨rfl, rfl, fun hb => ?_⟩
      rcases wids_mem hb with ⟨x, hx⟩ | hp
      · have : ∀ {D : List (Nat × OBlk)}, (b, x) ∈ D → outD b D = true := by
          intro D
          induction D with
          | nil => intro h; cases h
          | cons p D ih =>
            intro h
            obtain ⟨j, y⟩ := p
            unfold outD
            rcases List.mem_cons.1 h with e | h
            · injection e with e1 _; subst e1
              rw [show Nat.beq b b = true from Nat.beq_refl b]
            · rw [ih h]
              split
              · rfl
              · split
                · split <;> rfl
                · rfl
        rw [this hx] at h2; cases h2
      · rw [hp] at h
        simp only [isP] at h
        rw [show Nat.beq b b = true from Nat.beq_refl b] at h; cases h
/-- neither makes or turns what the other leads to or leaves -/
def IndP1 (q s : Rec) (b : Nat) : Prop := reachB s b = false ∧ b ∉ wids s.D s.pg ∧ ((q.pg = none ∧ (olk q.O b).isSome = true) ∨ outB s b = false)
def IndepP (q s : Rec) : Prop := (∀ b ∈ wids q.D q.pg, IndP1 q s b) ∧ ∀ b ∈ wids s.D s.pg, IndP1 s q b
theorem clean_of {q s : Rec} : ∀ {l : List Nat}, cleanB s l = true → ∀ b ∈ l, IndP1 q s b
  | x :: l, h, b, hb => by
    unfold cleanB at h
    cases h1 : reachB s x with
    | true => rw [h1] at h; cases h
    | false =>
      rw [h1] at h
      cases h2 : outB s x with
      | true => rw [h2] at h; cases h
      | false =>
        rw [h2] at h
        rcases List.mem_cons.1 hb with rfl | hb
        · exact ⟨h1, (out_of h2).2.2, .inr h2⟩
        · exact clean_of h b hb
theorem memW_mem {b : Nat} : ∀ {l : List Nat}, memW b l = false → b ∉ l
  | [], _, h => by cases h
  | x :: r, h, hm => by
    unfold memW at h
    cases hx : Nat.beq x b with
    | true => rw [hx] at h; cases h
    | false =>
      rw [hx] at h
      rcases List.mem_cons.1 hm with rfl | hm
      · simp at hx
      · exact memW_mem h hm
theorem cleanW_of {q s : Rec} : ∀ {l : List Nat}, cleanW q s l = true → ∀ b ∈ l, IndP1 q s b
  | x :: l, h, b, hb => by
    unfold cleanW at h
    cases h1 : reachB s x with
    | true => rw [h1] at h; cases h
    | false =>
      rw [h1] at h
      simp only at h
      split at h
      · cases h
      · rename_i h2
        rcases List.mem_cons.1 hb with rfl | hb
        · split at h2
          · rename_i hp ho
            exact ⟨h1, memW_mem h2, .inl ⟨hp, by rw [ho]; rfl⟩⟩
          · exact ⟨h1, (out_of h2).2.2, .inr h2⟩
        · exact cleanW_of h b hb
theorem indep_of {q s : Rec} (h : indepB q s = true) : IndepP q s := by
  unfold indepB at h
  cases h1 : cleanB s (wids q.D q.pg) with
  | false => rw [h1] at h; cases h
  | true => rw [h1] at h; exact ⟨clean_of h1, clean_of h⟩
theorem indepW_of {q s : Rec} (h : indepW q s = true) : IndepP q s := by
  unfold indepW at h
  cases h1 : cleanW q s (wids q.D q.pg) with
  | false => rw [h1] at h; cases h
  | true => rw [h1] at h; exact ⟨cleanW_of h1, cleanW_of h⟩
theorem sep_of {bs : List Nat} {i : Nat} {s : Rec} : ∀ {l : List (Nat × Rec)}, sepB bs i s l = true → ∀ q ∈ l, ordB bs q.1 i = true ∨ IndepP q.2 s
  | (k, p) :: l, h, q, hq => by
    unfold sepB at h
    cases h1 : ordB bs k i with
    | true =>
      rw [h1] at h
      rcases List.mem_cons.1 hq with rfl | hq
      · exact .inl h1
      · exact sep_of h q hq
    | false =>
      rw [h1] at h
      cases h2 : indepB p s with
      | false =>
        rw [h2] at h
        cases h3 : indepW p s with
        | false => rw [h3] at h; cases h
        | true =>
          rw [h3] at h
          rcases List.mem_cons.1 hq with rfl | hq
          · exact .inr (indepW_of h3)
          · exact sep_of h q hq
      | true =>
        rw [h2] at h
        rcases List.mem_cons.1 hq with rfl | hq
        · exact .inr (indep_of h2)
        · exact sep_of h q hq
theorem noOut_of {b : Nat} : ∀ {l : List (Nat × Rec)}, noOut b l = true → ∀ q ∈ l, outB q.2 b = false
  | (k, p) :: l, h, q, hq => by
    unfold noOut at h
    cases h1 : outB p b with
    | true => rw [h1] at h; cases h
    | false =>
      rw [h1] at h
      rcases List.mem_cons.1 hq with rfl | hq
      · exact h1
      · exact noOut_of h q hq
theorem nw_of {c0 : Cfg} {qs : List (Nat × Rec)} : ∀ {D : List (Nat × OBlk)}, nwOK c0 qs D = true → ∀ b x, (b, x) ∈ D → fresh b c0 = true ∧ ∀ q ∈ qs, outB q.2 b = false
  | (i, y) :: D, h, b, x, hb => by
    unfold nwOK at h
    cases h1 : fresh i c0 with
    | false => rw [h1] at h; cases h
    | true =>
      rw [h1] at h
      cases h2 : noOut i qs with
      | false => rw [h2] at h; cases h
      | true =>
        rw [h2] at h
        rcases List.mem_cons.1 hb with e | hb
        · injection e with e _; subst e; exact ⟨h1, noOut_of h2⟩
        · exact nw_of h b x hb
theorem dr_of {ops : Array Oper} {A : Acc} {nw : Bool} {i : Nat} {s : Rec} (hA : AccOK A) (h : drOK true ops A nw i s = true) :
    (s.pg = none ∨ nw = true) ∧ (∀ q ∈ A.qs, ordB (befores ops.toList) q.1 i = true ∨ IndepP q.2 s) ∧ (nw = true → ∀ b x, (b, x) ∈ s.D → fresh b A.c0 = true ∧ ∀ q ∈ A.qs, outB q.2 b = false) := by
  unfold drOK at h
  simp only at h
  cases hw : wids s.D s.pg with
  | nil =>
    have hD : s.D = [] := by cases hd : s.D with | nil => rfl | cons x xs => rw [hd] at hw; obtain ⟨i, y⟩ := x; simp [wids] at hw
    have hp : s.pg = none := by rw [hD] at hw; cases hp : s.pg with | none => rfl | some b => rw [hp] at hw; simp [wids] at hw
    rw [hw] at h
    simp only at h
    refine ⟨.inl hp, fun q hq => ?_, fun _ b x hb => by rw [hD] at hb; cases hb⟩
    by_cases hq0 : wids q.2.D q.2.pg = []
    · exact .inr ⟨fun b hb => (by rw [hq0] at hb; cases hb), fun b hb => (by rw [hw] at hb; cases hb)⟩
    · have hqw := hA q hq hq0
      split at h
      · rename_i he; rw [he] at hqw; cases hqw
      · exact sep_of h q hqw
  | cons x xs =>
    rw [hw] at h
    simp only at h
    split at h
    · rename_i h1
      exact ⟨.inr rfl, sep_of h1, fun _ => nw_of h⟩
    · rename_i h1 h2
      exact ⟨.inl h2, sep_of h1, fun h => by cases h⟩
    · cases h
theorem freshO_setO {b i : Nat} {x : OBlk} (hi : b ≠ i) (hx : x.kd = .any → hasRow b x.rows = false) : ∀ {O : List (Nat × OBlk)}, freshO b O = true → freshO b (setO i x O) = true
  | [], _ => by
    have h1 : Nat.beq b i = false := by cases h : Nat.beq b i with | false => rfl | true => exact absurd (beq_true h) hi
    simp only [setO, freshO, h1]
    cases hk : x.kd <;> simp only
    rw [hx hk]
  | (j, y) :: r, h => by
    have h1 : Nat.beq b i = false := by cases h : Nat.beq b i with | false => rfl | true => exact absurd (beq_true h) hi
    have hr : freshO b r = true := by
      simp only [freshO] at h
      split at h
      · cases h
      · split at h
        · split at h
          · cases h
          · exact h
        · exact h
    simp only [setO]
    cases hj : Nat.beq j i with
    | true =>
      simp only [freshO, h1]
      cases hk : x.kd <;> simp only
      · exact hr
      · exact hr
      · rw [hx hk]; exact hr
      · exact hr
    | false =>
      have ih := freshO_setO hi hx hr
      cases hbj : Nat.beq b j with
      | true => simp [freshO, hbj] at h
      | false =>
        simp only [freshO, hbj] at h ⊢
        cases hk : y.kd with
        | pure => exact ih
        | flat => exact ih
        | map ag st => exact ih
        | any =>
          simp only [hk] at h ⊢
          cases hr' : hasRow b y.rows with
          | true => rw [hr'] at h; cases h
          | false => exact ih
theorem freshO_delO {b p : Nat} : ∀ {O : List (Nat × OBlk)}, freshO b O = true → freshO b (delO p O) = true
  | [], _ => rfl
  | (j, y) :: r, h => by
    have hr : freshO b r = true := by
      simp only [freshO] at h
      split at h
      · cases h
      · split at h
        · split at h
          · cases h
          · exact h
        · exact h
    have ih := freshO_delO (p := p) hr
    simp only [delO]
    cases hj : Nat.beq j p with
    | true => exact ih
    | false =>
      cases hbj : Nat.beq b j with
      | true => simp [freshO, hbj] at h
      | false =>
        simp only [freshO, hbj] at h ⊢
        cases hk : y.kd with
        | pure => exact ih
        | flat => exact ih
        | map ag st => exact ih
        | any =>
          simp only [hk] at h ⊢
          cases hr' : hasRow b y.rows with
          | true => rw [hr'] at h; cases h
          | false => exact ih
theorem freshO_setD {b : Nat} : ∀ {D O : List (Nat × OBlk)}, outD b D = false → freshO b O = true → freshO b (setD D O) = true
  | [], O, _, h => h
  | (i, x) :: D, O, hD, h => by
    simp only [outD] at hD
    split at hD
    · cases hD
    · rename_i hi
      have hi := beq_false hi
      have key : outD b D = false ∧ (x.kd = .any → hasRow b x.rows = false) := by
        split at hD
        · split at hD
          · cases hD
          · rename_i hr; exact ⟨hD, fun _ => hr⟩
        · rename_i hk; exact ⟨hD, fun hk' => absurd hk' (by simpa using hk)⟩
      exact freshO_setO (fun e => hi e.symm) key.2 (freshO_setD key.1 h)
theorem fresh_app {b : Nat} {c : Cfg} {dst : Option Nat} {r : Res} (hp : NoP r) (hv : r.v.has b = false) (hD : outD b r.D = false) (h : fresh b c = true) : fresh b (c.app dst r) = true := by
  simp only [fresh, Bool.and_eq_true] at h ⊢
  obtain ⟨h, hpn⟩ := h
  refine ⟨⟨?_, ?_⟩, hpn⟩
  · rw [app_fr hp]
    cases dst with
    | none => exact h.1
    | some d => simp only [putF, freshF, hv]; exact h.1
  · unfold Cfg.app
    cases hq : r.pg with
    | none => exact freshO_setD hD h.2
    | some p =>
      rcases hp with hp | hp
      · rw [hq] at hp; cases hp
      · rw [hp]; exact freshO_setD hD (freshO_delO h.2)
theorem cfgS_fresh {s : Nat → Bool} {b : Nat} : ∀ {l : List Oper} {rs : List Res} {i : Nat} {c : Cfg}, (∀ r ∈ rs, NoP r) → fresh b c = true → (∀ (k : Nat) o r, l[k]? = some o → rs[k]? = some r → s (i + k) = true → r.v.has b = false ∧ outD b r.D = false) → fresh b (cfgS s i l rs c) = true
  | [], _, _, _, _, h, _ => by simpa [cfgS] using h
  | o :: l, [], _, _, _, h, _ => by simpa [cfgS] using h
  | o :: l, r :: rs, i, c, hp, h, hv => by
    simp only [cfgS]
    refine cfgS_fresh (fun r' hr' => hp r' (by simp [hr'])) ?_ (fun k o' r' ho hr hs => hv (k + 1) o' r' (by simpa using ho) (by simpa using hr) (by rw [show i + (k + 1) = i + 1 + k by omega]; exact hs))
    split
    · rename_i hs
      obtain ⟨h1, h2⟩ := hv 0 o r (by simp) (by simp) (by simpa using hs)
      exact fresh_app (hp r (by simp)) h1 h2 h
    · exact h

theorem ord_in {ops : List Oper} {bs : List Nat} (hj : justified ops bs = true) {L : Nat → Bool} (hcl : ∀ (j : Nat) o, ops[j]? = some o → L j = true → ∀ e ∈ o.after, Region.binds .any e = true → L e.on = true) :
    ∀ (j : Nat) (o : Oper), ops[j]? = some o → (∀ e ∈ o.after, Region.binds .any e = true → L e.on = true) → ∀ i, i < ops.length → ordB bs i j = true → L i = true := by
  intro j
  induction j using Nat.strongRecOn with
  | _ j ih =>
    intro o ho hr i hi hb
    have hjl : j < ops.length := (List.getElem?_eq_some_iff.1 ho).1
    have h1 := List.all_eq_true.1 hj j (List.mem_range.2 hjl)
    have h2 := List.all_eq_true.1 h1 i (List.mem_range.2 hi)
    rw [ho] at h2
    unfold ordB at hb
    rw [hb] at h2
    simp only [Bool.not_true, Bool.false_or] at h2
    obtain ⟨e, he, hh⟩ := List.any_eq_true.1 h2
    simp only [Bool.and_eq_true, Bool.or_eq_true] at hh
    have hle := hr e (by simpa using he) hh.1
    rcases hh.2 with h3 | ⟨h3, h4⟩
    · rw [← beq_true h3]; exact hle
    · have hlt : e.on < j := Nat.le_of_ble_eq_true h3
      have hel : e.on < ops.length := by omega
      exact ih e.on hlt _ (List.getElem?_eq_getElem hel) (hcl e.on _ (List.getElem?_eq_getElem hel) hle) i hi h4
end Go.Abs
end
