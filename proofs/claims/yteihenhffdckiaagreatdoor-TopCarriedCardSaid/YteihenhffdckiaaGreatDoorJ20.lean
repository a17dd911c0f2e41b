import Derived.Test.YteihenhffdckiaaGreatDoorJ19
section
namespace Go.Abs.Ltop
open Go Go.Abs Go.Proofs
set_option linter.unusedVariables false
set_option maxRecDepth 20000
theorem WkP.of {ps : List Nat} {c c' : Cfg} (h : c = c') : WkP ps c c' := h ▸ WkP.refl _ _
theorem cfg_eq {fr fr' : List (Nat × AV)} {O O' : List (Nat × OBlk)} (h1 : fr = fr') (h2 : O = O') : (⟨fr, O⟩ : Cfg) = ⟨fr', O'⟩ := by rw [h1, h2]
theorem list_eq5 {α : Type} {a b c d e a' b' c' d' e' : α} (h1 : a = a') (h2 : b = b') (h3 : c = c') (h4 : d = d') (h5 : e = e') : [a, b, c, d, e] = [a', b', c', d', e'] := by rw [h1, h2, h3, h4, h5]
theorem list_eq2 {α : Type} {a b a' b' : α} (h1 : a = a') (h2 : b = b') : [a, b] = [a', b'] := by rw [h1, h2]
theorem ent_eq {b e e' sz sz' : Nat} {kd kd' : Kd} {rows rows' ents ents' : List (List AV)} (h1 : e = e') (h2 : sz = sz') (h3 : kd = kd') (h4 : rows = rows') (h5 : ents = ents') : (b, (⟨e, sz, kd, rows, ents⟩ : OBlk)) = (b, ⟨e', sz', kd', rows', ents'⟩) := by rw [h1, h2, h3, h4, h5]
theorem mput_eq {k k' : AV} {v v' : List AV} {l l' : List (List AV)} (h1 : k = k') (h2 : v = v') (h3 : l = l') : mput k v l = mput k' v' l' := by rw [h1, h2, h3]
abbrev OQ (ls : List Sh) (bs : List Bx) (E : List Ent) (Y : List (List Int)) : List (Nat × OBlk) :=
  [(32, ⟨89, 2, .any, [[SS ls, BS bs]], []⟩), (208, ⟨93, 3, .map true true, [], E.map (encE ls)⟩), (336, ⟨24, 1, .flat, Y.map fun x => [NS x], []⟩)]
abbrev OQ2 (ls : List Sh) (bs : List Bx) (x : List Int) (p : List Cy) (E : List Ent) (Y : List (List Int)) : List (Nat × OBlk) :=
  [(32, ⟨89, 2, .any, [[SS ls, BS bs]], []⟩), (112, ⟨91, 2, .any, [[NS x, YS p]], []⟩), (208, ⟨93, 3, .map true true, [], E.map (encE ls)⟩), (336, ⟨24, 1, .flat, Y.map fun x => [NS x], []⟩)]
theorem c24 (ls : List Sh) (bs : List Bx) (frm : List Int) (hh : Hs ls bs) (hf : OkAt ls bs frm) : Fn Tryz.prog 24 [HS ls bs, NS frm] (.rmap true true 3 ((searchE ls bs frm).map (encE ls))) := by
  have hsl := hh.sl
  have hbl := hh.bl
  have hsz := hh.sz
  refine mkG24 [(1, [6, 6]), (12, [12, 12]), (13, [3, 0, 0])] [] rfl ?_
  refine ⟨by decide, _, c25 ls bs frm (by omega) (by have := hf.len; omega) hf.has, ?_⟩
  refine ⟨_, WkP.slot 18 (.agg [NS frm, YS []]) rfl rfl (.aggL ⟨.refl _, .nil 3, trivial⟩), ?_⟩
  refine ⟨fun m c => ∃ (E : List Ent) (q Z : List (List Int)), m ≤ 8192 ∧ 2 * (4096 - E.length) + q.length ≤ m ∧ SI ls bs frm E q ∧ outer ls bs m E q = searchE ls bs frm ∧ c = ⟨[(2, .ovar 32 0), (5, .omap 208), (6, .osuf 336 1 Z.length q.length)], OQ ls bs E (Z ++ q)⟩,
    ⟨8192, _, (WkP.slot 6 (u := .osl 336 1 1) (.osuf 336 1 0 1) rfl rfl (.osuf 336 1 1)).trans (WkP.keep [2, 5, 6] [32, 208, 336]), [(frm, [])], [frm], [], by omega, by simp, SI.init, rfl, rfl⟩, ?_⟩
  rintro m c ⟨E, q, Z, hm8, hm, hsi, hout, rfl⟩
  refine ⟨fun hlt => ?_, fun hlt => ?_⟩
  · simp at hlt
    obtain ⟨x, r, rfl⟩ : ∃ x r, q = x :: r := by cases q with | nil => simp at hlt | cons x r => exact ⟨x, r, rfl⟩
    obtain ⟨p, hp, hsj⟩ := hsi.start rfl
    have hx : OkAt ls bs x := hsi.ok hf _ hsj.xp
    have hxl := hx.len
    have hE := hsi.ok hf
    have hS : stepsE ls bs x = stepsE ls bs x := rfl
    generalize hSS : stepsE ls bs x = S at hS
    have hSl : S.length ≤ 128 * 32 := by
      rw [← hSS]
      have := stepsGo_len (ls := ls) (bs0 := bs) (at' := x) bs 0
      exact Nat.le_trans this (Nat.mul_le_mul hbl hsl)
    have c43' := c43 ls bs x (by omega) (by omega) (fun b hb => by have := hh.bw b hb; omega) hxl
    rw [hSS] at c43'
    refine ⟨⟨by omega, by simp⟩, [NS x], by simp, _, c25 ls bs x (by omega) (by omega) hx.has, true, [NS x, YS p], ?_, _, c43', true, ?_⟩
    · show mget (keyS ls x) _ = _
      rw [mget_E hh hx hE, hp]; rfl
    refine ⟨fun n c => ∃ (j : Nat) (E' : List Ent) (q' Z' : List (List Int)), j ≤ S.length ∧ n = S.length - j ∧ SJ ls bs frm x p j E (x :: r) E' q' ∧ inner bs x p (S.drop j) E' q' = inner bs x p S E (x :: r) ∧
      c = ⟨[(2, .ovar 32 0), (5, .omap 208), (6, .osuf 336 1 Z'.length q'.length), (7, .ovar 112 0), (37, YS S), (38, I S.length), (39, I j)], OQ2 ls bs x p E' (Z' ++ q')⟩,
      ⟨_, _, WkP.keep [2, 5, 6, 7, 37, 38, 39] [32, 112, 208, 336], 0, E, x :: r, Z, by omega, rfl, hsj, by simp, rfl⟩, ?_⟩
    rintro n c ⟨j, E', q', Z', hj, rfl, hJ, hin, rfl⟩
    refine ⟨fun hlt2 => ?_, fun hlt2 => ?_⟩
    · simp at hlt2
      obtain ⟨c, hc, hcd, _⟩ := drop_cons hlt2
      have hc' : (stepsE ls bs x)[j]? = some c := by rw [hSS]; exact hc
      obtain ⟨hb1, hb2, hst⟩ := hh.mem hx (List.mem_of_getElem? hc')
      have hst' := hJ.step hh hf hc'
      have hE' := hJ.si.ok hf
      have hin' : inner bs x p (S.drop (j + 1)) (stp bs x p c E' q').1 (stp bs x p c E' q').2 = inner bs x p S E (x :: r) := by
        rw [hcd] at hin; exact hin
      have hy : OkAt ls bs (x.set (bxI bs c.box).toNat c.to) := by obtain ⟨_, _, _, _, _, _, _, _, _, h⟩ := hst; exact h
      have c44' := c44 x (by omega) (bxI bs c.box).toNat hb2 c.to
      rw [← hb1] at c44'
      have hyl := hy.len
      unfold stp at hst' hin'
      generalize hyy : x.set (bxI bs c.box).toNat c.to = y at *
      refine ⟨⟨by omega, by omega⟩, encY c, by simp [hc], _, c45 ls bs c.box (by omega), _, c44', true, _, c25 ls bs y (by omega) (by omega) hy.has, ?_⟩
      cases hp' : planE y E' with
      | some p' =>
        rw [hp'] at hst' hin'
        refine ⟨true, [NS y, YS p'], ?_, fun _ => ?_, fun h => (by cases h)⟩
        · show mget (keyS ls y) _ = _
          rw [mget_E hh hy hE', hp']; rfl
        refine ⟨_, wrap64 (by omega) (by omega), ?_⟩
        exact ⟨_, _, WkP.keep [2, 5, 6, 7, 37, 38, 39] [32, 112, 208, 336], by omega, j + 1, E', q', Z', by omega, rfl, hst', hin', rfl⟩
      | none =>
        rw [hp'] at hst' hin'
        refine ⟨false, ?_, fun h => (by cases h), fun _ => ?_⟩
        · show mget (keyS ls y) _ = _
          rw [mget_E hh hy hE', hp']; rfl
        have hpl : p.length < 4096 := by
          have h1 := hJ.si.ln _ hJ.xp
          have h2 := hJ.si.few hh hf
          simp only at h1
          omega
        have c46' := c46 (p.map encY) (by simp; omega) (sc3 p)
        rw [List.length_map] at c46'
        refine ⟨rfl, _, c25 ls bs y (by omega) (by omega) hy.has, _, c46', false, ⟨by show (p.length + 1) * 24 ≤ 140737488355328; omega, by omega⟩, ?_⟩
        have hrow : (p ++ [c]).map encY = (p.map encY).take p.length ++ [encY c] := by rw [List.take_of_length_le (by simp)]; simp
        refine ⟨_, WkP.frz 1136 ⟨62, 3, .pure, (p.map encY).take p.length ++ [encY c], []⟩ rfl rfl, ?_⟩
        refine ⟨by decide, ?_⟩
        have hq1 : 0 < q'.length := by obtain ⟨rr, hrr⟩ := hJ.hd; rw [hrr]; simp
        have hq2 : q'.length ≤ 12288 := by
          have h1 := hJ.ms
          have h2 := hJ.si.few hh hf
          omega
        refine ⟨⟨[(2, .ovar 32 0), (5, .omap 208), (7, .ovar 112 0), (37, YS S), (38, I S.length), (39, I j), (73, .osuf 336 1 Z'.length q'.length), (75, .osl 1200 1 1)], OQ2 ls bs x p (E' ++ [(y, p ++ [c])]) (Z' ++ q') ++ [(1200, ⟨24, 1, .flat, [[NS y]], []⟩)]⟩,
          (WkP.keep [2, 5, 7, 37, 38, 39, 73, 75] [32, 112, 208, 336, 1200]).trans ?_, ?_⟩
        · have hmp := mput_E hh hy (p := p ++ [c]) hE' hp'
          have hl' : (p ++ [c]).length = p.length + 1 := by simp
          have hY : YS (p ++ [c]) = .rsl 3 (p.length + 1) ((p.map encY).take p.length ++ [encY c]) := by unfold YS; rw [hl', hrow]
          rw [hY] at hmp
          show WkP _ _ (⟨_, [(32, ⟨89, 2, .any, [[SS ls, BS bs]], []⟩), (112, ⟨91, 2, .any, [[NS x, YS p]], []⟩), (208, ⟨93, 3, .map true true, [], (E' ++ [(y, p ++ [c])]).map (encE ls)⟩), (336, ⟨24, 1, .flat, (Z' ++ q').map fun x => [NS x], []⟩), (1200, ⟨24, 1, .flat, [[NS y]], []⟩)]⟩ : Cfg)
          rw [← hmp]
          refine WkP.of (cfg_eq rfl (list_eq5 rfl rfl (ent_eq rfl rfl rfl rfl (mput_eq rfl ?_ rfl)) rfl rfl))
          show [_, _] = [_, _]
          refine list_eq2 rfl ?_
          exact congrArg (AV.rsl 3 (p.length + 1)) (List.take_of_length_le (l := (p.map encY).take p.length ++ [encY c]) (by simp))
        · refine ⟨_, opx_append (d := 76) (b := 336) (sz := 1) (lo := Z'.length) (n := q'.length) (m := 1) (rows := [[NS y]]) tabOK tabOne rfl rfl rfl rfl rfl rfl rfl rfl (by decide) rfl hq1 rfl (by simp) rfl rfl rfl rfl rfl rfl (by decide) rfl ⟨by show (q'.length + 1) * 24 ≤ 140737488355328; omega, by omega⟩ rfl rfl, ?_⟩
          have hql : (q' ++ [y]).length = q'.length + 1 := by simp
          rintro c3 (rfl | rfl)
          · refine ⟨_, wrap64 (by omega) (by omega), ?_⟩
            refine ⟨_, _, WkP.keep [2, 5, 6, 7, 37, 38, 39] [32, 112, 208, 336], by omega, j + 1, E' ++ [(y, p ++ [c])], q' ++ [y], Z', by omega, rfl, hst', hin', ?_⟩
            rw [hql, ← List.append_assoc]
            show _ = (⟨_, [(32, ⟨89, 2, .any, [[SS ls, BS bs]], []⟩), (112, ⟨91, 2, .any, [[NS x, YS p]], []⟩), (208, ⟨93, 3, .map true true, [], (E' ++ [(y, p ++ [c])]).map (encE ls)⟩), (336, ⟨24, 1, .flat, (Z' ++ q' ++ [y]).map fun x => [NS x], []⟩)]⟩ : Cfg)
            rw [List.map_append (l₁ := Z' ++ q')]
            rfl
          · refine ⟨_, wrap64 (by omega) (by omega), ?_⟩
            refine ⟨_, _, WkP.kr [2, 5, 6, 7, 37, 38, 39] [32, 112, 208, 1216] [(1216, 336)] rfl rfl rfl rfl, by omega, j + 1, E' ++ [(y, p ++ [c])], q' ++ [y], [], by omega, rfl, hst', hin', ?_⟩
            rw [hql]
            have hdrop : ((Z' ++ q').map fun x => [NS x]).drop Z'.length ++ [[NS y]] = (q' ++ [y]).map fun x => [NS x] := by
              rw [← List.map_drop, List.drop_left, List.map_append]; rfl
            show _ = (⟨_, [(32, ⟨89, 2, .any, [[SS ls, BS bs]], []⟩), (112, ⟨91, 2, .any, [[NS x, YS p]], []⟩), (208, ⟨93, 3, .map true true, [], (E' ++ [(y, p ++ [c])]).map (encE ls)⟩), (336, ⟨24, 1, .flat, (q' ++ [y]).map fun x => [NS x], []⟩)]⟩ : Cfg)
            rw [← hdrop]
            rfl
    · simp at hlt2
      have : j = S.length := by omega
      subst this
      rw [List.drop_length, inner] at hin
      have hJp := (show SJ ls bs frm x p (stepsE ls bs x).length E (x :: r) E' q' by rw [hSS]; exact hJ).pop hh hf
      obtain ⟨r', rfl⟩ := hJ.hd
      have hms := hJ.ms
      have hfew := hJp.few hh hf
      simp only [List.length_cons, List.tail_cons] at hms hm hJp
      obtain ⟨m', rfl⟩ : ∃ m', m = m' + 1 := ⟨m - 1, by omega⟩
      refine ⟨⟨by omega, by simp; omega⟩, ?_⟩
      refine ⟨m', _, WkP.keep [2, 5, 6] [32, 208, 336], by omega, E', r', Z' ++ [x], by omega, by omega, hJp, ?_, ?_⟩
      · rw [← hout]
        simp only [outer, hp, Option.getD_some, hSS, ← hin, List.tail_cons]
      · rw [List.append_assoc, List.length_append]
        rfl
  · simp at hlt
    have hq : q = [] := by cases q with | nil => rfl | cons a b => simp at hlt
    subst hq
    have ho : E = searchE ls bs frm := by
      rw [← hout]; cases m <;> rfl
    subst ho
    exact ⟨_, WkP.see [4] rfl, rfl, rfl, rfl⟩
end Go.Abs.Ltop
end
section
namespace Go.Abs.Ltop
open Go Go.Abs Go.Proofs
set_option linter.unusedVariables false
set_option maxRecDepth 20000
/-! ### a plan -/
def possE (ls : List Sh) (bs : List Bx) (x : List Int) : Int := if openE ls bs ≠ 0 then openE ls bs else chkE ls bs x
theorem poss_ok {ls : List Sh} {bs : List Bx} {x : List Int} (h : possE ls bs x = 0) : Hs ls bs ∧ OkAt ls bs x := by
  unfold possE at h
  by_cases h0 : openE ls bs = 0
  · rw [if_neg (by simp [h0])] at h
    have hh := hs_of h0
    exact ⟨hh, (hh.chk x).1 h⟩
  · rw [if_pos h0] at h; exact absurd h h0
def planR (ls : List Sh) (bs : List Bx) (frm to : List Int) : AV × Int :=
  if possE ls bs frm ≠ 0 then (.nilsl, possE ls bs frm) else if possE ls bs to ≠ 0 then (.nilsl, possE ls bs to) else
    match planE to (searchE ls bs frm) with
    | some p => (YS p, 0)
    | none => (.nilsl, 24)
theorem c9 (ls : List Sh) (bs : List Bx) (frm to : List Int) (hl : ls.length ≤ 1000) (hb : bs.length ≤ 1000) (hc : ∀ b ∈ bs, b.cont.length ≤ 100000) :
    Fn Tryz.prog 9 [SS ls, BS bs, NS frm, NS to] (.tup [(planR ls bs frm to).1, I (planR ls bs frm to).2]) := by
  have hw : openE ls bs = 0 → ∀ b ∈ bs, 0 ≤ b.width ∧ b.width ≤ 10000 := fun h b hb => by have := (hs_of h).bw b hb; omega
  have c1 : Fn Tryz.prog 23 [SS ls, BS bs, NS frm] (I (possE ls bs frm)) := c23 ls bs frm hl hb hc hw
  have c2 : Fn Tryz.prog 23 [SS ls, BS bs, NS to] (I (possE ls bs to)) := c23 ls bs to hl hb hc hw
  refine mk9 rfl ⟨_, c1, fun h => ?_, fun h => ⟨_, c2, fun h2 => ?_, fun h2 => ?_⟩⟩
  · have h : possE ls bs frm ≠ 0 := by simpa using h
    unfold planR; rw [if_pos h]
    exact ⟨_, _, rfl, .inl rfl, rfl, rfl, trivial⟩
  · have h : possE ls bs frm = 0 := by simpa using h
    have h2 : possE ls bs to ≠ 0 := by simpa using h2
    unfold planR; rw [if_neg (by simp [h]), if_pos h2]
    exact ⟨_, _, rfl, .inl rfl, rfl, rfl, trivial⟩
  · have h : possE ls bs frm = 0 := by simpa using h
    have h2 : possE ls bs to = 0 := by simpa using h2
    obtain ⟨hh, hf⟩ := poss_ok h
    obtain ⟨_, ht⟩ := poss_ok h2
    have hsl := hh.sl
    have hbl := hh.bl
    have htl := ht.len
    have hsi := search_SI hh hf
    have hm := mget_E hh ht (hsi.ok hf)
    unfold planR; rw [if_neg (by simp [h]), if_neg (by simp [h2])]
    cases hp : planE to (searchE ls bs frm) with
    | some p =>
      rw [hp] at hm
      refine ⟨_, c24 ls bs frm hh hf, _, c25 ls bs to (by omega) (by omega) ht.has, true, [NS to, YS p], hm, fun h => (by cases h), fun _ => ?_⟩
      exact ⟨_, _, rfl, ⟨rfl, rfl⟩, rfl, rfl, trivial⟩
    | none =>
      rw [hp] at hm
      refine ⟨_, c24 ls bs frm hh hf, _, c25 ls bs to (by omega) (by omega) ht.has, false, hm, fun _ => ?_, fun h => (by cases h)⟩
      exact ⟨_, _, rfl, .inl rfl, rfl, rfl, trivial⟩
end Go.Abs.Ltop
end
section
namespace Go.Abs.Ltop
open Go Go.Abs Go.Proofs
set_option linter.unusedVariables false
set_option maxRecDepth 20000
/-! ### the state of service -/
abbrev Zs (k : Nat) : AV := .rsl k 0 []
/-- a state: without subjects, rules, persons, agreements, permits, batches, links, shown -/
structure Us where
  yr : Int
  bs : List Bx
  ls : List Sh
  ms : List Mv
  qs : List Req
  seats : Int
  ks : List Bk
  ch : Int
abbrev encU (u : Us) : List AV := [Zs 5, Zs 6, Zs 6, I u.yr, Zs 6, Zs 6, BS u.bs, SS u.ls, MS u.ms, QS u.qs, I u.seats, KS u.ks, Zs 8, Zs 2, Zs 3, I u.ch]
/-- its moves are right -/
structure MsOK (ms : List Mv) : Prop where
  rd : (readE ms).2 = 0
  dy : ∀ m ∈ ms, m.day ≤ 1048575
  ln : ms.length ≤ 1024
abbrev pAV (p : Int × Int) : AV := .agg [I p.1, I p.2]
theorem c16p (ms : List Mv) (hm : MsOK ms) (n : Int) (hn : isId n = true) : Fn Tryz.prog 16 [MS ms, I n, I 1048575] (.tup [pAV (placeE ms n), I 0]) := by
  have h := c16 ms n 1048575 (by have := hm.ln; omega) (fun _ => hm.dy)
  have e : whereE ms n 1048575 = (placeE ms n, 0) := by
    unfold whereE
    rw [if_neg (by rw [hm.rd]; simp), if_neg (by simp [hn]; rfl)]
  rw [e] at h
  exact h
theorem c57 (u : Us) (hm : MsOK u.ms) (n : Int) (hn : isId n = true) : Fn Tryz.prog 57 [.agg (encU u), I n] (pAV (placeE u.ms n)) :=
  mk57 rfl ⟨_, c16p u.ms hm n hn, rfl, rfl, rfl⟩
theorem c100 (s : Bx) (n : Int) : Fn Tryz.prog 100 [.agg (encB s), .rptr [I n] 0] (B (s.id == n)) := mk100 rfl ⟨rfl, rfl, rfl⟩
theorem c129 (s : Sh) (n : Int) : Fn Tryz.prog 129 [.agg (encS s), .rptr [I n] 0] (B (s.id == n)) := mk129 rfl ⟨rfl, rfl, rfl⟩
theorem c56 (u : Us) (hl : u.bs.length ≤ 100000) (n : Int) : Fn Tryz.prog 56 [.agg (encU u), I n] (I (bxI u.bs n)) :=
  mk56 rfl ⟨_, c82a u.bs (by omega) _ 100 [I n] (fun a _ => c100 a n), rfl, rfl, rfl⟩
theorem c91 (u : Us) (hl : u.ls.length ≤ 100000) (n : Int) : Fn Tryz.prog 91 [.agg (encU u), I n] (I (shI u.ls n)) :=
  mk91 rfl ⟨_, c84a u.ls (by omega) _ 129 [I n] (fun a _ => c129 a n), rfl, rfl, rfl⟩
end Go.Abs.Ltop
end
section
namespace Go.Abs.Ltop
open Go Go.Abs Go.Proofs
set_option linter.unusedVariables false
set_option maxRecDepth 20000
/-! ### the parts of a state that are empty -/
/-- a loop that is not gone through -/
theorem once {W : Cfg → Prop} {F : (Nat → Cfg → Prop) → Nat → Cfg → Prop} (c : Cfg) (hW : W c) (h : F (fun n c' => n = 0 ∧ c' = c) 0 c) : ∃ I : Nat → Cfg → Prop, (∃ n c', W c' ∧ I n c') ∧ ∀ n c', I n c' → F I n c' :=
  ⟨fun n c' => n = 0 ∧ c' = c, ⟨0, c, hW, rfl, rfl⟩, fun n c' h' => by obtain ⟨rfl, rfl⟩ := h'; exact h⟩
theorem c102 : Fn Tryz.prog 102 [Zs 6] (I 0) := by
  refine mk102 rfl ⟨fun h => absurd h (by decide), fun _ => ?_⟩
  (refine once _ (Wk.refl _) ⟨fun h => absurd h (by decide), fun _ => ?_⟩)
  exact ⟨rfl, rfl, rfl⟩
theorem c103 : Fn Tryz.prog 103 [Zs 6] (I 0) := by
  refine mk103 rfl ⟨fun h => absurd h (by decide), fun _ => ?_⟩
  (refine once _ (Wk.refl _) ⟨fun h => absurd h (by decide), fun _ => ?_⟩)
  exact ⟨rfl, rfl, rfl⟩
theorem c104 : Fn Tryz.prog 104 [Zs 6] (I 0) := by
  refine mk104 rfl ⟨fun h => absurd h (by decide), fun _ => ?_⟩
  (refine once _ (Wk.refl _) ⟨fun h => absurd h (by decide), fun _ => ?_⟩)
  exact ⟨rfl, rfl, rfl⟩
theorem c105 : Fn Tryz.prog 105 [Zs 6] (I 0) := by
  refine mk105 rfl ⟨fun h => absurd h (by decide), fun _ => ?_⟩
  (refine once _ (Wk.refl _) ⟨fun h => absurd h (by decide), fun _ => ?_⟩)
  exact ⟨rfl, rfl, rfl⟩
abbrev polL (yr : Int) : List AV := [Zs 5, Zs 6, Zs 6, I yr, Zs 6, Zs 6]
theorem c106 (yr : Int) : Fn Tryz.prog 106 [.agg (polL yr)] (I 0) := by
  refine mk106 rfl ⟨fun h => absurd h (by decide), fun _ => ?_⟩
  (refine once _ (Wk.refl _) ⟨fun h => absurd h (by decide), fun _ => ?_⟩)
  exact ⟨rfl, rfl, rfl⟩
theorem c73 (yr : Int) (h0 : 0 ≤ yr) (h1 : yr ≤ 200) : Fn Tryz.prog 73 [.agg (polL yr)] (I 0) := by
  refine mk73 rfl ⟨_, c102, _, c103, _, c104, _, c105, ?_⟩
  refine ⟨fun n c => ∃ i : Nat, i ≤ 4 ∧ n = 4 - i ∧ c = ⟨[(1, .ovar 16 0), (2, I 0), (17, .osl 272 1 4), (18, I 4), (19, I i)], [(16, ⟨34, 6, .any, [polL yr], []⟩), (272, ⟨43, 1, .pure, [[I 0], [I 0], [I 0], [I 0]], []⟩)]⟩, ⟨_, _, Wk.keep [1, 2, 17, 18, 19] [16, 272], 0, by omega, rfl, rfl⟩, ?_⟩
  rintro n c ⟨i, hi, rfl, rfl⟩
  refine ⟨fun hlt => ?_, fun hlt => ?_⟩
  · simp at hlt
    have hr : [[I 0], [I 0], [I 0], [I 0]][i]? = some [I 0] := by
      match i, hlt with
      | 0, _ => rfl
      | 1, _ => rfl
      | 2, _ => rfl
      | 3, _ => rfl
    refine ⟨⟨by omega, by omega⟩, [I 0], by simpa using hr, fun h => (by cases h), fun _ => ?_⟩
    refine ⟨_, wrap64 (by omega) (by omega), ?_⟩
    exact ⟨_, _, Wk.keep [1, 2, 17, 18, 19] [16, 272], by omega, i + 1, by omega, rfl, rfl⟩
  · refine ⟨[(3, false)], by simp; omega, fun h => ?_, fun _ => ?_⟩
    · simp at h; omega
    · exact ⟨_, c106 yr, rfl, rfl, rfl⟩
theorem c86 : Fn Tryz.prog 86 [QS []] (I 0) := by
  refine mk86 rfl ⟨fun h => absurd h (by decide), fun _ => ?_⟩
  (refine once _ (Wk.refl _) ⟨fun h => absurd h (by decide), fun _ => ?_⟩)
  exact ⟨rfl, rfl, rfl⟩
theorem c87 (n : Int) (h1 : 1 ≤ n) (h2 : n ≤ 32) : Fn Tryz.prog 87 [I n, KS []] (I 0) := by
  refine mk87 rfl ⟨[(2, false)], by simp; omega, by simp; omega, fun _ => ⟨fun h => absurd h (by decide), fun _ => ?_⟩⟩
  (refine once _ (Wk.refl _) ⟨fun h => absurd h (by decide), fun _ => ?_⟩)
  exact ⟨rfl, rfl, rfl⟩
end Go.Abs.Ltop
end
section
namespace Go.Abs.Ltop
open Go Go.Abs Go.Proofs
set_option linter.unusedVariables false
set_option maxRecDepth 20000
/-! ### a right state -/
structure PtOK (u : Us) : Prop where
  sh : shelvesE u.ls = 0
  bx : boxE u.bs = 0
  mv : MsOK u.ms
  yr : 0 ≤ u.yr ∧ u.yr ≤ 200
  st : 1 ≤ u.seats ∧ u.seats ≤ 32
  ch : 0 ≤ u.ch ∧ u.ch ≤ 1048575
  q0 : u.qs = []
  k0 : u.ks = []
theorem c48 (u : Us) (h : PtOK u) (hc : ∀ b ∈ u.bs, b.cont.length ≤ 100000) : Fn Tryz.prog 48 [.agg (encU u)] (B true) := by
  have c81' := c81 u.bs (by have := box_len h.bx; omega) hc
  have c80' := c80 u.ls (by have := shelves_len h.sh; omega)
  have c33' := c33 u.ms
  rw [h.bx] at c81'
  rw [h.sh] at c80'
  rw [h.mv.rd] at c33'
  obtain ⟨yr, bs, ls, ms, qs, seats, ks, ch⟩ := u
  obtain ⟨_, _, _, hy, hs, hch, hq, hk⟩ := h
  simp only at hq hk hy hs hch
  subst hq hk
  refine mk48 rfl ⟨_, c73 yr hy.1 hy.2, _, c81', _, c80', _, c33', _, c86, _, c87 seats hs.1 hs.2, ?_⟩
  refine ⟨fun n c => ∃ i : Nat, i ≤ 6 ∧ n = 6 - i ∧ c = ⟨[(1, .ovar 16 0), (2, B false), (31, .osl 496 1 6), (32, I 6), (33, I i)], [(16, ⟨42, 16, .any, [encU ⟨yr, bs, ls, ms, [], seats, [], ch⟩], []⟩), (496, ⟨43, 1, .pure, [[I 0], [I 0], [I 0], [I 0], [I 0], [I 0]], []⟩)]⟩, ⟨_, _, Wk.keep [1, 2, 31, 32, 33] [16, 496], 0, by omega, rfl, rfl⟩, ?_⟩
  rintro n c ⟨i, hi, rfl, rfl⟩
  refine ⟨fun hlt => ?_, fun hlt => ?_⟩
  · simp at hlt
    have hr : [[I 0], [I 0], [I 0], [I 0], [I 0], [I 0]][i]? = some [I 0] := by
      match i, hlt with
      | 0, _ => rfl
      | 1, _ => rfl
      | 2, _ => rfl
      | 3, _ => rfl
      | 4, _ => rfl
      | 5, _ => rfl
    refine ⟨⟨by omega, by omega⟩, [I 0], by simpa using hr, fun h => (by cases h), fun _ => ?_⟩
    refine ⟨_, wrap64 (by omega) (by omega), ?_⟩
    exact ⟨_, _, Wk.keep [1, 2, 31, 32, 33] [16, 496], by omega, i + 1, by omega, rfl, rfl⟩
  · (refine once _ (Wk.refl _) ⟨fun h => absurd h (by decide), fun _ => ?_⟩)
    (refine once _ (Wk.refl _) ⟨fun h => absurd h (by decide), fun _ => ?_⟩)
    (refine once _ (Wk.refl _) ⟨fun h => absurd h (by decide), fun _ => ?_⟩)
    have hin : inB ch 0 1048575 = true := by unfold inB; simp; omega
    exact ⟨[(3, true), (9, true), (15, true)], _, c21 ch 0 1048575, hin, rfl, rfl, rfl, rfl, rfl⟩
/-! ### the moves -/
def knwn (ls : List Sh) (k o : Int) : Bool := k != 1 || decide (shI ls o ≥ 0)
theorem c90 (u : Us) (hl : u.ls.length ≤ 100000) (k o : Int) : Fn Tryz.prog 90 [.agg [I k, I o], .rptr (encU u) 0] (B (knwn u.ls k o)) := by
  refine mk90 rfl ?_
  by_cases hk : k = 1
  · exact ⟨[(3, false)], by simp [hk], _, c91 u hl o, rfl, rfl, by simp [knwn, hk]; rfl⟩
  · have hk' : (k != 1) = true := by simp [hk]
    exact ⟨[(3, true)], hk', rfl, rfl, by unfold knwn; rw [hk']; rfl⟩
def mvBad (u : Us) (m : Mv) : Bool := decide (m.day > u.ch) || decide (bxI u.bs m.box < 0) || !knwn u.ls m.fk m.fo || !knwn u.ls m.tk m.to
theorem c93 (u : Us) (hl : u.ls.length ≤ 100000) (hb : u.bs.length ≤ 100000) (m : Mv) : Fn Tryz.prog 93 [.agg (rowM m), .rptr (encU u) 0, .rptr [.func 90 [.rptr (encU u) 0]] 0] (B (mvBad u m)) := by
  refine mk93 rfl ?_
  have c1 := c90 u hl m.fk m.fo
  have c2 := c90 u hl m.tk m.to
  unfold mvBad
  by_cases h1 : m.day > u.ch
  · exact ⟨[(5, true), (12, true), (19, true)], decide_eq_true h1, rfl, rfl, rfl, rfl, by rw [decide_eq_true h1]; rfl⟩
  · have h1' := decide_eq_false h1
    have c3 := c56 u hb m.box
    by_cases h2 : bxI u.bs m.box < 0
    · have h2' := decide_eq_true h2
      exact ⟨[(5, false), (12, true), (19, true)], h1', _, c3, h2', rfl, rfl, rfl, by rw [h1', h2']; rfl⟩
    · have h2' := decide_eq_false h2
      cases h3 : knwn u.ls m.fk m.fo with
      | false =>
        rw [h3] at c1
        exact ⟨[(5, false), (12, false), (19, true)], h1', _, c3, h2', _, c1, rfl, rfl, rfl, by rw [h1', h2']; rfl⟩
      | true =>
        rw [h3] at c1
        exact ⟨[(5, false), (12, false), (19, false)], h1', _, c3, h2', _, c1, rfl, _, c2, rfl, rfl, by rw [h1', h2']; rfl⟩
theorem c49 (u : Us) (hl : u.ls.length ≤ 100000) (hb : u.bs.length ≤ 100000) (hm : u.ms.length ≤ 100000) : Fn Tryz.prog 49 [.agg (encU u)] (B (!u.ms.any (mvBad u))) :=
  mkG49 [] [1] rfl ⟨_, WkP.see [1, 2] rfl, _, c92b u.ms (by omega) (mvBad u) 93 (encU u) [.func 90 [.rptr (encU u) 0]] (fun m _ => c93 u hl hb m), _, WkP.refl _ _, rfl, rfl, rfl⟩
end Go.Abs.Ltop
end
section
namespace Go.Abs.Ltop
open Go Go.Abs Go.Proofs
set_option linter.unusedVariables false
set_option maxRecDepth 20000
/-! ### the shelves hold their boxes -/
abbrev Wd := List (Int × Int)
def wget (k : Int) : Wd → Int
  | [] => 0
  | x :: r => if k = x.1 then x.2 else wget k r
def whas (k : Int) (l : Wd) : Bool := l.any fun x => k == x.1
def wput (k v : Int) : Wd → Wd
  | [] => [(k, v)]
  | x :: r => if k = x.1 then (k, v) :: r else x :: wput k v r
def entW (x : Int × Int) : List AV := [I x.1, I x.2]
theorem mget_w (k : Int) : ∀ l : Wd, mget (I k) (l.map entW) = if whas k l then some [I (wget k l)] else none
  | [] => rfl
  | x :: r => by
    have ih := mget_w k r
    simp only [List.map_cons, entW, mget, keyEq, whas, wget, List.any_cons]
    by_cases h : k = x.1
    · simp [h]
    · have hb : (k == x.1) = false := by simpa using h
      simp only [hb, if_neg h, Bool.false_or]
      exact ih
theorem wget_no {k : Int} : ∀ {l : Wd}, whas k l = false → wget k l = 0
  | [], _ => rfl
  | x :: r, h => by
    simp only [whas, List.any_cons, Bool.or_eq_false_iff] at h
    have : k ≠ x.1 := by simpa using h.1
    simp only [wget, if_neg this]
    exact wget_no h.2
theorem mput_w (k v : Int) : ∀ l : Wd, mput (I k) [I v] (l.map entW) = (wput k v l).map entW
  | [] => rfl
  | x :: r => by
    have ih := mput_w k v r
    simp only [List.map_cons, entW, mput, keyEq, wput]
    by_cases h : k = x.1
    · subst h; simp [entW]
    · have hb : (k == x.1) = false := by simpa using h
      simp only [hb, if_neg h, List.map_cons, entW]
      exact congrArg _ ih
theorem whas_put (k v : Int) : ∀ l : Wd, whas k (wput k v l) = true
  | [] => by simp [wput, whas]
  | x :: r => by
    simp only [wput]
    split
    · simp [whas]
    · have := whas_put k v r
      simp only [whas, List.any_cons, Bool.or_eq_true] at this ⊢
      exact .inr this
theorem wget_put (k j v : Int) : ∀ l : Wd, wget j (wput k v l) = if j = k then v else wget j l
  | [] => by simp only [wput, wget]
  | x :: r => by
    simp only [wput]
    by_cases h : k = x.1
    · subst h
      rw [if_pos rfl]
      simp only [wget]
      by_cases h2 : j = x.1 <;> simp [h2]
    · rw [if_neg h]
      simp only [wget]
      by_cases h2 : j = x.1
      · subst h2
        rw [if_pos rfl, if_neg (fun e => h e.symm), if_pos rfl]
      · rw [if_neg h2, if_neg h2]
        exact wget_put k j v r
def heldGo (ls : List Sh) (pl : Int → Int × Int) : List Bx → Wd → Bool
  | [], _ => true
  | b :: r, w => if (pl b.id).1 ≠ 1 then heldGo ls pl r w else
      match ls[(shI ls (pl b.id).2).toNat]? with
      | none => false
      | some s => if wget s.id w + b.width > s.len ∨ s.clim ≠ b.clim then false else heldGo ls pl r (wput s.id (wget s.id w + b.width) w)
abbrev OH (u : Us) (w : Wd) : List (Nat × OBlk) := [(16, ⟨42, 16, .any, [encU u], []⟩), (128, ⟨209, 2, .map false false, [], w.map entW⟩)]
theorem c50 (u : Us) (hm : MsOK u.ms) (hl : u.ls.length ≤ 1000) (hb : u.bs.length ≤ 1000) (hi : ∀ b ∈ u.bs, isId b.id = true ∧ 0 ≤ b.width ∧ b.width ≤ 10000)
    (hp : ∀ b ∈ u.bs, (placeE u.ms b.id).1 = 1 → ¬ shI u.ls (placeE u.ms b.id).2 < 0) : Fn Tryz.prog 50 [.agg (encU u)] (B (heldGo u.ls (placeE u.ms) u.bs [])) := by
  refine mkG50 [] [] rfl ?_
  refine ⟨fun n c => ∃ (i : Nat) (w : Wd), i ≤ u.bs.length ∧ n = u.bs.length - i ∧ (∀ k, 0 ≤ wget k w ∧ wget k w ≤ 10000 * i) ∧ heldGo u.ls (placeE u.ms) (u.bs.drop i) w = heldGo u.ls (placeE u.ms) u.bs [] ∧
      c = ⟨[(1, .ovar 16 0), (2, B false), (3, .omap 128), (10, BS u.bs), (11, I u.bs.length), (12, I i)], OH u w⟩,
    ⟨_, _, WkP.keep [1, 2, 3, 10, 11, 12] [16, 128], 0, [], by omega, rfl, by simp [wget], by simp, rfl⟩, ?_⟩
  rintro n c ⟨i, w, hil, rfl, hw, hI, rfl⟩
  refine ⟨fun hlt => ?_, fun hlt => ?_⟩
  · simp at hlt
    obtain ⟨b, hbb, hd, _⟩ := drop_cons hlt
    have hbm := List.mem_of_getElem? hbb
    obtain ⟨hid, hw0, hw1⟩ := hi b hbm
    have hpb := hp b hbm
    have c57' := c57 u hm b.id hid
    rw [hd] at hI
    simp only [heldGo] at hI
    generalize placeE u.ms b.id = pp at hpb c57' hI
    obtain ⟨k, o⟩ := pp
    refine ⟨⟨by omega, by omega⟩, encB b, by simp [hbb], _, c57', fun hk => ?_, fun hk => ?_⟩
    · have hk : k ≠ 1 := by simpa using hk
      rw [if_pos hk] at hI
      refine ⟨_, wrap64 (by omega) (by omega), ?_⟩
      exact ⟨_, _, WkP.keep [1, 2, 3, 10, 11, 12] [16, 128], by omega, i + 1, w, by omega, rfl, fun j => by have := hw j; omega, hI, rfl⟩
    · have hk : k = 1 := by simpa using hk
      rw [if_neg (by simp [hk])] at hI
      obtain ⟨s, hs, hsid, hslt, hsn⟩ := shI_lt (show ¬ shI u.ls o < 0 from hpb hk)
      simp only [hs] at hI
      have hsw := hw s.id
      have hsrow : (u.ls.map encS)[(shI u.ls o).toNat]? = some (encS s) := by rw [List.getElem?_map, hs]; rfl
      refine ⟨_, c91 u (by omega) o, ⟨by omega, by omega⟩, encS s, hsrow, ?_⟩
      have hmg := mget_w s.id w
      have hmg2 := mget_w s.id (wput s.id (wget s.id w + b.width) w)
      rw [whas_put, if_pos rfl, wget_put, if_pos rfl] at hmg2
      have hmp := mput_w s.id (wget s.id w + b.width) w
      cases hh : whas s.id w with
      | true =>
        rw [hh, if_pos rfl] at hmg
        refine ⟨true, _, hmg, ?_⟩
        refine ⟨_, wrapTo (y := wget s.id w + b.width) (by omega) (by omega) (by omega), ?_⟩
        by_cases hgt : wget s.id w + b.width > s.len
        · rw [if_pos (.inl hgt)] at hI
          rw [← hI]
          exact ⟨[(7, true)], true, [I (wget s.id w + b.width)], by rw [← hmp] at hmg2; exact hmg2, decide_eq_true hgt, fun _ => ⟨_, WkP.refl _ _, rfl, rfl, rfl⟩, fun h => (by cases h)⟩
        · refine ⟨[(7, false)], true, [I (wget s.id w + b.width)], by rw [← hmp] at hmg2; exact hmg2, decide_eq_false hgt, fun hc => ?_, fun hc => ?_⟩
          · have hc : s.clim ≠ b.clim := by simpa using hc
            rw [if_pos (.inr hc)] at hI
            rw [← hI]
            exact ⟨_, WkP.refl _ _, rfl, rfl, rfl⟩
          · have hc : s.clim = b.clim := by simpa using hc
            rw [if_neg (by simp [hc]; omega)] at hI
            refine ⟨_, wrap64 (by omega) (by omega), ?_⟩
            refine ⟨_, _, WkP.keep [1, 2, 3, 10, 11, 12] [16, 128], by omega, i + 1, wput s.id (wget s.id w + b.width) w, by omega, rfl, fun j => ?_, hI, ?_⟩
            · rw [wget_put]
              have := hw j
              split <;> omega
            · show _ = (⟨_, [(16, ⟨42, 16, .any, [encU u], []⟩), (128, ⟨209, 2, .map false false, [], (wput s.id (wget s.id w + b.width) w).map entW⟩)]⟩ : Cfg)
              rw [← hmp]
              rfl
      | false =>
        rw [hh, if_neg (by simp)] at hmg
        have h0 := wget_no hh
        refine ⟨false, hmg, ?_⟩
        refine ⟨_, wrapTo (y := wget s.id w + b.width) (by omega) (by omega) (by omega), ?_⟩
        by_cases hgt : wget s.id w + b.width > s.len
        · rw [if_pos (.inl hgt)] at hI
          rw [← hI]
          exact ⟨[(7, true)], true, [I (wget s.id w + b.width)], by rw [← hmp] at hmg2; exact hmg2, decide_eq_true hgt, fun _ => ⟨_, WkP.refl _ _, rfl, rfl, rfl⟩, fun h => (by cases h)⟩
        · refine ⟨[(7, false)], true, [I (wget s.id w + b.width)], by rw [← hmp] at hmg2; exact hmg2, decide_eq_false hgt, fun hc => ?_, fun hc => ?_⟩
          · have hc : s.clim ≠ b.clim := by simpa using hc
            rw [if_pos (.inr hc)] at hI
            rw [← hI]
            exact ⟨_, WkP.refl _ _, rfl, rfl, rfl⟩
          · have hc : s.clim = b.clim := by simpa using hc
            rw [if_neg (by simp [hc]; omega)] at hI
            refine ⟨_, wrap64 (by omega) (by omega), ?_⟩
            refine ⟨_, _, WkP.keep [1, 2, 3, 10, 11, 12] [16, 128], by omega, i + 1, wput s.id (wget s.id w + b.width) w, by omega, rfl, fun j => ?_, hI, ?_⟩
            · rw [wget_put]
              have := hw j
              split <;> omega
            · show _ = (⟨_, [(16, ⟨42, 16, .any, [encU u], []⟩), (128, ⟨209, 2, .map false false, [], (wput s.id (wget s.id w + b.width) w).map entW⟩)]⟩ : Cfg)
              rw [← hmp]
              rfl
  · simp at hlt
    have : i = u.bs.length := by omega
    subst this
    simp only [List.drop_length, heldGo] at hI
    rw [← hI]
    exact ⟨_, WkP.refl _ _, rfl, rfl, rfl⟩
end Go.Abs.Ltop
end
section
namespace Go.Abs.Ltop
open Go Go.Abs Go.Proofs
set_option linter.unusedVariables false
set_option maxRecDepth 20000
/-! ### no box is lent -/
theorem c95 (u : Us) (hm : MsOK u.ms) (b : Bx) (hid : isId b.id = true) (hk : (placeE u.ms b.id).1 ≠ 3) : Fn Tryz.prog 95 [.agg (encB b), .rptr (encU u) 0, .rptr [.rmap false false 2 []] 0] (B false) := by
  have c57' := c57 u hm b.id hid
  have h3 : ((placeE u.ms b.id).1 == 3) = false := by simpa using hk
  generalize placeE u.ms b.id = p at *
  obtain ⟨k, o⟩ := p
  exact mk95 rfl ⟨_, c57', [(3, false)], h3, rfl, rfl, by simp only at h3; rw [← h3]; rfl⟩
theorem c51 (u : Us) (hm : MsOK u.ms) (hb : u.bs.length ≤ 1000) (hq : u.qs = []) (hi : ∀ b ∈ u.bs, isId b.id = true ∧ (placeE u.ms b.id).1 ≠ 3) : Fn Tryz.prog 51 [.agg (encU u)] (B true) := by
  obtain ⟨yr, bs, ls, ms, qs, seats, ks, ch⟩ := u
  simp only at hq hb hm hi
  subst hq
  refine mkG51 [] [10] rfl ?_
  conv => whnf
  refine once _ (WkP.refl _ _) ⟨fun h => (by simp at h), fun _ => ?_⟩
  refine ⟨_, WkP.see [1, 2, 3] rfl, ?_⟩
  conv => whnf
  refine once _ (WkP.refl _ _) ⟨fun h => (by cases h), fun _ => ?_⟩
  have c94' := c94b bs (by omega) (fun _ => false) 95 (encU ⟨yr, bs, ls, ms, [], seats, ks, ch⟩) [.rmap false false 2 []] (fun b hbm => c95 _ hm b (hi b hbm).1 (hi b hbm).2)
  have e : (bs.any fun _ => false) = false := by simp
  rw [e] at c94'
  exact ⟨_, c94', _, WkP.refl _ _, rfl, rfl, rfl⟩
/-! ### a state is right -/
structure UOK (u : Us) : Prop where
  pt : PtOK u
  mv : u.ms.any (mvBad u) = false
  hd : heldGo u.ls (placeE u.ms) u.bs [] = true
  k3 : ∀ b ∈ u.bs, (placeE u.ms b.id).1 ≠ 3
  sx : ∀ b ∈ u.bs, (placeE u.ms b.id).1 = 1 → ¬ shI u.ls (placeE u.ms b.id).2 < 0
  bi : ∀ b ∈ u.bs, isId b.id = true ∧ 0 ≤ b.width ∧ b.width ≤ 10000 ∧ b.cont.length ≤ 100000
theorem c26 (u : Us) (h : UOK u) : Fn Tryz.prog 26 [.agg (encU u)] (B true) := by
  have hsl := shelves_len h.pt.sh
  have hbl := box_len h.pt.bx
  have hml := h.pt.mv.ln
  have a1 := c48 u h.pt (fun b hb => (h.bi b hb).2.2.2)
  have a2 := c49 u (by omega) (by omega) (by omega)
  rw [h.mv] at a2
  have a3 := c50 u h.pt.mv (by omega) (by omega) (fun b hb => ⟨(h.bi b hb).1, (h.bi b hb).2.1, (h.bi b hb).2.2.1⟩) h.sx
  rw [h.hd] at a3
  have a4 := c51 u h.pt.mv (by omega) h.pt.q0 (fun b hb => ⟨(h.bi b hb).1, h.k3 b hb⟩)
  exact mk26 rfl ⟨[(2, true), (6, true), (10, true), (13, true)], _, a1, rfl, _, a2, rfl, _, a3, rfl, _, a4, rfl, rfl, rfl, rfl⟩
end Go.Abs.Ltop
end
section
namespace Go.Abs.Ltop
open Go Go.Abs Go.Proofs
set_option linter.unusedVariables false
set_option maxRecDepth 20000
/-! ### a state's copy -/
theorem scE {k : Nat} : Scal ([] : List (List AV)) := fun _ h => by cases h
abbrev zU : List AV := [.nilsl, .nilsl, .nilsl, I 0, .nilsl, .nilsl, .nilsl, .nilsl, .nilsl, .nilsl, I 0, .nilsl, .nilsl, .nilsl, .nilsl, I 0]
abbrev CU (u : Us) (i : Int) (R : List (List AV)) : Cfg :=
  ⟨[(1, .ovar 16 0), (2, .ovar 32 0), (79, I u.bs.length), (80, I i)], [(16, ⟨42, 16, .any, [[Zs 5, Zs 6, Zs 6, I u.yr, Zs 6, Zs 6, .osl 1200 5 u.bs.length, SS u.ls, MS u.ms, QS u.qs, I u.seats, KS u.ks, Zs 8, Zs 2, Zs 3, I u.ch]], []⟩), (1200, ⟨56, 5, .flat, R, []⟩), (32, ⟨42, 16, .any, [zU], []⟩)]⟩
set_option maxHeartbeats 4000000 in
theorem c32 (u : Us) (hb : u.bs.length ≤ 1000) (hl : u.ls.length ≤ 1000) (hm : u.ms.length ≤ 2000) (hq : u.qs.length ≤ 2000) (hk : u.ks.length ≤ 2000) (hc : ∀ b ∈ u.bs, b.cont.length ≤ 100000) : Fn Tryz.prog 32 [.agg (encU u)] (.agg (encU u)) := by
  have a58 := c58 [] (by simp)
  have a59 := c59 [] (by simp) (scE (k := 0))
  have a60 := c60 [] (by simp) (scE (k := 0))
  have a61 := c61 [] (by simp) (scE (k := 0))
  have a62 := c62 [] (by simp) (scE (k := 0))
  have a67 := c67 [] (by simp)
  have a68 := c68 [] (by simp) (scE (k := 0))
  have a69 := c69 [] (by simp) (scE (k := 0))
  have a22 := c22 (u.bs.map encB) (by simp; omega)
  have a7 := c7 (u.ls.map encS) (by simp; omega) (sc4 u.ls)
  have a64 := c64 (u.ms.map rowM) (by simp; omega) (sc6 u.ms)
  have a65 := c65 (u.qs.map encR) (by simp; omega) (sc7 u.qs)
  have a66 := c66 (u.ks.map encK) (by simp; omega) (sc4k u.ks)
  rw [List.length_map] at a22 a7 a64 a65 a66
  refine mkG32 [] [] rfl ⟨_, a58, true, _, a59, true, _, a60, true, _, a61, true, _, a62, true, ?_⟩
  (refine once _ (WkP.refl _ _) ⟨fun h => absurd h (by decide), fun _ => ?_⟩)
  refine ⟨_, a22, false, ?_⟩
  refine ⟨fun n c => ∃ i : Nat, i ≤ u.bs.length ∧ n = u.bs.length - i ∧ c = CU u i (u.bs.map encB), ⟨_, _, WkP.keep [1, 2, 79, 80] [16, 1200, 32], 0, by omega, rfl, rfl⟩, ?_⟩
  rintro n c ⟨i, hi, rfl, rfl⟩
  refine ⟨fun hlt => ?_, fun hlt => ?_⟩
  · simp at hlt
    obtain ⟨b, hbb, _, _⟩ := drop_cons hlt
    have a63 := c63 (b.cont.map encC) (by have := hc b (List.mem_of_getElem? hbb); simpa using this) (sc2 b.cont)
    rw [List.length_map] at a63
    have hrow : (u.bs.map encB)[i]? = some (encB b) := by rw [List.getElem?_map, hbb]; rfl
    have hset : (u.bs.map encB).set i (encB b) = u.bs.map encB := by
      refine List.ext_getElem? fun j => ?_
      rw [List.getElem?_set]
      split
      · rename_i h; subst h; rw [if_pos (by simpa using hlt), hrow]
      · rfl
    refine ⟨⟨by omega, by omega⟩, encB b, hrow, _, a63, true, ⟨by omega, by omega⟩, encB b, hrow, ?_⟩
    refine ⟨_, wrap64 (by omega) (by omega), ?_⟩
    refine ⟨_, _, WkP.keep [1, 2, 79, 80] [16, 1200, 32], by omega, i + 1, by omega, rfl, ?_⟩
    exact Eq.trans (b := CU u ((i + 1 : Nat) : Int) ((u.bs.map encB).set i (encB b))) rfl (congrArg (CU u ((i + 1 : Nat) : Int)) hset)
  · refine ⟨_, a7, true, _, a64, true, _, a65, true, _, a66, true, _, a67, true, _, a68, true, _, a69, true, ?_⟩
    (refine once _ (WkP.refl _ _) ⟨fun h => absurd h (by decide), fun _ => ?_⟩)
    refine ⟨_, WkP.frz 1200 ⟨56, 5, .flat, u.bs.map encB, []⟩ rfl rfl, rfl, rfl, ?_⟩
    have ht : (u.bs.map encB).take u.bs.length = u.bs.map encB := List.take_of_length_le (by simp)
    show AV.agg _ = AV.agg [Zs 5, Zs 6, Zs 6, I u.yr, Zs 6, Zs 6, .rsl 5 u.bs.length ((u.bs.map encB).take u.bs.length), SS u.ls, MS u.ms, QS u.qs, I u.seats, KS u.ks, Zs 8, Zs 2, Zs 3, I u.ch]
    rw [ht]
end Go.Abs.Ltop
end
section
namespace Go.Abs.Ltop
open Go Go.Abs Go.Proofs
set_option linter.unusedVariables false
set_option maxRecDepth 20000
/-! ### one move more -/
def appE (ms : List Mv) (m : Mv) : Int := if ms.length = 1024 then 12 else nextE (readE ms).1 m
def appR (ms : List Mv) (m : Mv) : AV := if appE ms m = 0 then fMS (ms ++ [m]) else .nilsl
abbrev R48 (m : Mv) : List (Nat × OBlk) := [(48, ⟨165, 6, .any, [rowM m], []⟩)]
theorem c291 (ms : List Mv) (hm : MsOK ms) (m : Mv) : Fn Tryz.prog 291 [MS ms, .agg (rowM m)] (.tup [appR ms m, I (appE ms m)]) := by
  have c := c70 ms
  have hrd := hm.rd
  have hln := hm.ln
  unfold appR appE
  generalize readE ms = z at c hrd ⊢
  obtain ⟨x, e⟩ := z
  simp only at hrd
  subst hrd
  have fr := c.frame (R := R48 m) rfl rfl rfl rfl rfl
  refine mkG291 [(1, [1]), (6, [2])] [] rfl ⟨_, WkP.keep [0, 3, 4, 5, 10] [48], OL x ++ R48 m, .tup [.ovar 18 0, I 0], [48], fr.as (by rfl) (by rfl) (by rfl), rfl, fun h => (by cases h), fun _ => ⟨fun h => ?_, fun h => ?_⟩⟩
  · have h : ms.length = 1024 := by simp at h; omega
    rw [if_pos h]
    exact ⟨_, WkP.refl _ _, _, _, rfl, .inl rfl, rfl, rfl, trivial⟩
  · have h : ¬ ms.length = 1024 := by simp at h; omega
    rw [if_neg h]
    have fr2 := (c101 x m).frame (R := R48 m) rfl rfl rfl rfl rfl
    refine ⟨_, WkP.keep [0, 3, 4, 5, 21, 22] [18, 34, 48], OL (nextL x m) ++ R48 m, I (nextE x m), [18, 34, 48], fr2.as (by rfl) (by rfl) (by rfl), rfl, fun he => ?_, fun he => ?_⟩
    · have he : nextE x m ≠ 0 := by simpa using he
      rw [if_neg he]
      exact ⟨_, WkP.refl _ _, _, _, rfl, .inl rfl, rfl, rfl, trivial⟩
    · have he : nextE x m = 0 := by simpa using he
      rw [if_pos he, he]
      have a64 := c64 (ms.map rowM) (by simp; omega) (sc6 ms)
      rw [List.length_map] at a64
      have hl : (ms ++ [m]).length = ms.length + 1 := by simp
      have hr : (ms ++ [m]).map rowM = (ms.map rowM).take ms.length ++ [rowM m] := by rw [List.take_of_length_le (by simp)]; simp
      have hf : fMS (ms ++ [m]) = .fsl true 165 6 (ms.length + 1) ((ms.map rowM).take ms.length ++ [rowM m]) := by unfold fMS; rw [hl, hr]
      rw [hf]
      refine ⟨_, a64, false, ⟨by show (ms.length + 1) * 48 ≤ 140737488355328; omega, by omega⟩, ?_⟩
      exact ⟨_, WkP.refl _ _, _, _, rfl, ⟨_, rfl, rfl, by simp; rfl, .inl ⟨rfl, rfl⟩⟩, rfl, rfl, trivial⟩
/-! ### a desk -/
structure Ev where
  id : Int
  day : Int
  kind : Int
  nums : List Int
abbrev encEv (e : Ev) : List AV := [I e.id, I e.day, I e.kind, NS e.nums, Zs 1]
abbrev encD (u : Us) (rw : AV) (e : Ev) : List AV :=
  [Zs 5, Zs 6, Zs 6, I u.yr, Zs 6, Zs 6, BS u.bs, SS u.ls, MS u.ms, QS u.qs, I u.seats, KS u.ks, Zs 8, Zs 2, Zs 3, I u.ch, rw, I e.id, I e.day, I e.kind, NS e.nums, Zs 1]
abbrev OD (u : Us) (rw : AV) (e : Ev) : List (Nat × OBlk) := [(18, ⟨142, 22, .any, [encD u rw e], []⟩)]
theorem p18 (u : Us) (rw : AV) (e : Ev) : ∀ b, memN b [18] = true → Nat.ble 2 (b % 16) = true ∧ (olk (OD u rw e) b).isSome = true := by
  intro b hb
  have : b = 18 := by simpa [memN_iff] using hb
  subst this; exact ⟨rfl, rfl⟩
theorem c292a (u : Us) (n : Nat) (rows : List (List AV)) (e : Ev) (ms : List Mv) : FnG Tryz.prog 292 [.ovar 18 8, MS ms, I 0] (OD u (.rsl 3 n rows) e) [18] (OD { u with ms := ms } (.rsl 3 n rows) e) (I 0) :=
  mkN292 [] [] rfl (p18 _ _ _) ⟨fun _ => ⟨_, WkP.keep [6] [18], rfl, rfl, rfl⟩, fun h => (by cases h)⟩
theorem c292b (u : Us) (n : Nat) (rows : List (List AV)) (e : Ev) (x : Int) (hx : x ≠ 0) : FnG Tryz.prog 292 [.ovar 18 8, .nilsl, I x] (OD u (.rsl 3 n rows) e) [18] (OD u (.rsl 3 n rows) e) (I x) :=
  mkN292 [] [] rfl (p18 _ _ _) ⟨fun h => absurd (by simpa using h) hx, fun _ => ⟨_, WkP.keep [6] [18], rfl, rfl, rfl⟩⟩
theorem c219 (u : Us) (n : Nat) (rows : List (List AV)) (e : Ev) (hm : MsOK u.ms) (b : Int) (hb : isId b = true) : Fn Tryz.prog 219 [.rptr (encD u (.rsl 3 n rows) e) 0, I b] (B ((placeE u.ms b).1 == 3)) :=
  mk219 rfl ⟨_, c57 u hm b hb, rfl, rfl, rfl⟩
/-- the error of a box that comes onto a shelf -/
def holdE (ms : List Mv) (s : Sh) (b : Bx) (bs : List Bx) : Int := if s.clim ≠ b.clim then 10 else if b.width + hsum ms b.id s.id bs > s.len then 12 else 0
theorem c224 (u : Us) (n : Nat) (rows : List (List AV)) (e : Ev) (hm : MsOK u.ms) (hb : u.bs.length ≤ 1000) (hi : ∀ b ∈ u.bs, isId b.id = true ∧ 0 ≤ b.width ∧ b.width ≤ 10000) (s : Sh) (b : Bx) (hw : 0 ≤ b.width ∧ b.width ≤ 10000) :
    Fn Tryz.prog 224 [.rptr (encD u (.rsl 3 n rows) e) 0, .agg (encS s), .agg (encB b)] (I (holdE u.ms s b u.bs)) := by
  refine mk224 rfl ⟨fun hc => ?_, fun hc => ?_⟩
  · have hc : s.clim ≠ b.clim := by simpa using hc
    unfold holdE; rw [if_pos hc]
    exact ⟨rfl, rfl, rfl⟩
  · have hc : s.clim = b.clim := by simpa using hc
    unfold holdE; rw [if_neg (by simp [hc])]
    refine ⟨fun m c => ∃ (i : Nat) (t : Int), i ≤ u.bs.length ∧ m = u.bs.length - i ∧ 0 ≤ t ∧ t ≤ 10000 * (i + 1) ∧ t + hsum u.ms b.id s.id (u.bs.drop i) = b.width + hsum u.ms b.id s.id u.bs ∧
      c = ⟨[(0, .rptr (encD u (.rsl 3 n rows) e) 0), (4, .ovar 64 0), (5, .ovar 80 0), (6, I 0), (7, I t), (21, BS u.bs), (22, I u.bs.length), (23, I i)], [(64, ⟨48, 4, .any, [encS s], []⟩), (80, ⟨56, 5, .any, [encB b], []⟩)]⟩,
      ⟨_, _, Wk.keep [0, 4, 5, 6, 7, 21, 22, 23] [64, 80], 0, b.width, by omega, rfl, by omega, by omega, by simp, rfl⟩, ?_⟩
    rintro m c ⟨i, t, hil, rfl, ht0, ht1, hI, rfl⟩
    refine ⟨fun hlt => ?_, fun hlt => ?_⟩
    · simp at hlt
      obtain ⟨x, hx, hd, _⟩ := drop_cons hlt
      obtain ⟨hid, hw0, hw1⟩ := hi x (List.mem_of_getElem? hx)
      rw [hd, hsum] at hI
      refine ⟨⟨by omega, by omega⟩, encB x, by simp [hx], ?_⟩
      by_cases hne : x.id = b.id
      · rw [if_neg (by simp [hne])] at hI
        refine ⟨[(5, false)], by simp [hne], fun h => (by cases h), fun _ => ?_⟩
        refine ⟨_, wrap64 (by omega) (by omega), ?_⟩
        exact ⟨_, _, Wk.keep [0, 4, 5, 6, 7, 21, 22, 23] [64, 80], by omega, i + 1, t, by omega, rfl, by omega, by omega, by omega, rfl⟩
      · have c57' := c57 u hm x.id hid
        by_cases hp : placeE u.ms x.id = (1, s.id)
        · rw [if_pos ⟨hne, hp⟩] at hI
          rw [hp] at c57'
          refine ⟨[(5, true)], by simpa using hne, _, c57', fun _ => ?_, fun h => ?_⟩
          · refine ⟨_, wrap64 (by omega) (by omega), _, wrap64 (by omega) (by omega), ?_⟩
            exact ⟨_, _, Wk.keep [0, 4, 5, 6, 7, 21, 22, 23] [64, 80], by omega, i + 1, t + x.width, by omega, rfl, by omega, by omega, by omega, rfl⟩
          · exact (no (p := False) (b := ((1 : Int) == 1 && ((s.id == s.id) && true))) (by simp) h).elim
        · rw [if_neg (by simp [hp])] at hI
          refine ⟨[(5, true)], by simpa using hne, _, c57', fun h => ?_, fun _ => ?_⟩
          · exfalso
            apply hp
            have h : ((placeE u.ms x.id).1 == 1 && ((placeE u.ms x.id).2 == s.id && true)) = true := h
            simp at h
            exact Prod.ext h.1 h.2
          · refine ⟨_, wrap64 (by omega) (by omega), ?_⟩
            exact ⟨_, _, Wk.keep [0, 4, 5, 6, 7, 21, 22, 23] [64, 80], by omega, i + 1, t, by omega, rfl, by omega, by omega, by omega, rfl⟩
    · simp at hlt
      have : i = u.bs.length := by omega
      subst this
      simp only [List.drop_length, hsum, Int.add_zero] at hI
      subst hI
      refine ⟨fun h => ?_, fun h => ?_⟩
      · rw [if_pos (of_decide_eq_true h)]; exact ⟨rfl, rfl, rfl⟩
      · rw [if_neg (of_decide_eq_false h)]; exact ⟨rfl, rfl, rfl⟩
/-- the move that carries a box -/
abbrev mvAt (u : Us) (e : Ev) (b k o : Int) : Mv := ⟨e.day, b, (placeE u.ms b).1, (placeE u.ms b).2, k, o⟩
def carU (u : Us) (m : Mv) : Us := if appE u.ms m = 0 then { u with ms := u.ms ++ [m] } else u
theorem c225 (u : Us) (n : Nat) (rows : List (List AV)) (e : Ev) (hm : MsOK u.ms) (b : Int) (hb : isId b = true) (k o : Int) :
    FnG Tryz.prog 225 [.ovar 18 0, I b, pAV (k, o)] (OD u (.rsl 3 n rows) e) [18] (OD (carU u (mvAt u e b k o)) (.rsl 3 n rows) e) (I (appE u.ms (mvAt u e b k o))) := by
  have a57 := c57 u hm b hb
  have a291 := c291 u.ms hm (mvAt u e b k o)
  unfold appR at a291
  by_cases h : appE u.ms (mvAt u e b k o) = 0
  · have hu : carU u (mvAt u e b k o) = { u with ms := u.ms ++ [mvAt u e b k o] } := by unfold carU; rw [if_pos h]
    rw [hu, h]
    rw [if_pos h, h] at a291
    exact mkN225 [(2, [6])] [] rfl (p18 _ _ _) ⟨_, a57, _, a291, true, _, WkP.keep [35, 36, 37] [18], _, I 0, [18], (c292a u n rows e (u.ms ++ [mvAt u e b k o])).as (by rfl) (by rfl) (by rfl), rfl, _, WkP.keep [6] [18], rfl, rfl, rfl⟩
  · have hu : carU u (mvAt u e b k o) = u := by unfold carU; rw [if_neg h]
    rw [hu]
    rw [if_neg h] at a291
    exact mkN225 [(2, [6])] [] rfl (p18 _ _ _) ⟨_, a57, _, a291, _, WkP.keep [35, 36, 37] [18], _, I (appE u.ms (mvAt u e b k o)), [18], (c292b u n rows e _ h).as (by rfl) (by rfl) (by rfl), rfl, _, WkP.keep [6] [18], rfl, rfl, rfl⟩
/-- what a move of a box to a shelf comes to -/
def movE (u : Us) (e : Ev) (s : Sh) (b : Bx) : Int := if holdE u.ms s b u.bs ≠ 0 then holdE u.ms s b u.bs else appE u.ms (mvAt u e b.id 1 s.id)
def movU (u : Us) (e : Ev) (s : Sh) (b : Bx) : Us := if movE u e s b = 0 then { u with ms := u.ms ++ [mvAt u e b.id 1 s.id] } else u
theorem c143 (u : Us) (n : Nat) (rows : List (List AV)) (id day kd : Int) (hm : MsOK u.ms) (hb : u.bs.length ≤ 1000) (hl : u.ls.length ≤ 1000) (hi : ∀ b ∈ u.bs, isId b.id = true ∧ 0 ≤ b.width ∧ b.width ≤ 10000) (i k : Nat) (b : Bx) (s : Sh)
    (hbi : u.bs[i]? = some b) (hsk : u.ls[k]? = some s) (hbx : bxI u.bs b.id = i) (hsh : shI u.ls s.id = k) (h3 : (placeE u.ms b.id).1 ≠ 3) :
    FnG Tryz.prog 143 [.ovar 18 0] (OD u (.rsl 3 n rows) ⟨id, day, kd, [b.id, 1, s.id]⟩) [18] (OD (movU u ⟨id, day, kd, [b.id, 1, s.id]⟩ s b) (.rsl 3 n rows) ⟨id, day, kd, [b.id, 1, s.id]⟩) (I (movE u ⟨id, day, kd, [b.id, 1, s.id]⟩ s b)) := by
  obtain ⟨hid, hw0, hw1⟩ := hi b (List.mem_of_getElem? hbi)
  have a56 := c56 u (by omega) b.id
  have a91 := c91 u (by omega) s.id
  rw [hbx] at a56
  rw [hsh] at a91
  have a219 := c219 u n rows ⟨id, day, kd, [b.id, 1, s.id]⟩ hm b.id hid
  have e3 : ((placeE u.ms b.id).1 == 3) = false := by simpa using h3
  rw [e3] at a219
  have a224 := c224 u n rows ⟨id, day, kd, [b.id, 1, s.id]⟩ hm hb hi s b ⟨hw0, hw1⟩
  have a225 := c225 u n rows ⟨id, day, kd, [b.id, 1, s.id]⟩ hm b.id hid 1 s.id
  have g1 : decide ((i : Int) < 0) = false := decide_eq_false (by omega)
  have g2 : decide ((k : Int) < 0) = false := decide_eq_false (by omega)
  have hbr : (u.bs.map encB)[((i : Int)).toNat]? = some (encB b) := by rw [Int.toNat_natCast, List.getElem?_map, hbi]; rfl
  have hsr : (u.ls.map encS)[((k : Int)).toNat]? = some (encS s) := by rw [Int.toNat_natCast, List.getElem?_map, hsk]; rfl
  have hil := (List.getElem?_eq_some_iff.1 hbi).1
  have hkl := (List.getElem?_eq_some_iff.1 hsk).1
  refine mkN143 [(12, [4, 5, 6])] [] rfl (p18 _ _ _) ⟨⟨by decide, by simp⟩, [I 1], rfl, ⟨by decide, by simp⟩, [I s.id], rfl, ⟨by decide, by simp⟩, [I b.id], rfl, _, a56, _, a91, [(2, false), (6, true)], g1, rfl, fun h => ?_, fun _ => ?_⟩
  · exact absurd h (by simp)
  refine ⟨[(5, false)], ⟨by decide, by simp⟩, [I b.id], rfl, _, a219, rfl, fun h => (by cases h), fun _ => ⟨fun _ => ?_, fun h => (by cases h)⟩⟩
  refine ⟨⟨by omega, by omega⟩, encS s, hsr, ⟨by omega, by omega⟩, encB b, hbr, _, a224, fun h0 => ?_, fun h0 => ?_⟩
  · have h0 : holdE u.ms s b u.bs ≠ 0 := by simpa using h0
    have e1 : movE u ⟨id, day, kd, [b.id, 1, s.id]⟩ s b = holdE u.ms s b u.bs := by unfold movE; rw [if_pos h0]
    have e2 : movU u ⟨id, day, kd, [b.id, 1, s.id]⟩ s b = u := by unfold movU; rw [e1, if_neg h0]
    rw [e1, e2]
    exact ⟨_, WkP.keep [2] [18], rfl, rfl, rfl⟩
  · have h0 : holdE u.ms s b u.bs = 0 := by simpa using h0
    have e1 : movE u ⟨id, day, kd, [b.id, 1, s.id]⟩ s b = appE u.ms (mvAt u ⟨id, day, kd, [b.id, 1, s.id]⟩ b.id 1 s.id) := by unfold movE; rw [if_neg (by simp [h0])]
    have e2 : movU u ⟨id, day, kd, [b.id, 1, s.id]⟩ s b = carU u (mvAt u ⟨id, day, kd, [b.id, 1, s.id]⟩ b.id 1 s.id) := by unfold movU carU; rw [e1]
    rw [e1, e2]
    refine ⟨rfl, ⟨by decide, by simp⟩, [I b.id], rfl, _, WkP.keep [82, 85, 86] [18], _, I (appE u.ms (mvAt u ⟨id, day, kd, [b.id, 1, s.id]⟩ b.id 1 s.id)), [18], a225.as (by rfl) (by rfl) (by rfl), rfl, ?_⟩
    exact ⟨_, WkP.keep [2] [18], rfl, rfl, rfl⟩
end Go.Abs.Ltop
end
section
namespace Go.Abs
open Go.RowKit
set_option linter.unusedVariables false
/-! ### a region of which less is said at several places -/
def evOpsWs (P : Program) (T : Tab) (N : Nat) (dm : List (Nat × Bool)) (ps : List Nat) (ops : Array Oper) : List Nat → Nat → Cfg → (Cfg → Prop) → Prop
  | [], s, c, K => evOps false P T N dm ops ⟨c, [], []⟩ s (ops.toList.drop s) c K
  | p :: r, s, c, K => Nat.ble s p = true ∧ Nat.ble p ops.size = true ∧ evOps false P T N dm ops ⟨c, [], []⟩ s ((ops.toList.drop s).take (p - s)) c fun c1 => ∃ c2, WkP ps c1 c2 ∧ evOpsWs P T N dm ps ops r p c2 K
theorem evOpsWs_sound {P : Program} {T : Tab} {E : Env} {N : Nat} {ps : List Nat} {dm : List (Nat × Bool)} {ops : Array Oper} (hT : TabOK P T) (h1 : TabOne T = true) (hN : E.N = N) (hp : ∀ b, memN b ps = false → E.pin b = none) {Kk : Cfg → Prop} {Q : Exit → Act → World → Prop} (hQ : ∀ c a w, Kk c → SR E c a w → Q .normal a w) :
    ∀ (l : List Nat) (s : Nat) (c : Cfg) (a : Act) (w : World), s ≤ ops.size → evOpsWs P T N dm ps ops l s c Kk → SR E c a w → wpOps P ops Q (List.range' s (ops.size - s)) a w
  | [], s, c, a, w, hsz, h, hs => by
    have := wpOps_seg (is := []) (n := ops.size - s) (Q := Q) hT h1 hN (fun j hj => by rw [List.getElem?_drop]; simp) (by simp) h (fun c a w hk hs => hQ c a w hk hs) hs
    rw [List.append_nil] at this
    exact this
  | p :: r, s, c, a, w, hsz, h, hs => by
    obtain ⟨hle, hle2, h⟩ := h
    have hle := Nat.le_of_ble_eq_true hle
    have hle2 := Nat.le_of_ble_eq_true hle2
    rw [show List.range' s (ops.size - s) = List.range' s (p - s) ++ List.range' p (ops.size - p) from by
      rw [show List.range' p (ops.size - p) = List.range' (s + 1 * (p - s)) (ops.size - p) from by congr 1; omega, List.range'_append]
      congr 1; omega]
    refine wpOps_seg hT h1 hN (fun j hj => ?_) (by simp; omega) h (fun c1 a1 w1 hk hs1 => ?_) hs
    · rw [List.getElem?_take_of_lt (by simp at hj; omega), List.getElem?_drop]; simp
    · obtain ⟨c2, hw, hk2⟩ := hk
      exact evOpsWs_sound hT h1 hN hp hQ r p c2 a1 w1 hle2 hk2 (hw E a1 w1 hp hs1)
theorem region_ws {P : Program} {T : Tab} {E : Env} {N : Nat} {ps : List Nat} {dm : List (Nat × Bool)} {ops : Array Oper} (l : List Nat) {id : Nat} (hT : TabOK P T) (h1 : TabOne T = true) (hN : E.N = N) (hp : ∀ b, memN b ps = false → E.pin b = none) {Kk : Cfg → Prop} {Q : Exit → Act → World → Prop} {c : Cfg} {a : Act} {w : World}
    (h : evOpsWs P T N dm ps ops l 0 c Kk) (hs : SR E c a w) (hQ : ∀ c a w, Kk c → SR E c a w → Q .normal a w) : (Code.region id ops false).wp P Q a w := by
  have := evOpsWs_sound hT h1 hN hp hQ l 0 c a w (Nat.zero_le _) h hs
  rw [Nat.sub_zero, ← List.range_eq_range'] at this
  exact wp_region this
end Go.Abs
namespace Go.Abs.Ltop
open Go Go.Abs Go.Proofs
set_option linter.unusedVariables false
set_option maxRecDepth 20000
/-! ### the kinds of events -/
def kindL : List (List AV) :=
  [[I 40, I 6, I 0, B false, I 3, .func 131 []], [I 41, I 2, I 0, B false, I (-1), .func 132 []], [I 42, I 5, I 1, B false, I (-1), .func 133 []], [I 43, I 5, I 0, B false, I (-1), .func 134 []], [I 44, I 6, I 0, B false, I 3, .func 135 []],
   [I 45, I 6, I 0, B false, I (-1), .func 136 []], [I 46, I 1, I 0, B false, I (-1), .func 137 []], [I 47, I 4, I 0, B true, I (-1), .func 138 []], [I 48, I 4, I 0, B false, I (-1), .func 139 []], [I 49, I 4, I 0, B false, I (-1), .func 140 []],
   [I 50, I 1, I 0, B false, I (-1), .func 141 []], [I 51, I 4, I 0, B false, I (-1), .func 142 []], [I 52, I 3, I 0, B false, I (-1), .func 143 []], [I 53, I 3, I 0, B false, I (-1), .func 144 []], [I 54, I 1, I 0, B false, I (-1), .func 145 []],
   [I 55, I 2, I 0, B false, I (-1), .func 146 []], [I 56, I 4, I 0, B false, I (-1), .func 147 []], [I 57, I 3, I 0, B true, I (-1), .func 148 []], [I 58, I 1, I 0, B false, I (-1), .func 149 []], [I 59, I 1, I 0, B true, I (-1), .func 150 []]]
abbrev CK (n : Nat) : Cfg := ⟨[(1, .omap 16)], [(16, ⟨213, 6, .map true false, [], kindL.take n⟩)]⟩
theorem c99 : Fn Tryz.prog 99 [] (.rmap true false 6 kindL) := by
  refine fn_ofW (N := 23) [.tmp 0] tabOK Tryz.func99 rfl (by kernel_rfl) rfl rfl rfl fun E K a w hN hp hs => ?_
  have hp' : ∀ b, memN b [] = false → E.pin b = none := fun b _ => hp b
  refine wp_seq (region_ws (ps := []) (dm := []) [] tabOK tabOne hN hp' (c := ⟨idx 0 [], []⟩) (Kk := fun _ => True) (by exact trivial) ⟨K, hs⟩ fun c1 a1 w1 _ hs1 => ?_)
  have hs2 : SR E ⟨[], []⟩ a1 w1 := (Wk.keep [] []) E a1 w1 hs1
  refine wp_seq (region_ws (ps := []) (dm := []) [3, 5, 7, 9, 11, 13, 15, 17, 19, 21, 23, 25, 27, 29, 31, 33, 35, 37, 39, 41] tabOK tabOne hN hp' (Kk := fun c => ∃ c2, WkP [] c c2 ∧ c2 = ⟨[(0, .rmap true false 6 kindL)], []⟩) ?_ hs2 fun c1 a1 w1 hk hs1 => ?_)
  · have st : ∀ (n p : Nat), True := fun _ _ => trivial
    refine ⟨rfl, rfl, CK 1, WkP.keep [1] [16], ?_⟩
    refine ⟨rfl, rfl, CK 2, WkP.keep [1] [16], ?_⟩
    refine ⟨rfl, rfl, CK 3, WkP.keep [1] [16], ?_⟩
    refine ⟨rfl, rfl, CK 4, WkP.keep [1] [16], ?_⟩
    refine ⟨rfl, rfl, CK 5, WkP.keep [1] [16], ?_⟩
    refine ⟨rfl, rfl, CK 6, WkP.keep [1] [16], ?_⟩
    refine ⟨rfl, rfl, CK 7, WkP.keep [1] [16], ?_⟩
    refine ⟨rfl, rfl, CK 8, WkP.keep [1] [16], ?_⟩
    refine ⟨rfl, rfl, CK 9, WkP.keep [1] [16], ?_⟩
    refine ⟨rfl, rfl, CK 10, WkP.keep [1] [16], ?_⟩
    refine ⟨rfl, rfl, CK 11, WkP.keep [1] [16], ?_⟩
    refine ⟨rfl, rfl, CK 12, WkP.keep [1] [16], ?_⟩
    refine ⟨rfl, rfl, CK 13, WkP.keep [1] [16], ?_⟩
    refine ⟨rfl, rfl, CK 14, WkP.keep [1] [16], ?_⟩
    refine ⟨rfl, rfl, CK 15, WkP.keep [1] [16], ?_⟩
    refine ⟨rfl, rfl, CK 16, WkP.keep [1] [16], ?_⟩
    refine ⟨rfl, rfl, CK 17, WkP.keep [1] [16], ?_⟩
    refine ⟨rfl, rfl, CK 18, WkP.keep [1] [16], ?_⟩
    refine ⟨rfl, rfl, CK 19, WkP.keep [1] [16], ?_⟩
    refine ⟨rfl, rfl, CK 20, WkP.keep [1] [16], ?_⟩
    exact ⟨_, WkP.see [0] rfl, rfl⟩
  · obtain ⟨c2, hw, rfl⟩ := hk
    obtain ⟨K2, hs3⟩ := hw E a1 w1 hp' hs1
    exact wp_ret ⟨.inr rfl, K2, _, hs3, rfl, rfl, rfl⟩
end Go.Abs.Ltop
end
