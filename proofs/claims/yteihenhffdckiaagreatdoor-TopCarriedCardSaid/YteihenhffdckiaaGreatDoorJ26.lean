import Derived.Test.YteihenhffdckiaaGreatDoorRows
import Derived.ProofKit
import Derived.LaidMore
import Derived.OpenShut
import Derived.Stop.Joined
import Derived.Stop.LaidErr
import Derived.Lib.LaidTab
import Derived.Test.YteihenhffdckiaaGreatDoorTie
import Derived.Test.YteihenhffdckiaaGreatDoorCards
import Derived.Test.YteihenhffdckiaaGreatDoorJ25
import Derived.Test.YteihenhffdckiaaGreatDoorJ12
section
namespace Go.Abs.Ltop.Aw
open Go Go.Abs Go.Proofs
set_option linter.unusedVariables false
set_option maxRecDepth 20000
/-! ### the example's run -/
abbrev evR (e : Ev) : List AV := [I e.id, I e.day, I e.kind, NS e.nums, .nilsl]
abbrev EV : List (List AV) := [evR ev1, evR ev2, evR ev3, evR ev4, evR ev5, evR ev6, evR ev7]
theorem c15 : Fn Tryz.prog 15 [] (.rsl 5 7 EV) := by
  refine fn_ofW (N := 16) [.tmp 0] tabOK Tryz.func15 rfl (by kernel_rfl) rfl rfl rfl fun E K a w hN hp hs => ?_
  have hp' : ∀ b, memN b [] = false → E.pin b = none := fun b _ => hp b
  refine wp_seq (region_ws (ps := []) (dm := []) [] tabOK tabOne hN hp' (c := ⟨idx 0 [], []⟩) (Kk := fun _ => True) (by exact trivial) ⟨K, hs⟩ fun c1 a1 w1 _ hs1 => ?_)
  have hs2 : SR E ⟨[], []⟩ a1 w1 := (Wk.keep [] []) E a1 w1 hs1
  refine wp_seq (region_ws (ps := []) (dm := []) [2, 4, 6, 8, 10, 12, 14] tabOK tabOne hN hp' (Kk := fun c => ∃ c2, WkP [] c c2 ∧ c2 = ⟨[(0, .rsl 5 7 EV)], []⟩) ?_ hs2 fun c1 a1 w1 hk hs1 => ?_)
  · refine ⟨rfl, rfl, ⟨[(2, .agg (evR ev1))], []⟩, WkP.keep [2] [], ?_⟩
    refine ⟨rfl, rfl, ⟨[(2, .agg (evR ev1)), (4, .agg (evR ev2))], []⟩, WkP.keep [2, 4] [], ?_⟩
    refine ⟨rfl, rfl, ⟨[(2, .agg (evR ev1)), (4, .agg (evR ev2)), (6, .agg (evR ev3))], []⟩, WkP.keep [2, 4, 6] [], ?_⟩
    refine ⟨rfl, rfl, ⟨[(2, .agg (evR ev1)), (4, .agg (evR ev2)), (6, .agg (evR ev3)), (8, .agg (evR ev4))], []⟩, WkP.keep [2, 4, 6, 8] [], ?_⟩
    refine ⟨rfl, rfl, ⟨[(2, .agg (evR ev1)), (4, .agg (evR ev2)), (6, .agg (evR ev3)), (8, .agg (evR ev4)), (10, .agg (evR ev5))], []⟩, WkP.keep [2, 4, 6, 8, 10] [], ?_⟩
    refine ⟨rfl, rfl, ⟨[(2, .agg (evR ev1)), (4, .agg (evR ev2)), (6, .agg (evR ev3)), (8, .agg (evR ev4)), (10, .agg (evR ev5)), (12, .agg (evR ev6))], []⟩, WkP.keep [2, 4, 6, 8, 10, 12] [], ?_⟩
    refine ⟨rfl, rfl, ⟨[(2, .agg (evR ev1)), (4, .agg (evR ev2)), (6, .agg (evR ev3)), (8, .agg (evR ev4)), (10, .agg (evR ev5)), (12, .agg (evR ev6)), (14, .agg (evR ev7))], []⟩, WkP.keep [2, 4, 6, 8, 10, 12, 14] [], ?_⟩
    exact ⟨_, WkP.keep [0] [], rfl⟩
  · obtain ⟨c2, hw, rfl⟩ := hk
    obtain ⟨K2, hs3⟩ := hw E a1 w1 hp' hs1
    exact wp_ret ⟨.inr rfl, K2, _, hs3, rfl, rfl, rfl⟩
abbrev nilU : List AV := [.nilsl, .nilsl, .nilsl, I 30, .nilsl, .nilsl, .nilsl, .nilsl, .nilsl, .nilsl, I 2, .nilsl, .nilsl, .nilsl, .nilsl, I 0]
abbrev ue : Us := ⟨30, [], [], [], [], 2, [], 0⟩
theorem ue_ok : UOK ue := ⟨⟨by decide, by decide, ms_nil, by decide, by decide, by decide, rfl, rfl⟩, rfl, rfl, by simp, by simp, by simp⟩
theorem imp_nilU : Imp (.agg nilU) (.agg (Ltop.encU ue)) :=
  Imp.aggL ⟨.nil 5, .nil 6, .nil 6, .refl _, .nil 6, .nil 6, .nil 5, .nil 4, .nil 6, .nil 7, .refl _, .nil 4, .nil 8, .nil 2, .nil 3, .refl _, trivial⟩
theorem imp_nil1 : Imp (.agg nilU) (.agg (encU1 30 2)) :=
  Imp.aggL ⟨.nil 5, .nil 6, .nil 6, .refl _, .nil 6, .nil 6, .refl _, .refl _, .nil 6, .nil 7, .refl _, .nil 4, .nil 8, .nil 2, .refl _, .refl _, trivial⟩
theorem imp_ev (e : Ev) : Imp (.agg (evR e)) (.agg (encEv e)) := Imp.aggL ⟨.refl _, .refl _, .refl _, .refl _, .nil 1, trivial⟩
theorem kw {us : List AV} {e : Ev} {r : AV} (h : Fn Tryz.prog 28 [.agg us, .rsl 3 1 RW, .agg (encEv e)] r) : Fn Tryz.prog 28 [.agg us, .rsl 3 1 RW, .agg (evR e)] r :=
  h.args_weak ⟨.refl _, .refl _, imp_ev e, trivial⟩
abbrev endU : List AV := encU7 u7 [[I 3, I 7, I 0]]
abbrev CR (i : Int) (us : List AV) : Cfg :=
  ⟨[(1, .rsl 3 1 RW), (6, .ovar 96 0), (7, I 0), (8, I 0), (9, .ovar 144 0), (25, .rsl 5 7 EV), (26, I 7), (27, I i)], [(96, ⟨42, 16, .any, [zU], []⟩), (144, ⟨42, 16, .any, [us], []⟩)]⟩
def stL : List (List AV) := [encU1 30 2, encU1' 30 2 b0, encU3 30 2 b0 s0, encU u3, encU u4, encU u5, encU u6, endU]
set_option maxHeartbeats 4000000 in
theorem c14 : Fn Tryz.prog 14 [.agg nilU, .rsl 3 1 RW, .rsl 5 7 EV] (.tup [.agg endU, I (-1), I 0]) := by
  have a26 := (c26 ue ue_ok).args_weak (us' := [.agg nilU]) ⟨imp_nilU, trivial⟩
  have a27 : Fn Tryz.prog 27 [.rsl 3 1 RW] (I 0) := by have := c27r exW (by decide); rwa [ex_rows] at this
  have a32 := (c32a 30 2).args_weak (us' := [.agg nilU]) ⟨imp_nil1, trivial⟩
  refine mkG14 [] [] rfl ⟨[(3, false)], _, a26, rfl, _, a27, fun h => (by cases h), fun _ => ⟨_, a32, ?_⟩⟩
  refine ⟨fun m c => ∃ (i : Nat) (us : List AV), i ≤ 7 ∧ m = 7 - i ∧ stL[i]? = some us ∧ c = CR i us, ⟨_, _, WkP.keep [1, 6, 7, 8, 9, 25, 26, 27] [96, 144], 0, encU1 30 2, by omega, rfl, rfl, rfl⟩, ?_⟩
  rintro m c ⟨i, us, hi, rfl, hst, rfl⟩
  refine ⟨fun hlt => ?_, fun hlt => ?_⟩
  · have hlt : i < 7 := by simp at hlt; omega
    have key : ∀ (e : Ev) (us us' : List AV), us = us → True := fun _ _ _ _ => trivial
    match i, hlt, hst with
    | 0, _, hst =>
      obtain rfl := Option.some.inj (show some (encU1 30 2) = some us from hst)
      refine ⟨⟨by decide, by decide⟩, evR ev1, rfl, _, kw k1, fun h => (by cases h), fun _ => ?_⟩
      exact ⟨_, rfl, _, _, WkP.keep [1, 6, 7, 8, 9, 25, 26, 27] [96, 144], by omega, 1, _, by omega, rfl, rfl, rfl⟩
    | 1, _, hst =>
      obtain rfl := Option.some.inj (show some (encU1' 30 2 b0) = some us from hst)
      refine ⟨⟨by decide, by decide⟩, evR ev2, rfl, _, kw k2, fun h => (by cases h), fun _ => ?_⟩
      exact ⟨_, rfl, _, _, WkP.keep [1, 6, 7, 8, 9, 25, 26, 27] [96, 144], by omega, 2, _, by omega, rfl, rfl, rfl⟩
    | 2, _, hst =>
      obtain rfl := Option.some.inj (show some (encU3 30 2 b0 s0) = some us from hst)
      refine ⟨⟨by decide, by decide⟩, evR ev3, rfl, _, kw k3, fun h => (by cases h), fun _ => ?_⟩
      exact ⟨_, rfl, _, _, WkP.keep [1, 6, 7, 8, 9, 25, 26, 27] [96, 144], by omega, 3, _, by omega, rfl, rfl, rfl⟩
    | 3, _, hst =>
      obtain rfl := Option.some.inj (show some (encU u3) = some us from hst)
      refine ⟨⟨by decide, by decide⟩, evR ev4, rfl, _, kw k4, fun h => (by cases h), fun _ => ?_⟩
      exact ⟨_, rfl, _, _, WkP.keep [1, 6, 7, 8, 9, 25, 26, 27] [96, 144], by omega, 4, _, by omega, rfl, rfl, rfl⟩
    | 4, _, hst =>
      obtain rfl := Option.some.inj (show some (encU u4) = some us from hst)
      refine ⟨⟨by decide, by decide⟩, evR ev5, rfl, _, kw k5, fun h => (by cases h), fun _ => ?_⟩
      exact ⟨_, rfl, _, _, WkP.keep [1, 6, 7, 8, 9, 25, 26, 27] [96, 144], by omega, 5, _, by omega, rfl, rfl, rfl⟩
    | 5, _, hst =>
      obtain rfl := Option.some.inj (show some (encU u5) = some us from hst)
      refine ⟨⟨by decide, by decide⟩, evR ev6, rfl, _, kw k6, fun h => (by cases h), fun _ => ?_⟩
      exact ⟨_, rfl, _, _, WkP.keep [1, 6, 7, 8, 9, 25, 26, 27] [96, 144], by omega, 6, _, by omega, rfl, rfl, rfl⟩
    | 6, _, hst =>
      obtain rfl := Option.some.inj (show some (encU u6) = some us from hst)
      refine ⟨⟨by decide, by decide⟩, evR ev7, rfl, _, kw k7, fun h => (by cases h), fun _ => ?_⟩
      exact ⟨_, rfl, _, _, WkP.keep [1, 6, 7, 8, 9, 25, 26, 27] [96, 144], by omega, 7, _, by omega, rfl, rfl, rfl⟩
  · have : i = 7 := by simp at hlt; omega
    subst this
    have : us = endU := by injection (show some endU = some us from hst) with h; exact h.symm
    subst this
    exact ⟨_, WkP.refl _ _, _, _, rfl, ⟨rfl, rfl⟩, rfl, rfl, rfl, rfl, trivial⟩
end Go.Abs.Ltop.Aw
end
section
namespace Go.Abs.Ltop.Aw
open Go Go.Abs Go.Proofs
set_option linter.unusedVariables false
set_option maxRecDepth 20000
/-! ### the example as a whole -/
abbrev xl : List Sh := [⟨1, 1, 9, 0⟩, ⟨2, 1, 9, 0⟩]
abbrev xb : Bx := ⟨1, 5, 5, 0, []⟩
theorem w16 : Fn Tryz.prog 16 [MS [m0, m1], I 1, I 0] (.tup [pAV (3, 3), I 0]) := by
  have h := c16 [m0, m1] 1 0 (by decide) (fun _ => by decide)
  have e : whereE [m0, m1] 1 0 = ((3, 3), 0) := by decide
  rw [e] at h
  exact h
theorem w9 : Fn Tryz.prog 9 [SS xl, .rsl 5 1 [rw1 xb], NS [1], NS [2]] (.tup [(planR xl [xb] [1] [2]).1, I (planR xl [xb] [1] [2]).2]) :=
  (c9 xl [xb] [1] [2] (by decide) (by decide) (by decide)).args_weak ⟨.refl _, imp_rw1 xb rfl, .refl _, .refl _, trivial⟩
theorem w9p : planE [2] (searchE xl [xb] [1]) = some [⟨1, 1, 2⟩] := by rfl
theorem w9e : planR xl [xb] [1] [2] = (YS [⟨1, 1, 2⟩], 0) := by
  unfold planR
  rw [if_neg (by decide), if_neg (by decide), w9p]
theorem w9' : Fn Tryz.prog 9 [SS xl, .rsl 5 1 [rw1 xb], NS [1], NS [2]] (.tup [YS [⟨1, 1, 2⟩], I 0]) := by
  have h := w9
  rw [w9e] at h
  exact h
set_option maxHeartbeats 8000000 in
theorem c4 : Fn Tryz.prog 4 [] (B true) := by
  refine mkG4 [] [] rfl ⟨_, c6 2 30 rfl rfl, _, c15, _, c14, _, w16, _, a17, _, w9', _, Pk.ex_18, ?_⟩
  refine ⟨[(2, true), (7, true), (11, true), (16, true), (20, true)], rfl, rfl, rfl, rfl, rfl, _, rfl, _, rfl, _, rfl, _, rfl, _, rfl, ?_⟩
  exact ⟨_, WkP.refl _ _, rfl, rfl, rfl⟩
end Go.Abs.Ltop.Aw
end
section
namespace Go.Abs.Ltop
open Go Go.Abs Go.Proofs
set_option linter.unusedVariables false
set_option maxRecDepth 20000
/-! ### the arguments, read -/
theorem rdSh {row : List AV} {d : Nat} (h : Rd Tryz.prog (d + 2) 48 row) : ∃ a : Sh, row = encS a := by
  simp only [Rd, Tryz.underlying48, RdFs, Tryz.underlying3] at h
  obtain ⟨_, _, rfl, ⟨n0, rfl, _⟩, _, _, rfl, ⟨n1, rfl, _⟩, _, _, rfl, ⟨n2, rfl, _⟩, _, _, rfl, ⟨n3, rfl, _⟩, rfl⟩ := h
  exact ⟨⟨n0, n1, n2, n3⟩, rfl⟩
theorem rdCt {row : List AV} {d : Nat} (h : Rd Tryz.prog (d + 2) 162 row) : ∃ a : Ct, row = encC a := by
  simp only [Rd, Tryz.underlying162, RdFs, Tryz.underlying3] at h
  obtain ⟨_, _, rfl, ⟨n0, rfl, _⟩, _, _, rfl, ⟨n1, rfl, _⟩, rfl⟩ := h
  exact ⟨⟨n0, n1⟩, rfl⟩
theorem rowsOf {α : Type} {enc : α → List AV} {p : List AV → Prop} (hp : ∀ row, p row → ∃ a, row = enc a) : ∀ {rows : List (List AV)}, (∀ row ∈ rows, p row) → ∃ l : List α, rows = l.map enc
  | [], _ => ⟨[], rfl⟩
  | r :: rows, h => by
    obtain ⟨a, rfl⟩ := hp r (h r (by simp))
    obtain ⟨l, rfl⟩ := rowsOf hp (rows := rows) fun row hr => h row (by simp [hr])
    exact ⟨a :: l, rfl⟩
theorem rdCs {row : List AV} {d : Nat} (h : Rd Tryz.prog (d + 3) 54 row) : ∃ l : List Ct, row = [CS l] := by
  simp only [Rd, Tryz.underlying54] at h
  obtain ⟨rows, rfl, _, hr⟩ := h
  obtain ⟨l, rfl⟩ := rowsOf (enc := encC) (p := Rd Tryz.prog (d + 2) 162) (fun row h => rdCt (d := d) h) hr
  refine ⟨l, ?_⟩
  rw [show Tryz.prog.cellsOf 162 = 2 by kernel_rfl, List.length_map]
theorem rdBx {row : List AV} {d : Nat} (h : Rd Tryz.prog (d + 4) 56 row) : ∃ a : Bx, row = encB a := by
  unfold Rd at h
  simp only [Tryz.underlying56, RdFs] at h
  obtain ⟨_, _, rfl, h0, _, _, rfl, h1, _, _, rfl, h2, _, _, rfl, h3, _, _, rfl, h4, rfl⟩ := h
  simp only [Rd, Tryz.underlying3] at h0 h1 h2 h3
  obtain ⟨n0, rfl, _⟩ := h0
  obtain ⟨n1, rfl, _⟩ := h1
  obtain ⟨n2, rfl, _⟩ := h2
  obtain ⟨n3, rfl, _⟩ := h3
  obtain ⟨l, rfl⟩ := rdCs (d := d) h4
  exact ⟨⟨n0, n1, n2, n3, l⟩, rfl⟩
theorem maxLen64 {n : Nat} (h : n ≤ maxLen) : n ≤ 9223372036854775807 := by
  have : maxLen ≤ 9223372036854775807 := by unfold maxLen; omega
  omega
theorem rd22 {u : AV} (h : RdV Tryz.prog 6 22 u) : ∃ l : List Sh, u = SS l ∧ l.length ≤ 9223372036854775807 := by
  simp only [RdV, Tryz.underlying22, Rd] at h
  obtain ⟨rows, hu, hl, hr⟩ := h
  obtain ⟨l, rfl⟩ := rowsOf (enc := encS) (p := fun row => Rd Tryz.prog 5 48 row) (fun row h => rdSh (d := 3) h) hr
  injection hu with hu
  rw [show Tryz.prog.cellsOf 48 = 4 by kernel_rfl, List.length_map] at hu
  exact ⟨l, hu, maxLen64 (by simpa using hl)⟩
theorem rd23 {u : AV} (h : RdV Tryz.prog 6 23 u) : ∃ l : List Bx, u = BS l ∧ l.length ≤ 9223372036854775807 := by
  simp only [RdV, Tryz.underlying23, Rd] at h
  obtain ⟨rows, hu, hl, hr⟩ := h
  obtain ⟨l, rfl⟩ := rowsOf (enc := encB) (p := fun row => Rd Tryz.prog 5 56 row) (fun row h => rdBx (d := 1) h) hr
  injection hu with hu
  rw [show Tryz.prog.cellsOf 56 = 5 by kernel_rfl, List.length_map] at hu
  exact ⟨l, hu, maxLen64 (by simpa using hl)⟩
theorem rdNs {row : List AV} {d : Nat} (h : Rd Tryz.prog (d + 2) 24 row) : ∃ l : List Int, row = [NS l] ∧ ∀ n ∈ l, -9223372036854775808 ≤ n ∧ n ≤ 9223372036854775807 := by
  simp only [Rd, Tryz.underlying24] at h
  obtain ⟨rows, rfl, hz, hr⟩ := h
  clear hz
  obtain ⟨l, rfl, hw⟩ : ∃ l : List Int, rows = (l.map fun n => [I n]) ∧ ∀ n ∈ l, -9223372036854775808 ≤ n ∧ n ≤ 9223372036854775807 := by
    induction rows with
    | nil => exact ⟨[], rfl, by simp⟩
    | cons r rows ih =>
      obtain ⟨l, rfl, hl⟩ := ih fun row hr' => hr row (by simp [hr'])
      have h0 := hr r (by simp)
      simp only [Rd, Tryz.underlying3] at h0
      obtain ⟨n, rfl, hw⟩ := h0
      have hw := wf64 hw
      refine ⟨n :: l, rfl, fun m hm => ?_⟩
      rcases List.mem_cons.1 hm with rfl | hm
      · exact hw
      · exact hl m hm
  refine ⟨l, ?_, hw⟩
  rw [show Tryz.prog.cellsOf 3 = 1 by kernel_rfl, List.length_map]
theorem rd25 {u : AV} (h : RdV Tryz.prog 6 25 u) : ∃ x0 x1 x2 : List Int, u = X3 x0 x1 x2 ∧ ∀ n ∈ x2, -9223372036854775808 ≤ n ∧ n ≤ 9223372036854775807 := by
  simp only [RdV, Tryz.underlying25] at h
  obtain ⟨us, rfl, h⟩ := h
  unfold Rd at h
  simp only [Tryz.underlying25, RdN] at h
  obtain ⟨_, _, rfl, h0, _, _, rfl, h1, _, _, rfl, h2, rfl⟩ := h
  obtain ⟨x0, rfl, _⟩ := rdNs (d := 3) h0
  obtain ⟨x1, rfl, _⟩ := rdNs (d := 3) h1
  obtain ⟨x2, rfl, hw⟩ := rdNs (d := 3) h2
  exact ⟨x0, x1, x2, rfl, hw⟩
theorem rdvs3 {P : Program} {d t0 t1 t2 : Nat} {us : List AV} (h : RdVs P d [t0, t1, t2] us) : ∃ u0 u1 u2, us = [u0, u1, u2] ∧ RdV P d t0 u0 ∧ RdV P d t1 u1 ∧ RdV P d t2 u2 := by
  match us, h with
  | [u0, u1, u2], ⟨h0, h1, h2, _⟩ => exact ⟨u0, u1, u2, rfl, h0, h1, h2⟩
/-- THE LAW TopCarried, over readings -/
theorem l3 (us : List AV) (h : RdVs Tryz.prog 6 Tryz.f3.params.toList us) : Fn Tryz.prog 3 us (.bool true) := by
  rw [Tryz.params3] at h
  obtain ⟨u0, u1, u2, rfl, h0, h1, h2⟩ := rdvs3 h
  obtain ⟨ls, rfl, hl⟩ := rd22 h0
  obtain ⟨bs, rfl, hb⟩ := rd23 h1
  obtain ⟨x0, x1, x2, rfl, hw⟩ := rd25 h2
  exact c3 ls bs x0 x1 x2 hw hb hl Aw.c4
end Go.Abs.Ltop
end
section
namespace Go.Abs
open Go.RowKit Go.ChangeShapes Go.WideShapes Go.ChangeAt
set_option linter.unusedVariables false
section
variable {H : Type} {enc : TypeId × Value → H}
/-- THE ROW'S STEP, whatever the law, where the row lists package-level variables -/
theorem law_laid {C : Checked} {os : Os} {f : FuncId} {fn : Func} {s : ChangeSpec} {conds : List PathCond} {d tb : Nat} {L : List (String × DataW Unit)}
    (own : ownKnob C.prog.godebug = none) (started : os.Started) (noInit : C.prog.inits.idxOf? f = none) (hfn : C.prog.funcs[f]? = some fn)
    (witness : ∃ (w : World) (tape : Tape) (i : Input), w.os = os ∧ (w.forCall tape i).Shaped C.prog ∧ i.vars = [] ∧ Input.okWide C.prog (w.forCall tape i) .any w.heap.size f i ∧
      ((s.pre enc C.prog fn conds false (w.forCall tape i).memory i.args ∧ laidMetH C.prog L (w.forCall tape i).memory) ∧ sizedMet enc C.prog fn (OpenSpec.ofChange s) false (w.forCall tape i).memory i.args) ∧ ({} : Assume).holds C.prog (lone (Frame.enter C.prog f i.args .normal) [] (w.forCall tape i)))
    (laid : laidOutB C.prog = true) (hplain : (fn.params.toList.all fun t => plainT C.prog d t) = true) (hread : (fn.params.toList.all fun t => C.prog.readableRec t && decide (t < C.prog.types.size)) = true)
    (hres : fn.resultTypes = #[tb]) (htb : C.prog.underlying tb = some .bool) (hvars : s.vars = [])
    (hspec : ∀ ds : List (DataW H), ds.length = fn.params.toList.length → s.fn H ds = { results := [.lit (.bool true)], args := ds })
    (hwi : ∀ w, laidMetH C.prog L w → WI w) (law : ∀ us, RdVs C.prog d fn.params.toList us → Fn C.prog f us (.bool true)) :
    ReturnsInHanded {} C os f .any (fun w args => (s.pre enc C.prog fn conds false w args ∧ laidMetH C.prog L w) ∧ sizedMet enc C.prog fn (OpenSpec.ofChange s) false w args) (s.post enc C.prog fn false true false false) := by
  refine returnsInHanded_of_change_and (X := fun w _ => laidMetH C.prog L w) (fun _ _ _ hh h => h.of_heap hh) own started noInit hfn witness ?_
  intro W b0 args ds gs before hval hW hcnd _ hL _
  have hW' := hW
  obtain ⟨p, q, hA, hV, rfl, hfz, hnd⟩ := hW
  rw [hvars] at hV
  obtain ⟨rfl, rfl⟩ := trodVars_none hV
  obtain ⟨hdl, hvl⟩ := trodAll_len hA
  obtain ⟨us, hus, hl, hr⟩ := args_rd (w := W) (b0 := b0) hplain (fun j t v ht hv => hval j t v (by simpa using ht) (by simpa using hv)) hA
  refine ((law us hus).2 (fun _ => False) W args (hwi W hL) (by rw [hl]; simp) (fun j u c hu hc => hr j u c hu (by simpa using hc))).mono fun e W' ⟨v, he, hR, bel⟩ => ?_
  subst he
  have hv : v = .bool true := VR.bool_inv hR
  subst hv
  refine ⟨_, rfl, ds, [], p ++ [], [], p, [], hW', ?_, ?_, ?_, bel.frame _, fun h => by cases h⟩
  · rw [hspec _ (by simpa using hdl), hres]
    exact trodAll_mk1 (shut_bool htb _)
  · rw [hspec _ (by simpa using hdl)]
    simp only [List.append_nil]
    exact below_trodAll laid bel hread hA
  · rw [hspec _ (by simpa using hdl), hvars]
    exact rfl
end
end Go.Abs
end
section
namespace Go.Proofs.YteihenhffdckiaaGreatDoor
open Go Go.Abs Go.Abs.Ltop Go.ChangeShapes Go.WideShapes Go.ChangeAt Go.RowKit
set_option linter.unusedVariables false
set_option maxRecDepth 100000
theorem own : ownKnob Tryz.prog.godebug = none := by kernel_rfl
theorem laidOut : laidOutB Tryz.prog = true := by kernel_rfl
abbrev L3 : List (String × DataW Unit) := Rows.topCarriedRow.laid
theorem door_met (os : Os) (args : Array Value) : laidMetH Tryz.prog L3 ((World.doorLaid Tryz.prog 400 os).forCall (fun _ _ => 0) ⟨#[], args, []⟩).memory :=
  laidMetH_of_parts3 (fuel := 8) (laidMet_of_run' 8 (by kernel_rfl) (by kernel_rfl)) (by kernel_rfl) (by kernel_rfl)
end Go.Proofs.YteihenhffdckiaaGreatDoor
end
