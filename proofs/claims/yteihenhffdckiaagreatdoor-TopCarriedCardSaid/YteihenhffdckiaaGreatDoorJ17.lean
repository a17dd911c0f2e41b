import Derived.Test.YteihenhffdckiaaGreatDoorBtop
import Derived.Test.YteihenhffdckiaaGreatDoorJ14
import Derived.Test.YteihenhffdckiaaGreatDoorJ0
section
namespace Go.Abs.Ltop
open Go Go.Abs Go.Proofs
set_option linter.unusedVariables false
set_option maxRecDepth 20000
theorem wrapTo {x y : Int} (h : x = y) (h1 : -9223372036854775808 ≤ x) (h2 : x ≤ 9223372036854775807) : IntKind.i64.wrap x = y := by rw [wrap64 h1 h2]; exact h
abbrev I (n : Int) : AV := .int .i64 n
abbrev B (b : Bool) : AV := .bool b
def isId (n : Int) : Bool := decide (n ≥ 1) && decide (n ≤ 1073741824)
def isDayB (n : Int) : Bool := decide (n ≥ 0) && decide (n ≤ 1048575)
def isPlaceB (k o : Int) : Bool := if k = 0 ∨ k = 2 ∨ k = 4 then o == 0 else if k = 1 ∨ k = 3 then isId o else false
theorem c34 (n : Int) : Fn Tryz.prog 34 [I n] (B (isId n)) := mk34 rfl ⟨[], rfl, rfl, rfl⟩
theorem c35 (n : Int) : Fn Tryz.prog 35 [I n] (B (isDayB n)) := mk35 rfl ⟨[], rfl, rfl, rfl⟩
theorem c52 (n : Int) : Fn Tryz.prog 52 [I n] (B (isId n)) := mk52 rfl ⟨[], rfl, rfl, rfl⟩
def inB (n a b : Int) : Bool := decide (n ≥ a) && decide (n ≤ b)
theorem c21 (n a b : Int) : Fn Tryz.prog 21 [I n, I a, I b] (B (inB n a b)) := mk21 rfl ⟨[], rfl, rfl, rfl⟩
theorem c114 (n a b : Int) : Fn Tryz.prog 114 [I n, I a, I b] (B (inB n a b)) := mk114 rfl ⟨[], rfl, rfl, rfl⟩
theorem c151 (k o : Int) : Fn Tryz.prog 151 [.agg [I k, I o]] (B (isPlaceB k o)) := by
  refine mk151 rfl ?_
  have e : ∀ {x y : Int}, (x == y) = true → x = y := fun h => by simpa using h
  have ne : ∀ {x y : Int}, (x == y) = false → x ≠ y := fun h => by simpa using h
  have k1 : (k = 0 ∨ k = 2 ∨ k = 4) → B (isPlaceB k o) = B (o == 0) := fun h => by unfold isPlaceB; rw [if_pos h]
  have k2 : (k = 1 ∨ k = 3) → B (isPlaceB k o) = B (isId o) := fun h => by unfold isPlaceB; rw [if_neg (by omega), if_pos h]
  have k3 : k ≠ 0 → k ≠ 2 → k ≠ 4 → k ≠ 1 → k ≠ 3 → B (isPlaceB k o) = B false := fun h0 h2 h4 h1 h3 => by unfold isPlaceB; rw [if_neg (by omega), if_neg (by omega)]
  have no : ∀ {b : Bool} {p : Prop}, b = true → b = false → p := fun h1 h2 => by rw [h1] at h2; cases h2
  exact ⟨fun h0 => ⟨fun _ => ⟨rfl, rfl, k1 (.inl (e h0))⟩, fun h => no h0 h⟩,
    fun h0 => ⟨fun h2 => ⟨fun _ => ⟨rfl, rfl, k1 (.inr (.inl (e h2)))⟩, fun h => no h2 h⟩,
      fun h2 => ⟨fun h4 => ⟨rfl, rfl, k1 (.inr (.inr (e h4)))⟩,
        fun h4 => ⟨fun h1 => ⟨fun _ => ⟨_, c34 o, rfl, rfl, k2 (.inl (e h1))⟩, fun h => no h1 h⟩,
          fun h1 => ⟨fun h3 => ⟨_, c34 o, rfl, rfl, k2 (.inr (e h3))⟩, fun h3 => ⟨rfl, rfl, k3 (ne h0) (ne h2) (ne h4) (ne h1) (ne h3)⟩⟩⟩⟩⟩⟩
/-! ### moves, and where they leave the boxes -/
structure Mv where
  day : Int
  box : Int
  fk : Int
  fo : Int
  tk : Int
  to : Int
  deriving DecidableEq
def rowM (m : Mv) : List AV := [I m.day, I m.box, I m.fk, I m.fo, I m.tk, I m.to]
abbrev MS (ms : List Mv) : AV := .rsl 6 ms.length (ms.map rowM)
abbrev fMS (ms : List Mv) : AV := .fsl true 165 6 ms.length (ms.map rowM)
/-- the places of boxes, in the order in which they came -/
abbrev Pl := List (Int × Int × Int)
def entP (x : Int × Int × Int) : List AV := [I x.1, I x.2.1, I x.2.2]
def pget (b : Int) : Pl → Int × Int
  | [] => (0, 0)
  | x :: r => if b = x.1 then x.2 else pget b r
def phas (b : Int) (l : Pl) : Bool := l.any fun x => b == x.1
def pput (b : Int) (p : Int × Int) : Pl → Pl
  | [] => [(b, p)]
  | x :: r => if b = x.1 then (b, p) :: r else x :: pput b p r
theorem mget_p (b : Int) : ∀ l : Pl, mget (I b) (l.map entP) = if phas b l then some [I (pget b l).1, I (pget b l).2] else none
  | [] => rfl
  | x :: r => by
    have ih := mget_p b r
    simp only [List.map_cons, entP, mget, keyEq, phas, pget, List.any_cons]
    by_cases h : b = x.1
    · simp [h]
    · have hb : (b == x.1) = false := by simpa using h
      simp only [hb, if_neg h, Bool.false_or]
      exact ih
theorem pget_no {b : Int} : ∀ {l : Pl}, phas b l = false → pget b l = (0, 0)
  | [], _ => rfl
  | x :: r, h => by
    simp only [phas, List.any_cons, Bool.or_eq_false_iff] at h
    have : b ≠ x.1 := by simpa using h.1
    simp only [pget, if_neg this]
    exact pget_no h.2
theorem mset_p (b : Int) (p : Int × Int) : ∀ l : Pl, mset [I p.1, I p.2] (midx (I b) (l.map entP)) (mensure (I b) [I 0, I 0] (l.map entP)) = (pput b p l).map entP
  | [] => rfl
  | x :: r => by
    have ih := mset_p b p r
    simp only [List.map_cons, entP, midx, mensure, keyEq, pput]
    by_cases h : b = x.1
    · subst h; simp [mset, entP]
    · have hb : (b == x.1) = false := by simpa using h
      simp only [hb, if_neg h, mset, List.map_cons, entP]
      exact congrArg _ ih
theorem midx_lt (b : Int) : ∀ l : Pl, midx (I b) (l.map entP) < (mensure (I b) [I 0, I 0] (l.map entP)).length
  | [] => by simp [midx, mensure]
  | x :: r => by
    have ih := midx_lt b r
    simp only [List.map_cons, entP, midx, mensure, keyEq]
    cases hb : b == x.1
    · simp only [List.length_cons]; exact Nat.succ_lt_succ ih
    · simp
structure Lg where
  pl : Pl
  day : Int
def nextE (x : Lg) (m : Mv) : Int :=
  if isDayB m.day = false ∨ isId m.box = false ∨ isPlaceB m.fk m.fo = false ∨ isPlaceB m.tk m.to = false then 2
  else if m.fk = m.tk ∧ m.fo = m.to then 1
  else if m.day < x.day then 5
  else if pget m.box x.pl ≠ (m.fk, m.fo) then 10
  else 0
def nextL (x : Lg) (m : Mv) : Lg := if nextE x m = 0 then ⟨pput m.box (m.tk, m.to) x.pl, m.day⟩ else x
/-- the blocks of a ledger, under ids that stay bound -/
abbrev OL (x : Lg) : List (Nat × OBlk) := [(18, ⟨111, 2, .any, [[.omap 34, I x.day]], []⟩), (34, ⟨109, 3, .map true false, [], x.pl.map entP⟩)]
end Go.Abs.Ltop
end
section
namespace Go.Abs.Ltop
open Go Go.Abs Go.Proofs
set_option linter.unusedVariables false
set_option maxRecDepth 20000
theorem no {b : Bool} {p : Prop} (h1 : b = true) (h2 : b = false) : p := by rw [h1] at h2; cases h2
theorem c101 (x : Lg) (m : Mv) : FnG Tryz.prog 101 [.ovar 18 0, .agg (rowM m)] (OL x) [18, 34] (OL (nextL x m)) (I (nextE x m)) := by
  refine fnG_ev (N := 68) (ks := [0, 1, 3, 4, 5, 28, 34, 42]) tabOK tabOne mixed [.tmp 4] Tryz.func101 rfl (by kernel_rfl) rfl rfl rfl (by intro b hb; rcases (by simpa [memN_iff] using hb : b = 18 ∨ b = 34) with rfl | rfl <;> exact ⟨rfl, rfl⟩) rfl ?_
  refine ⟨[], _, c35 m.day, _, c34 m.box, _, c151 m.fk m.fo, _, c151 m.tk m.to, ?_⟩
  have fl : ∀ {b : Bool}, (!b) = true → b = false := fun h => by simpa using h
  have hcond : (!isDayB m.day || !isId m.box || !isPlaceB m.fk m.fo || !isPlaceB m.tk m.to) = true ↔ (isDayB m.day = false ∨ isId m.box = false ∨ isPlaceB m.fk m.fo = false ∨ isPlaceB m.tk m.to = false) := by
    simp [Bool.or_eq_true, or_assoc]
  refine ⟨fun h1 => ?_, fun h1 => ⟨fun h2 => ?_, fun h2 => ?_⟩⟩
  · have hE : nextE x m = 2 := by unfold nextE; rw [if_pos (hcond.1 h1)]
    have hL : nextL x m = x := by unfold nextL; rw [hE]; rfl
    rw [hE, hL]
    exact ⟨rfl, rfl, rfl⟩
  · have h1' : ¬ (isDayB m.day = false ∨ isId m.box = false ∨ isPlaceB m.fk m.fo = false ∨ isPlaceB m.tk m.to = false) := fun h => no (hcond.2 h) h1
    have hE : nextE x m = 1 := by
      unfold nextE; rw [if_neg h1', if_pos ?_]
      simpa [eqL, eqC] using h2
    have hL : nextL x m = x := by unfold nextL; rw [hE]; rfl
    rw [hE, hL]
    exact ⟨rfl, rfl, rfl⟩
  · have h1' : ¬ (isDayB m.day = false ∨ isId m.box = false ∨ isPlaceB m.fk m.fo = false ∨ isPlaceB m.tk m.to = false) := fun h => no (hcond.2 h) h1
    have h2' : ¬ (m.fk = m.tk ∧ m.fo = m.to) := by
      intro h
      refine no (b := (m.fk == m.tk && (m.fo == m.to && true))) ?_ h2
      simp [h.1, h.2]
    refine ⟨fun h3 => ?_, fun h3 => ?_⟩
    · have hE : nextE x m = 5 := by
        unfold nextE; rw [if_neg h1', if_neg h2', if_pos (of_decide_eq_true h3)]
      have hL : nextL x m = x := by unfold nextL; rw [hE]; rfl
      rw [hE, hL]
      exact ⟨rfl, rfl, rfl⟩
    · have h3' : ¬ m.day < x.day := of_decide_eq_false h3
      have main : ∀ q : Bool, (q = true → pget m.box x.pl ≠ (m.fk, m.fo)) → (q = false → pget m.box x.pl = (m.fk, m.fo)) → (q = true → nextE x m = 10 ∧ nextL x m = x) ∧ (q = false → nextE x m = 0 ∧ nextL x m = ⟨pput m.box (m.tk, m.to) x.pl, m.day⟩) := by
        intro q q1 q2
        refine ⟨fun h => ?_, fun h => ?_⟩
        · have hE : nextE x m = 10 := by unfold nextE; rw [if_neg h1', if_neg h2', if_neg h3', if_pos (q1 h)]
          exact ⟨hE, by unfold nextL; rw [hE]; rfl⟩
        · have hE : nextE x m = 0 := by unfold nextE; rw [if_neg h1', if_neg h2', if_neg h3', if_neg (by rw [q2 h]; simp)]
          exact ⟨hE, by unfold nextL; rw [if_pos hE]⟩
      have hm := mget_p m.box x.pl
      have hq : ∀ k o : Int, ((!eqL [I k, I o] [I m.fk, I m.fo]) = true → (k, o) ≠ (m.fk, m.fo)) ∧ ((!eqL [I k, I o] [I m.fk, I m.fo]) = false → (k, o) = (m.fk, m.fo)) := by
        intro k o
        by_cases hk : k = m.fk <;> by_cases ho : o = m.fo <;> simp [eqL, eqC, hk, ho]
      have hset := mset_p m.box (m.tk, m.to) x.pl
      have hlt := midx_lt m.box x.pl
      have fin : ∀ {c : Cfg}, keepO c.O [18, 34] = [(18, ⟨111, 2, .any, [[.omap 34, I m.day]], []⟩), (34, ⟨109, 3, .map true false, [], mset [I m.tk, I m.to] (midx (I m.box) (x.pl.map entP)) (mensure (I m.box) [I 0, I 0] (x.pl.map entP))⟩)] → keepO c.O [18, 34] = OL ⟨pput m.box (m.tk, m.to) x.pl, m.day⟩ := by
        intro c h
        rw [h, hset]
      cases hp : phas m.box x.pl with
      | true =>
        rw [hp, if_pos rfl] at hm
        have hqq := hq (pget m.box x.pl).1 (pget m.box x.pl).2
        have hmm := main _ hqq.1 hqq.2
        refine ⟨true, _, hm, fun h4 => ?_, fun h4 => ?_⟩
        · rw [(hmm.1 h4).1, (hmm.1 h4).2]
          exact ⟨rfl, rfl, rfl⟩
        · rw [(hmm.2 h4).1, (hmm.2 h4).2]
          exact ⟨⟨by omega, by exact_mod_cast hlt⟩, fin rfl, rfl, rfl⟩
      | false =>
        rw [hp] at hm
        have hqq := hq 0 0
        have hpg := pget_no hp
        have hmm := main _ (by rw [hpg]; exact hqq.1) (by rw [hpg]; exact hqq.2)
        refine ⟨false, hm, fun h4 => ?_, fun h4 => ?_⟩
        · rw [(hmm.1 h4).1, (hmm.1 h4).2]
          exact ⟨rfl, rfl, rfl⟩
        · rw [(hmm.2 h4).1, (hmm.2 h4).2]
          exact ⟨⟨by omega, by exact_mod_cast hlt⟩, fin rfl, rfl, rfl⟩
end Go.Abs.Ltop
end
section
namespace Go.Abs
theorem FnG.as {P : Program} {f : FuncId} {us us' : List AV} {O O2 O' : List (Nat × OBlk)} {pins pins' : List Nat} {r : AV} (h : FnG P f us O pins O' r) (hu : us' = us) (hO : O2 = O) (hp : pins' = pins) : FnG P f us' O2 pins' O' r := by rw [hu, hO, hp]; exact h
end Go.Abs
namespace Go.Abs.Ltop
open Go Go.Abs Go.Proofs
set_option linter.unusedVariables false
set_option maxRecDepth 20000
theorem retG_two {T : Tab} {c : Cfg} {x y : ResultVar} {u v : AV} (h1 : rval T c x = some u) (h2 : notOpt u = true) (h3 : rval T c y = some v) (h4 : notOpt v = true) : retG T c [x, y] (.tup [u, v]) := by
  refine ⟨[u, v], rfl, rfl, fun j z w hz hw => ?_⟩
  match j with
  | 0 => simp at hz hw; subst hz hw; exact ⟨h1, h2⟩
  | 1 => simp at hz hw; subst hz hw; exact ⟨h3, h4⟩
  | j + 2 => simp at hz
def readGo (x : Lg) : List Mv → Lg × Int
  | [] => (x, 0)
  | m :: r => if nextE x m ≠ 0 then (x, nextE x m) else readGo (nextL x m) r
def Lg0 : Lg := ⟨[], 0⟩
def readE (ms : List Mv) : Lg × Int := if 1024 < ms.length then (Lg0, 8) else readGo Lg0 ms
theorem c70 (ms : List Mv) : FnG Tryz.prog 70 [MS ms] [] [] (OL (readE ms).1) (.tup [.ovar 18 0, I (readE ms).2]) := by
  refine mkN70 [(7, [2])] [] rfl (by intro b hb; cases hb) ⟨fun h => ?_, fun h => ?_⟩
  · simp at h
    have e : readE ms = (Lg0, 8) := by rw [readE, if_pos (by omega)]
    rw [e]
    exact ⟨_, WkP.kr [2, 3] [160, 128] [(160, 18), (128, 34)] rfl rfl rfl rfl, rfl, retG_two rfl rfl rfl rfl⟩
  · simp at h
    have e : readE ms = readGo Lg0 ms := by rw [readE, if_neg (by omega)]
    rw [e]
    refine ⟨fun n c => ∃ (i : Nat) (x : Lg), i ≤ ms.length ∧ n = ms.length - i ∧ c = ⟨[(0, MS ms), (4, .ovar 18 0), (15, MS ms), (16, I ms.length), (17, I i)], OL x⟩ ∧ readGo x (ms.drop i) = readGo Lg0 ms,
      ⟨_, _, WkP.kr [0, 4, 15, 16, 17] [160, 128] [(160, 18), (128, 34)] rfl rfl rfl rfl, 0, Lg0, by omega, rfl, rfl, by simp⟩, ?_⟩
    rintro n c ⟨i, x, hi, rfl, rfl, hI⟩
    refine ⟨fun h => ?_, fun h => ?_⟩
    · simp at h
      obtain ⟨m, hm, hd, _⟩ := drop_cons h
      rw [hd, readGo] at hI
      refine ⟨⟨by omega, by omega⟩, rowM m, by simp [hm], ?_⟩
      refine ⟨_, WkP.keep [0, 4, 15, 16, 17, 21, 22] [18, 34], OL (nextL x m), I (nextE x m), [18, 34], c101 x m, rfl, fun he => ?_, fun he => ?_⟩
      · have he : nextE x m ≠ 0 := by simpa using he
        rw [if_pos he] at hI
        rw [← hI]
        have hL : nextL x m = x := by unfold nextL; rw [if_neg he]
        rw [hL]
        exact ⟨_, WkP.keep [2, 3] [18, 34], rfl, retG_two rfl rfl rfl rfl⟩
      · have he : nextE x m = 0 := by simpa using he
        rw [if_neg (by simpa using he)] at hI
        refine ⟨_, wrap64 (by omega) (by omega), ?_⟩
        exact ⟨_, _, WkP.keep [0, 4, 15, 16, 17] [18, 34], by omega, i + 1, _, by omega, rfl, rfl, hI⟩
    · simp at h
      have : i = ms.length := by omega
      subst this
      simp [readGo] at hI
      rw [← hI]
      exact ⟨_, WkP.keep [2, 3] [18, 34], rfl, retG_two rfl rfl rfl rfl⟩
theorem c33 (ms : List Mv) : Fn Tryz.prog 33 [MS ms] (I (readE ms).2) :=
  mkG33 [(1, [1])] [] rfl ⟨_, WkP.keep [6] [], OL (readE ms).1, _, [], c70 ms, rfl, _, WkP.keep [2] [], rfl, rfl, rfl⟩
end Go.Abs.Ltop
namespace Go.Abs.Ltop
open Go Go.Abs Go.Proofs
set_option linter.unusedVariables false
set_option maxRecDepth 20000
theorem wrapU64 {n : Int} (h1 : 0 ≤ n) (h2 : n < 18446744073709551616) : IntKind.u64.wrap n = n := by
  simp only [IntKind.wrap, IntKind.bits, IntKind.signed]
  simp
  omega
theorem c72 (m : Mv) (d : Int) : Fn Tryz.prog 72 [.agg (rowM m), I d] (I (if m.day ≤ d then -1 else 1)) := by
  refine mk72 rfl ⟨fun h => ?_, fun h => ?_⟩
  · have h : m.day ≤ d := of_decide_eq_true h
    rw [if_pos h]; exact ⟨rfl, rfl, rfl⟩
  · have h : ¬ m.day ≤ d := of_decide_eq_false h
    rw [if_neg h]; exact ⟨rfl, rfl, rfl⟩
theorem c71 (ms : List Mv) (d : Int) (hl : ms.length ≤ 100000) (hd : ∀ m ∈ ms, m.day ≤ d) : Fn Tryz.prog 71 [MS ms, I d, .func 72 []] (.tup [I ms.length, B false]) := by
  refine mk71 rfl ⟨fun n c => ∃ i : Nat, i ≤ ms.length ∧ n = ms.length - i ∧ c = ⟨[(0, MS ms), (1, I d), (2, .func 72 []), (8, I ms.length), (9, I i), (10, I ms.length)], []⟩, ⟨_, _, Wk.keep [0, 1, 2, 8, 9, 10] [], 0, by omega, rfl, rfl⟩, ?_⟩
  rintro n c ⟨i, hi, rfl, rfl⟩
  refine ⟨fun h => ?_, fun h => ?_⟩
  · simp at h
    have hq : ((i : Int) + ms.length) / 2 ^ Int.toNat 1 = (((i + ms.length) / 2 : Nat) : Int) := by rw [show (2 : Int) ^ Int.toNat 1 = 2 from rfl]; omega
    have hlt : (i + ms.length) / 2 < ms.length := by omega
    obtain ⟨m, hm, _, _⟩ := drop_cons hlt
    have hmd := hd m (List.mem_of_getElem? hm)
    refine ⟨_, wrap64 (by omega) (by omega), _, wrapU64 (by omega) (by omega), ⟨by decide, by decide⟩, _, wrapTo hq (by omega) (by omega), ?_⟩
    refine ⟨⟨by omega, by omega⟩, rowM m, get_map' hm (by omega), _, c72 m d, ?_⟩
    rw [if_pos hmd]
    refine ⟨fun _ => ?_, fun h => (by cases h)⟩
    refine ⟨_, wrapTo (y := (((i + ms.length) / 2 + 1 : Nat) : Int)) (by omega) (by omega) (by omega), ?_⟩
    exact ⟨_, _, Wk.keep [0, 1, 2, 8, 9, 10] [], by omega, (i + ms.length) / 2 + 1, by omega, rfl, rfl⟩
  · simp at h
    have : i = ms.length := by omega
    subst this
    exact ⟨[(4, false)], by simp, ⟨_, _, rfl, ⟨rfl, rfl⟩, rfl, rfl, trivial⟩⟩
end Go.Abs.Ltop
end
section
namespace Go.Abs.Ltop
open Go Go.Abs Go.Proofs
set_option linter.unusedVariables false
set_option maxRecDepth 20000
theorem c36 (ms : List Mv) (d : Int) (hl : ms.length ≤ 100000) (hd : ∀ m ∈ ms, m.day ≤ d) : FnG Tryz.prog 36 [MS ms, I d] [] [] (OL (readE ms).1) (.ovar 18 0) := by
  have c := c70 ms
  have e : (.rsl 6 (ms.length : Int).toNat ((ms.map rowM).take (ms.length : Int).toNat) : AV) = MS ms := by
    rw [Int.toNat_natCast, List.take_of_length_le (by simp)]
  rw [← e] at c
  generalize readE ms = z at c ⊢
  exact mkN36 [(2, [3])] [] rfl (by intro b hb; cases hb) ⟨_, c71 ms d hl hd, ⟨by omega, by omega⟩, _, WkP.keep [18] [], OL z.1, .tup [.ovar 18 0, I z.2], [], c, rfl, _, WkP.keep [4] [18, 34], rfl, rfl, rfl⟩
/-- the place of a box behind all moves -/
def placeE (ms : List Mv) (b : Int) : Int × Int := pget b (readE ms).1.pl
def whereE (ms : List Mv) (b d : Int) : (Int × Int) × Int := if (readE ms).2 ≠ 0 then ((0, 0), 1) else if isId b = false ∨ isDayB d = false then ((0, 0), 2) else (placeE ms b, 0)
theorem c16 (ms : List Mv) (b d : Int) (hl : ms.length ≤ 100000) (hd : (readE ms).2 = 0 → ∀ m ∈ ms, m.day ≤ d) : Fn Tryz.prog 16 [MS ms, I b, I d] (.tup [.agg [I (whereE ms b d).1.1, I (whereE ms b d).1.2], I (whereE ms b d).2]) := by
  have c1 := c33 ms
  have c2 : (readE ms).2 = 0 → FnG Tryz.prog 36 [MS ms, I d] [] [] (OL (readE ms).1) (.ovar 18 0) := fun h => c36 ms d hl (hd h)
  clear hd
  unfold whereE placeE
  generalize readE ms = z at c1 c2 ⊢
  refine mkG16 [(5, [2])] [] rfl ⟨_, c1, fun h => ?_, fun h => ?_⟩
  · have h : z.2 ≠ 0 := by simpa using h
    rw [if_pos h]
    exact ⟨_, WkP.refl _ _, _, _, rfl, ⟨rfl, rfl⟩, rfl, rfl, trivial⟩
  · have h : z.2 = 0 := by simpa using h
    rw [if_neg (by simpa using h)]
    refine ⟨[(3, !isId b)], _, c34 b, rfl, ?_⟩
    cases hb : isId b with
    | false =>
      rw [if_pos (.inl rfl)]
      exact ⟨fun _ => ⟨_, WkP.refl _ _, _, _, rfl, ⟨rfl, rfl⟩, rfl, rfl, trivial⟩, fun h => (by cases h)⟩
    | true =>
      refine ⟨_, c35 d, fun h2 => ?_, fun h2 => ?_⟩
      · have h2 : isDayB d = false := by simpa using h2
        rw [if_pos (.inr h2)]
        exact ⟨_, WkP.refl _ _, _, _, rfl, ⟨rfl, rfl⟩, rfl, rfl, trivial⟩
      · have h2 : isDayB d = true := by simpa using h2
        rw [if_neg (by simp [h2])]
        have fr := (c2 h).frame (R := [(96, ⟨74, 2, .any, [[I 0, I 0]], []⟩)]) rfl rfl rfl rfl rfl
        refine ⟨_, WkP.keep [1, 6, 23, 24] [96], OL z.1 ++ [(96, ⟨74, 2, .any, [[I 0, I 0]], []⟩)], .ovar 18 0, [96], fr.as (by rfl) (by rfl) (by rfl), rfl, ?_⟩
        have hm := mget_p b z.1.pl
        cases hp : phas b z.1.pl with
        | true =>
          rw [hp, if_pos rfl] at hm
          exact ⟨true, _, hm, _, WkP.refl _ _, _, _, rfl, ⟨rfl, rfl⟩, rfl, rfl, trivial⟩
        | false =>
          rw [hp] at hm
          have hpg := pget_no hp
          refine ⟨false, hm, _, WkP.refl _ _, _, _, rfl, ⟨rfl, ?_⟩, rfl, rfl, trivial⟩
          rw [hpg]; rfl
end Go.Abs.Ltop
end
section
namespace Go.Abs
open Go.RowKit
theorem fn_fsl0 {P : Program} {f : FuncId} {us : List AV} {p q : Bool} {e sz : Nat} (h : Fn P f us (.fsl p e sz 0 [])) : Fn P f us (.fsl q e sz 0 []) := by
  refine ⟨h.1, fun X w vs hw hl ha => (h.2 X w vs hw hl ha).mono ?_⟩
  rintro en w' ⟨v, rfl, ⟨h1, h2, h3⟩, hb⟩
  refine ⟨_, rfl, ⟨h1, h2, ?_⟩, hb⟩
  rcases h3 with h3 | ⟨g, cap, cur, a1, a2, a3, a4, a5, a6, a7⟩
  · exact .inl h3
  · exact .inr ⟨g, cap, cur, a1, a2, a3, a4, a5, a6, fun j u hj => by simp at hj⟩
end Go.Abs
namespace Go.Abs.Ltop
open Go Go.Abs Go.Proofs
set_option linter.unusedVariables false
set_option maxRecDepth 20000
theorem c7z : Fn Tryz.prog 7 [.nilsl] .nilsl := mk7 rfl ⟨fun _ => ⟨rfl, .inl rfl⟩, fun h => by cases h⟩
theorem c7n : Fn Tryz.prog 7 [.nilsl] (.fsl true 48 4 0 []) := mk7 rfl ⟨fun _ => ⟨rfl, .inr ⟨_, _, _, rfl⟩⟩, fun h => by cases h⟩
theorem c7e : Fn Tryz.prog 7 [.esl] (.fsl true 48 4 0 []) := mk7 rfl ⟨fun h => (by cases h), fun _ => ⟨by decide, rfl, _, rfl, rfl, rfl, .inl ⟨rfl, rfl⟩⟩⟩
theorem c7 (rows : List (List AV)) (hl : rows.length ≤ 100000) (hs : Scal rows) : Fn Tryz.prog 7 [.rsl 4 rows.length rows] (.fsl true 48 4 rows.length rows) := by
  cases rows with
  | nil => exact fn_empty c7n c7e
  | cons a l =>
    refine mk7 rfl ⟨by simp, fun h => (by cases h), fun _ => ?_⟩
    exact ⟨⟨by simp at hl ⊢; omega, by simp at hl ⊢; omega⟩, hs, rfl, _, rfl, rfl, by simp, .inl ⟨rfl, by simp⟩⟩
theorem c10n : Fn Tryz.prog 10 [.nilsl] (.fsl true 3 1 0 []) := mk10 rfl ⟨fun _ => ⟨rfl, .inr ⟨_, _, _, rfl⟩⟩, fun h => by cases h⟩
theorem c10e : Fn Tryz.prog 10 [.esl] (.fsl true 3 1 0 []) := mk10 rfl ⟨fun h => (by cases h), fun _ => ⟨by decide, rfl, _, rfl, rfl, rfl, .inl ⟨rfl, rfl⟩⟩⟩
theorem c10 (rows : List (List AV)) (hl : rows.length ≤ 100000) (hs : Scal rows) : Fn Tryz.prog 10 [.rsl 1 rows.length rows] (.fsl true 3 1 rows.length rows) := by
  cases rows with
  | nil => exact fn_empty c10n c10e
  | cons a l =>
    refine mk10 rfl ⟨by simp, fun h => (by cases h), fun _ => ?_⟩
    exact ⟨⟨by simp at hl ⊢; omega, by simp at hl ⊢; omega⟩, hs, rfl, _, rfl, rfl, by simp, .inl ⟨rfl, by simp⟩⟩
theorem c22z : Fn Tryz.prog 22 [.nilsl] .nilsl := mk22 rfl ⟨fun _ => ⟨rfl, .inl rfl⟩, fun h => by cases h⟩
theorem c22n : Fn Tryz.prog 22 [.nilsl] (.fsl true 56 5 0 []) := mk22 rfl ⟨fun _ => ⟨rfl, .inr ⟨_, _, _, rfl⟩⟩, fun h => by cases h⟩
theorem c22e : Fn Tryz.prog 22 [.esl] (.fsl true 56 5 0 []) := mk22 rfl ⟨fun h => (by cases h), fun _ => ⟨by decide, rfl, _, rfl, rfl, rfl, .inl ⟨rfl, rfl⟩⟩⟩
theorem c22 (rows : List (List AV)) (hl : rows.length ≤ 100000) : Fn Tryz.prog 22 [.rsl 5 rows.length rows] (.fsl false 56 5 rows.length rows) := by
  cases rows with
  | nil => exact fn_fsl0 (p := true) (fn_empty c22n c22e)
  | cons a l =>
    refine mkG22 [(3, [1, 1])] [] rfl ⟨by simp, fun h => (by cases h), fun _ => ?_⟩
    refine ⟨rfl, _, WkP.flat 80 ⟨56, 5, .pure, [], []⟩ rfl rfl, ⟨by simp at hl ⊢; omega, by simp at hl ⊢; omega⟩, ?_⟩
    exact ⟨_, WkP.refl _ _, rfl, _, rfl, rfl, by simp, .inr ⟨rfl, by simp⟩⟩
theorem c46n : Fn Tryz.prog 46 [.nilsl] (.fsl true 62 3 0 []) := mk46 rfl ⟨fun _ => ⟨rfl, .inr ⟨_, _, _, rfl⟩⟩, fun h => by cases h⟩
theorem c46e : Fn Tryz.prog 46 [.esl] (.fsl true 62 3 0 []) := mk46 rfl ⟨fun h => (by cases h), fun _ => ⟨by decide, rfl, _, rfl, rfl, rfl, .inl ⟨rfl, rfl⟩⟩⟩
theorem c46 (rows : List (List AV)) (hl : rows.length ≤ 100000) (hs : Scal rows) : Fn Tryz.prog 46 [.rsl 3 rows.length rows] (.fsl true 62 3 rows.length rows) := by
  cases rows with
  | nil => exact fn_empty c46n c46e
  | cons a l =>
    refine mk46 rfl ⟨by simp, fun h => (by cases h), fun _ => ?_⟩
    exact ⟨⟨by simp at hl ⊢; omega, by simp at hl ⊢; omega⟩, hs, rfl, _, rfl, rfl, by simp, .inl ⟨rfl, by simp⟩⟩
theorem c58n : Fn Tryz.prog 58 [.nilsl] (.fsl true 103 5 0 []) := mk58 rfl ⟨fun _ => ⟨rfl, .inr ⟨_, _, _, rfl⟩⟩, fun h => by cases h⟩
theorem c58e : Fn Tryz.prog 58 [.esl] (.fsl true 103 5 0 []) := mk58 rfl ⟨fun h => (by cases h), fun _ => ⟨by decide, rfl, _, rfl, rfl, rfl, .inl ⟨rfl, rfl⟩⟩⟩
theorem c58 (rows : List (List AV)) (hl : rows.length ≤ 100000) : Fn Tryz.prog 58 [.rsl 5 rows.length rows] (.fsl false 103 5 rows.length rows) := by
  cases rows with
  | nil => exact fn_fsl0 (p := true) (fn_empty c58n c58e)
  | cons a l =>
    refine mkG58 [(3, [1, 1])] [] rfl ⟨by simp, fun h => (by cases h), fun _ => ?_⟩
    refine ⟨rfl, _, WkP.flat 80 ⟨103, 5, .pure, [], []⟩ rfl rfl, ⟨by simp at hl ⊢; omega, by simp at hl ⊢; omega⟩, ?_⟩
    exact ⟨_, WkP.refl _ _, rfl, _, rfl, rfl, by simp, .inr ⟨rfl, by simp⟩⟩
theorem c59n : Fn Tryz.prog 59 [.nilsl] (.fsl true 150 6 0 []) := mk59 rfl ⟨fun _ => ⟨rfl, .inr ⟨_, _, _, rfl⟩⟩, fun h => by cases h⟩
theorem c59e : Fn Tryz.prog 59 [.esl] (.fsl true 150 6 0 []) := mk59 rfl ⟨fun h => (by cases h), fun _ => ⟨by decide, rfl, _, rfl, rfl, rfl, .inl ⟨rfl, rfl⟩⟩⟩
theorem c59 (rows : List (List AV)) (hl : rows.length ≤ 100000) (hs : Scal rows) : Fn Tryz.prog 59 [.rsl 6 rows.length rows] (.fsl true 150 6 rows.length rows) := by
  cases rows with
  | nil => exact fn_empty c59n c59e
  | cons a l =>
    refine mk59 rfl ⟨by simp, fun h => (by cases h), fun _ => ?_⟩
    exact ⟨⟨by simp at hl ⊢; omega, by simp at hl ⊢; omega⟩, hs, rfl, _, rfl, rfl, by simp, .inl ⟨rfl, by simp⟩⟩
theorem c60n : Fn Tryz.prog 60 [.nilsl] (.fsl true 153 6 0 []) := mk60 rfl ⟨fun _ => ⟨rfl, .inr ⟨_, _, _, rfl⟩⟩, fun h => by cases h⟩
theorem c60e : Fn Tryz.prog 60 [.esl] (.fsl true 153 6 0 []) := mk60 rfl ⟨fun h => (by cases h), fun _ => ⟨by decide, rfl, _, rfl, rfl, rfl, .inl ⟨rfl, rfl⟩⟩⟩
theorem c60 (rows : List (List AV)) (hl : rows.length ≤ 100000) (hs : Scal rows) : Fn Tryz.prog 60 [.rsl 6 rows.length rows] (.fsl true 153 6 rows.length rows) := by
  cases rows with
  | nil => exact fn_empty c60n c60e
  | cons a l =>
    refine mk60 rfl ⟨by simp, fun h => (by cases h), fun _ => ?_⟩
    exact ⟨⟨by simp at hl ⊢; omega, by simp at hl ⊢; omega⟩, hs, rfl, _, rfl, rfl, by simp, .inl ⟨rfl, by simp⟩⟩
theorem c61n : Fn Tryz.prog 61 [.nilsl] (.fsl true 156 6 0 []) := mk61 rfl ⟨fun _ => ⟨rfl, .inr ⟨_, _, _, rfl⟩⟩, fun h => by cases h⟩
theorem c61e : Fn Tryz.prog 61 [.esl] (.fsl true 156 6 0 []) := mk61 rfl ⟨fun h => (by cases h), fun _ => ⟨by decide, rfl, _, rfl, rfl, rfl, .inl ⟨rfl, rfl⟩⟩⟩
theorem c61 (rows : List (List AV)) (hl : rows.length ≤ 100000) (hs : Scal rows) : Fn Tryz.prog 61 [.rsl 6 rows.length rows] (.fsl true 156 6 rows.length rows) := by
  cases rows with
  | nil => exact fn_empty c61n c61e
  | cons a l =>
    refine mk61 rfl ⟨by simp, fun h => (by cases h), fun _ => ?_⟩
    exact ⟨⟨by simp at hl ⊢; omega, by simp at hl ⊢; omega⟩, hs, rfl, _, rfl, rfl, by simp, .inl ⟨rfl, by simp⟩⟩
theorem c62n : Fn Tryz.prog 62 [.nilsl] (.fsl true 159 6 0 []) := mk62 rfl ⟨fun _ => ⟨rfl, .inr ⟨_, _, _, rfl⟩⟩, fun h => by cases h⟩
theorem c62e : Fn Tryz.prog 62 [.esl] (.fsl true 159 6 0 []) := mk62 rfl ⟨fun h => (by cases h), fun _ => ⟨by decide, rfl, _, rfl, rfl, rfl, .inl ⟨rfl, rfl⟩⟩⟩
theorem c62 (rows : List (List AV)) (hl : rows.length ≤ 100000) (hs : Scal rows) : Fn Tryz.prog 62 [.rsl 6 rows.length rows] (.fsl true 159 6 rows.length rows) := by
  cases rows with
  | nil => exact fn_empty c62n c62e
  | cons a l =>
    refine mk62 rfl ⟨by simp, fun h => (by cases h), fun _ => ?_⟩
    exact ⟨⟨by simp at hl ⊢; omega, by simp at hl ⊢; omega⟩, hs, rfl, _, rfl, rfl, by simp, .inl ⟨rfl, by simp⟩⟩
theorem c63z : Fn Tryz.prog 63 [.nilsl] .nilsl := mk63 rfl ⟨fun _ => ⟨rfl, .inl rfl⟩, fun h => by cases h⟩
theorem c63n : Fn Tryz.prog 63 [.nilsl] (.fsl true 162 2 0 []) := mk63 rfl ⟨fun _ => ⟨rfl, .inr ⟨_, _, _, rfl⟩⟩, fun h => by cases h⟩
theorem c63e : Fn Tryz.prog 63 [.esl] (.fsl true 162 2 0 []) := mk63 rfl ⟨fun h => (by cases h), fun _ => ⟨by decide, rfl, _, rfl, rfl, rfl, .inl ⟨rfl, rfl⟩⟩⟩
theorem c63 (rows : List (List AV)) (hl : rows.length ≤ 100000) (hs : Scal rows) : Fn Tryz.prog 63 [.rsl 2 rows.length rows] (.fsl true 162 2 rows.length rows) := by
  cases rows with
  | nil => exact fn_empty c63n c63e
  | cons a l =>
    refine mk63 rfl ⟨by simp, fun h => (by cases h), fun _ => ?_⟩
    exact ⟨⟨by simp at hl ⊢; omega, by simp at hl ⊢; omega⟩, hs, rfl, _, rfl, rfl, by simp, .inl ⟨rfl, by simp⟩⟩
theorem c64n : Fn Tryz.prog 64 [.nilsl] (.fsl true 165 6 0 []) := mk64 rfl ⟨fun _ => ⟨rfl, .inr ⟨_, _, _, rfl⟩⟩, fun h => by cases h⟩
theorem c64e : Fn Tryz.prog 64 [.esl] (.fsl true 165 6 0 []) := mk64 rfl ⟨fun h => (by cases h), fun _ => ⟨by decide, rfl, _, rfl, rfl, rfl, .inl ⟨rfl, rfl⟩⟩⟩
theorem c64 (rows : List (List AV)) (hl : rows.length ≤ 100000) (hs : Scal rows) : Fn Tryz.prog 64 [.rsl 6 rows.length rows] (.fsl true 165 6 rows.length rows) := by
  cases rows with
  | nil => exact fn_empty c64n c64e
  | cons a l =>
    refine mk64 rfl ⟨by simp, fun h => (by cases h), fun _ => ?_⟩
    exact ⟨⟨by simp at hl ⊢; omega, by simp at hl ⊢; omega⟩, hs, rfl, _, rfl, rfl, by simp, .inl ⟨rfl, by simp⟩⟩
theorem c65n : Fn Tryz.prog 65 [.nilsl] (.fsl true 168 7 0 []) := mk65 rfl ⟨fun _ => ⟨rfl, .inr ⟨_, _, _, rfl⟩⟩, fun h => by cases h⟩
theorem c65e : Fn Tryz.prog 65 [.esl] (.fsl true 168 7 0 []) := mk65 rfl ⟨fun h => (by cases h), fun _ => ⟨by decide, rfl, _, rfl, rfl, rfl, .inl ⟨rfl, rfl⟩⟩⟩
theorem c65 (rows : List (List AV)) (hl : rows.length ≤ 100000) (hs : Scal rows) : Fn Tryz.prog 65 [.rsl 7 rows.length rows] (.fsl true 168 7 rows.length rows) := by
  cases rows with
  | nil => exact fn_empty c65n c65e
  | cons a l =>
    refine mk65 rfl ⟨by simp, fun h => (by cases h), fun _ => ?_⟩
    exact ⟨⟨by simp at hl ⊢; omega, by simp at hl ⊢; omega⟩, hs, rfl, _, rfl, rfl, by simp, .inl ⟨rfl, by simp⟩⟩
theorem c66n : Fn Tryz.prog 66 [.nilsl] (.fsl true 171 4 0 []) := mk66 rfl ⟨fun _ => ⟨rfl, .inr ⟨_, _, _, rfl⟩⟩, fun h => by cases h⟩
theorem c66e : Fn Tryz.prog 66 [.esl] (.fsl true 171 4 0 []) := mk66 rfl ⟨fun h => (by cases h), fun _ => ⟨by decide, rfl, _, rfl, rfl, rfl, .inl ⟨rfl, rfl⟩⟩⟩
theorem c66 (rows : List (List AV)) (hl : rows.length ≤ 100000) (hs : Scal rows) : Fn Tryz.prog 66 [.rsl 4 rows.length rows] (.fsl true 171 4 rows.length rows) := by
  cases rows with
  | nil => exact fn_empty c66n c66e
  | cons a l =>
    refine mk66 rfl ⟨by simp, fun h => (by cases h), fun _ => ?_⟩
    exact ⟨⟨by simp at hl ⊢; omega, by simp at hl ⊢; omega⟩, hs, rfl, _, rfl, rfl, by simp, .inl ⟨rfl, by simp⟩⟩
theorem c67n : Fn Tryz.prog 67 [.nilsl] (.fsl true 105 8 0 []) := mk67 rfl ⟨fun _ => ⟨rfl, .inr ⟨_, _, _, rfl⟩⟩, fun h => by cases h⟩
theorem c67e : Fn Tryz.prog 67 [.esl] (.fsl true 105 8 0 []) := mk67 rfl ⟨fun h => (by cases h), fun _ => ⟨by decide, rfl, _, rfl, rfl, rfl, .inl ⟨rfl, rfl⟩⟩⟩
theorem c67 (rows : List (List AV)) (hl : rows.length ≤ 100000) : Fn Tryz.prog 67 [.rsl 8 rows.length rows] (.fsl false 105 8 rows.length rows) := by
  cases rows with
  | nil => exact fn_fsl0 (p := true) (fn_empty c67n c67e)
  | cons a l =>
    refine mkG67 [(3, [1, 1])] [] rfl ⟨by simp, fun h => (by cases h), fun _ => ?_⟩
    refine ⟨rfl, _, WkP.flat 80 ⟨105, 8, .pure, [], []⟩ rfl rfl, ⟨by simp at hl ⊢; omega, by simp at hl ⊢; omega⟩, ?_⟩
    exact ⟨_, WkP.refl _ _, rfl, _, rfl, rfl, by simp, .inr ⟨rfl, by simp⟩⟩
theorem c68n : Fn Tryz.prog 68 [.nilsl] (.fsl true 175 2 0 []) := mk68 rfl ⟨fun _ => ⟨rfl, .inr ⟨_, _, _, rfl⟩⟩, fun h => by cases h⟩
theorem c68e : Fn Tryz.prog 68 [.esl] (.fsl true 175 2 0 []) := mk68 rfl ⟨fun h => (by cases h), fun _ => ⟨by decide, rfl, _, rfl, rfl, rfl, .inl ⟨rfl, rfl⟩⟩⟩
theorem c68 (rows : List (List AV)) (hl : rows.length ≤ 100000) (hs : Scal rows) : Fn Tryz.prog 68 [.rsl 2 rows.length rows] (.fsl true 175 2 rows.length rows) := by
  cases rows with
  | nil => exact fn_empty c68n c68e
  | cons a l =>
    refine mk68 rfl ⟨by simp, fun h => (by cases h), fun _ => ?_⟩
    exact ⟨⟨by simp at hl ⊢; omega, by simp at hl ⊢; omega⟩, hs, rfl, _, rfl, rfl, by simp, .inl ⟨rfl, by simp⟩⟩
theorem c69z : Fn Tryz.prog 69 [.nilsl] .nilsl := mk69 rfl ⟨fun _ => ⟨rfl, .inl rfl⟩, fun h => by cases h⟩
theorem c69n : Fn Tryz.prog 69 [.nilsl] (.fsl true 178 3 0 []) := mk69 rfl ⟨fun _ => ⟨rfl, .inr ⟨_, _, _, rfl⟩⟩, fun h => by cases h⟩
theorem c69e : Fn Tryz.prog 69 [.esl] (.fsl true 178 3 0 []) := mk69 rfl ⟨fun h => (by cases h), fun _ => ⟨by decide, rfl, _, rfl, rfl, rfl, .inl ⟨rfl, rfl⟩⟩⟩
theorem c69 (rows : List (List AV)) (hl : rows.length ≤ 100000) (hs : Scal rows) : Fn Tryz.prog 69 [.rsl 3 rows.length rows] (.fsl true 178 3 rows.length rows) := by
  cases rows with
  | nil => exact fn_empty c69n c69e
  | cons a l =>
    refine mk69 rfl ⟨by simp, fun h => (by cases h), fun _ => ?_⟩
    exact ⟨⟨by simp at hl ⊢; omega, by simp at hl ⊢; omega⟩, hs, rfl, _, rfl, rfl, by simp, .inl ⟨rfl, by simp⟩⟩
end Go.Abs.Ltop
end
section
namespace Go.Abs.Ltop
set_option linter.unusedVariables false
/-! ### shelves and boxes: which states are possible, and which steps lead from one to another -/
structure Sh where
  id : Int
  rep : Int
  len : Int
  clim : Int
  deriving DecidableEq
structure Ct where
  unit : Int
  thick : Int
  deriving DecidableEq
structure Bx where
  id : Int
  width : Int
  room : Int
  clim : Int
  cont : List Ct
  deriving DecidableEq
structure Cy where
  box : Int
  frm : Int
  to : Int
  deriving DecidableEq
/-- the widths of the boxes on a shelf -/
def wid (s : Int) : List Int → List Bx → Int
  | a :: at', b :: bs => (if a = s then b.width else 0) + wid s at' bs
  | _, _ => 0
def climOK (ls : List Sh) : List Int → List Bx → Prop
  | a :: at', b :: bs => (∃ s ∈ ls, s.id = a ∧ s.clim = b.clim) ∧ climOK ls at' bs
  | _, _ => True
structure OkAt (ls : List Sh) (bs : List Bx) (at' : List Int) : Prop where
  len : at'.length = bs.length
  clim : climOK ls at' bs
  wid : ∀ s ∈ ls, wid s.id at' bs ≤ s.len
/-- one step -/
def StepR (ls : List Sh) (bs : List Bx) (x : List Int) (c : Cy) (y : List Int) : Prop :=
  ∃ (i : Nat) (b : Bx) (a : Int), bs[i]? = some b ∧ x[i]? = some a ∧ c = ⟨b.id, a, c.to⟩ ∧ c.to ≠ a ∧ (∃ s ∈ ls, s.id = c.to) ∧ y = x.set i c.to ∧ OkAt ls bs y
inductive PathR (ls : List Sh) (bs : List Bx) (x : List Int) : List Cy → List Int → Prop
  | nil : PathR ls bs x [] x
  | snoc {p y c z} : PathR ls bs x p y → StepR ls bs y c z → PathR ls bs x (p ++ [c]) z
theorem PathR.ok {ls : List Sh} {bs : List Bx} {x : List Int} (hx : OkAt ls bs x) {p : List Cy} {y : List Int} (h : PathR ls bs x p y) : OkAt ls bs y := by
  induction h with
  | nil => exact hx
  | snoc _ h _ => obtain ⟨_, _, _, _, _, _, _, _, _, h⟩ := h; exact h
/-- from the front -/
theorem PathR.head {ls : List Sh} {bs : List Bx} {x y : List Int} {c : Cy} (h : StepR ls bs x c y) {p : List Cy} {z : List Int} (hp : PathR ls bs y p z) : PathR ls bs x (c :: p) z := by
  induction hp with
  | nil => exact PathR.snoc (p := []) .nil h
  | snoc _ h2 ih => exact PathR.snoc (p := c :: _) ih h2
theorem PathR.nil_inv {ls : List Sh} {bs : List Bx} {x y : List Int} (h : PathR ls bs x [] y) : y = x := by
  generalize hq : ([] : List Cy) = q at h
  cases h with
  | nil => rfl
  | snoc _ _ => simp at hq
theorem PathR.uncons {ls : List Sh} {bs : List Bx} {x z : List Int} {c : Cy} {p : List Cy} (h : PathR ls bs x (c :: p) z) : ∃ y, StepR ls bs x c y ∧ PathR ls bs y p z := by
  generalize hq : c :: p = q at h
  induction h generalizing p with
  | nil => cases hq
  | @snoc p' y' c' z' h1 h2 ih =>
    cases p' with
    | nil =>
      simp only [List.nil_append, List.cons.injEq] at hq
      obtain ⟨rfl, rfl⟩ := hq
      have := h1.nil_inv
      subst this
      exact ⟨_, h2, .nil⟩
    | cons d p' =>
      simp only [List.cons_append, List.cons.injEq] at hq
      obtain ⟨rfl, rfl⟩ := hq
      obtain ⟨y, k1, k2⟩ := ih rfl
      exact ⟨y, k1, .snoc k2 h2⟩
/-- what is closed under steps holds all that can be reached -/
theorem closed_path {ls : List Sh} {bs : List Bx} {x : List Int} {S : List Int → Prop} (hx : S x) (hc : ∀ y c z, S y → StepR ls bs y c z → S z) {p : List Cy} {z : List Int} (h : PathR ls bs x p z) : S z := by
  induction h with
  | nil => exact hx
  | snoc _ h2 ih => exact hc _ _ _ ih h2
/-! ### lists of numbers below L, of a length -/
def allKeys (L : Nat) : Nat → List (List Nat)
  | 0 => [[]]
  | n + 1 => (List.range L).flatMap fun a => (allKeys L n).map (a :: ·)
theorem flat_len (f : Nat → List (List Nat)) (m : Nat) (l : List Nat) (h : ∀ a ∈ l, (f a).length = m) : (l.flatMap f).length = l.length * m := by
  induction l with
  | nil => simp
  | cons a l ih =>
    rw [List.flatMap_cons, List.length_append, h a (by simp), ih fun b hb => h b (by simp [hb]), List.length_cons, Nat.add_mul, Nat.one_mul, Nat.add_comm]
theorem allKeys_len (L : Nat) : ∀ n, (allKeys L n).length = L ^ n
  | 0 => rfl
  | n + 1 => by
    rw [allKeys, flat_len _ (L ^ n)]
    · rw [List.length_range, Nat.pow_succ, Nat.mul_comm]
    · intro a _; rw [List.length_map, allKeys_len L n]
theorem mem_allKeys {L : Nat} : ∀ {k : List Nat}, (∀ a ∈ k, a < L) → k ∈ allKeys L k.length
  | [], _ => by simp [allKeys]
  | a :: k, h => by
    rw [List.length_cons, allKeys, List.mem_flatMap]
    exact ⟨a, List.mem_range.2 (h a (by simp)), List.mem_map.2 ⟨k, mem_allKeys fun b hb => h b (by simp [hb]), rfl⟩⟩
theorem nodup_le {α : Type} [DecidableEq α] : ∀ (l m : List α), l.Nodup → (∀ x ∈ l, x ∈ m) → l.length ≤ m.length
  | [], _, _, _ => by simp
  | x :: l, m, hn, hs => by
    rw [List.nodup_cons] at hn
    have h1 := nodup_le l (m.erase x) hn.2 fun y hy => by
      have : y ≠ x := fun e => hn.1 (e ▸ hy)
      exact (List.mem_erase_of_ne this).2 (hs y (by simp [hy]))
    have hx : x ∈ m := hs x (by simp)
    have h2 := List.length_erase_of_mem hx
    have h3 := List.length_pos_of_mem hx
    simp only [List.length_cons]
    omega
theorem keys_few {L n : Nat} {ks : List (List Nat)} (hn : ks.Nodup) (hk : ∀ k ∈ ks, k.length = n ∧ ∀ a ∈ k, a < L) : ks.length ≤ L ^ n := by
  rw [← allKeys_len]
  refine nodup_le ks _ hn fun k h => ?_
  obtain ⟨h1, h2⟩ := hk k h
  have := mem_allKeys h2
  rwa [h1] at this
end Go.Abs.Ltop
end
section
namespace Go.Abs.Ltop
open Go Go.Abs Go.Proofs
set_option linter.unusedVariables false
set_option maxRecDepth 20000
def encC (c : Ct) : List AV := [I c.unit, I c.thick]
abbrev CS (l : List Ct) : AV := .rsl 2 l.length (l.map encC)
def encB (b : Bx) : List AV := [I b.id, I b.width, I b.room, I b.clim, CS b.cont]
abbrev BS (l : List Bx) : AV := .rsl 5 l.length (l.map encB)
def encS (s : Sh) : List AV := [I s.id, I s.rep, I s.len, I s.clim]
abbrev SS (l : List Sh) : AV := .rsl 4 l.length (l.map encS)
structure Rw where
  unit : Int
  parent : Int
  acc : Int
  deriving DecidableEq
def encW (r : Rw) : List AV := [I r.unit, I r.parent, I r.acc]
abbrev WS (l : List Rw) : AV := .rsl 3 l.length (l.map encW)
structure Req where
  id : Int
  rd : Int
  un : Int
  bx : Int
  dy : Int
  st : Int
  ch : Int
  deriving DecidableEq
def encR (r : Req) : List AV := [I r.id, I r.rd, I r.un, I r.bx, I r.dy, I r.st, I r.ch]
abbrev QS (l : List Req) : AV := .rsl 7 l.length (l.map encR)
structure Bk where
  id : Int
  rd : Int
  frm : Int
  unt : Int
  deriving DecidableEq
def encK (r : Bk) : List AV := [I r.id, I r.rd, I r.frm, I r.unt]
abbrev KS (l : List Bk) : AV := .rsl 4 l.length (l.map encK)
abbrev NS (l : List Int) : AV := .rsl 1 l.length (l.map fun n => [I n])
def encY (c : Cy) : List AV := [I c.box, I c.frm, I c.to]
abbrev YS (l : List Cy) : AV := .rsl 3 l.length (l.map encY)
theorem scal_of {α : Type} {enc : α → List AV} (h : ∀ a, ∀ u ∈ enc a, u.scalar = true) (l : List α) : Scal (l.map enc) := by
  intro row hr u hu
  obtain ⟨a, _, rfl⟩ := List.mem_map.1 hr
  exact h a u hu
theorem sc1 (l : List Int) : Scal (l.map fun n => [I n]) := scal_of (enc := fun n => [I n]) (fun a u hu => by simp at hu; subst hu; rfl) l
theorem sc2 (l : List Ct) : Scal (l.map encC) := scal_of (fun a u hu => by simp [encC] at hu; rcases hu with rfl | rfl <;> rfl) l
theorem sc4 (l : List Sh) : Scal (l.map encS) := scal_of (fun a u hu => by simp [encS] at hu; rcases hu with rfl | rfl | rfl | rfl <;> rfl) l
theorem sc6 (l : List Mv) : Scal (l.map rowM) := scal_of (fun a u hu => by simp [rowM] at hu; rcases hu with rfl | rfl | rfl | rfl | rfl | rfl <;> rfl) l
theorem sc7 (l : List Req) : Scal (l.map encR) := scal_of (fun a u hu => by simp [encR] at hu; rcases hu with rfl | rfl | rfl | rfl | rfl | rfl | rfl <;> rfl) l
theorem sc4k (l : List Bk) : Scal (l.map encK) := scal_of (fun a u hu => by simp [encK] at hu; rcases hu with rfl | rfl | rfl | rfl <;> rfl) l
theorem sc3 (l : List Cy) : Scal (l.map encY) := scal_of (fun a u hu => by simp [encY] at hu; rcases hu with rfl | rfl | rfl <;> rfl) l
theorem c263z (l : List Ct) (hl : l.length ≤ 9223372036854775807) (p : Ct → Bool) (g : FuncId) (hp : ∀ a ∈ l, Fn Tryz.prog g [.agg (encC a)] (B (p a))) : Fn Tryz.prog 263 [CS l, .func g []] (I (idxF p 0 l)) := by
  refine mk263 rfl ?_
  refine ⟨fun n c => ∃ i : Nat, i ≤ l.length ∧ n = l.length - i ∧ c = ⟨[(0, CS l), (1, .func g []), (4, I 0), (7, I l.length), (8, I i)], []⟩ ∧ idxF p i (l.drop i) = idxF p 0 l, ⟨_, _, Wk.keep [0, 1, 4, 7, 8] [], 0, by omega, rfl, rfl, by simp⟩, ?_⟩
  rintro n c ⟨i, hi, rfl, rfl, hI⟩
  refine ⟨fun h => ?_, fun h => ?_⟩
  · simp at h
    obtain ⟨a, ha, hd, _⟩ := drop_cons h
    rw [hd, idxF] at hI
    refine ⟨⟨by omega, by omega⟩, encC a, by simp [ha], _, hp a (List.mem_of_getElem? ha), fun hf => ?_, fun hf => ?_⟩
    · rw [if_pos hf] at hI
      exact ⟨rfl, rfl, by rw [← hI]; rfl⟩
    · rw [if_neg (by simp [hf])] at hI
      refine ⟨_, wrap64 (by omega) (by omega), ?_⟩
      exact ⟨_, _, Wk.keep [0, 1, 4, 7, 8] [], by omega, i + 1, by omega, rfl, rfl, hI⟩
  · simp at h
    have : i = l.length := by omega
    subst this
    simp [idxF] at hI
    exact ⟨rfl, rfl, by rw [← hI]; rfl⟩
theorem c179z (l : List Ct) (hl : l.length ≤ 9223372036854775807) (p : Ct → Bool) (g : FuncId) (hp : ∀ a ∈ l, Fn Tryz.prog g [.agg (encC a)] (B (p a))) : Fn Tryz.prog 179 [CS l, .func g []] (B (l.any p)) :=
  mk179 rfl ⟨_, c263z l hl p g hp, rfl, rfl, by rw [← idxF_any]; rfl⟩
theorem c263a (l : List Ct) (hl : l.length ≤ 9223372036854775807) (p : Ct → Bool) (g : FuncId) (xs : List AV) (hp : ∀ a ∈ l, Fn Tryz.prog g [.agg (encC a), .rptr xs 0] (B (p a))) : Fn Tryz.prog 263 [CS l, .func g [.rptr xs 0]] (I (idxF p 0 l)) := by
  refine mk263 rfl ?_
  refine ⟨fun n c => ∃ i : Nat, i ≤ l.length ∧ n = l.length - i ∧ c = ⟨[(0, CS l), (1, .func g [.rptr xs 0]), (4, I 0), (7, I l.length), (8, I i)], []⟩ ∧ idxF p i (l.drop i) = idxF p 0 l, ⟨_, _, Wk.keep [0, 1, 4, 7, 8] [], 0, by omega, rfl, rfl, by simp⟩, ?_⟩
  rintro n c ⟨i, hi, rfl, rfl, hI⟩
  refine ⟨fun h => ?_, fun h => ?_⟩
  · simp at h
    obtain ⟨a, ha, hd, _⟩ := drop_cons h
    rw [hd, idxF] at hI
    refine ⟨⟨by omega, by omega⟩, encC a, by simp [ha], _, hp a (List.mem_of_getElem? ha), fun hf => ?_, fun hf => ?_⟩
    · rw [if_pos hf] at hI
      exact ⟨rfl, rfl, by rw [← hI]; rfl⟩
    · rw [if_neg (by simp [hf])] at hI
      refine ⟨_, wrap64 (by omega) (by omega), ?_⟩
      exact ⟨_, _, Wk.keep [0, 1, 4, 7, 8] [], by omega, i + 1, by omega, rfl, rfl, hI⟩
  · simp at h
    have : i = l.length := by omega
    subst this
    simp [idxF] at hI
    exact ⟨rfl, rfl, by rw [← hI]; rfl⟩
theorem c82z (l : List Bx) (hl : l.length ≤ 9223372036854775807) (p : Bx → Bool) (g : FuncId) (hp : ∀ a ∈ l, Fn Tryz.prog g [.agg (encB a)] (B (p a))) : Fn Tryz.prog 82 [BS l, .func g []] (I (idxF p 0 l)) := by
  refine mk82 rfl ?_
  refine ⟨fun n c => ∃ i : Nat, i ≤ l.length ∧ n = l.length - i ∧ c = ⟨[(0, BS l), (1, .func g []), (4, I 0), (7, I l.length), (8, I i)], []⟩ ∧ idxF p i (l.drop i) = idxF p 0 l, ⟨_, _, Wk.keep [0, 1, 4, 7, 8] [], 0, by omega, rfl, rfl, by simp⟩, ?_⟩
  rintro n c ⟨i, hi, rfl, rfl, hI⟩
  refine ⟨fun h => ?_, fun h => ?_⟩
  · simp at h
    obtain ⟨a, ha, hd, _⟩ := drop_cons h
    rw [hd, idxF] at hI
    refine ⟨⟨by omega, by omega⟩, encB a, by simp [ha], _, hp a (List.mem_of_getElem? ha), fun hf => ?_, fun hf => ?_⟩
    · rw [if_pos hf] at hI
      exact ⟨rfl, rfl, by rw [← hI]; rfl⟩
    · rw [if_neg (by simp [hf])] at hI
      refine ⟨_, wrap64 (by omega) (by omega), ?_⟩
      exact ⟨_, _, Wk.keep [0, 1, 4, 7, 8] [], by omega, i + 1, by omega, rfl, rfl, hI⟩
  · simp at h
    have : i = l.length := by omega
    subst this
    simp [idxF] at hI
    exact ⟨rfl, rfl, by rw [← hI]; rfl⟩
theorem c82a (l : List Bx) (hl : l.length ≤ 9223372036854775807) (p : Bx → Bool) (g : FuncId) (xs : List AV) (hp : ∀ a ∈ l, Fn Tryz.prog g [.agg (encB a), .rptr xs 0] (B (p a))) : Fn Tryz.prog 82 [BS l, .func g [.rptr xs 0]] (I (idxF p 0 l)) := by
  refine mk82 rfl ?_
  refine ⟨fun n c => ∃ i : Nat, i ≤ l.length ∧ n = l.length - i ∧ c = ⟨[(0, BS l), (1, .func g [.rptr xs 0]), (4, I 0), (7, I l.length), (8, I i)], []⟩ ∧ idxF p i (l.drop i) = idxF p 0 l, ⟨_, _, Wk.keep [0, 1, 4, 7, 8] [], 0, by omega, rfl, rfl, by simp⟩, ?_⟩
  rintro n c ⟨i, hi, rfl, rfl, hI⟩
  refine ⟨fun h => ?_, fun h => ?_⟩
  · simp at h
    obtain ⟨a, ha, hd, _⟩ := drop_cons h
    rw [hd, idxF] at hI
    refine ⟨⟨by omega, by omega⟩, encB a, by simp [ha], _, hp a (List.mem_of_getElem? ha), fun hf => ?_, fun hf => ?_⟩
    · rw [if_pos hf] at hI
      exact ⟨rfl, rfl, by rw [← hI]; rfl⟩
    · rw [if_neg (by simp [hf])] at hI
      refine ⟨_, wrap64 (by omega) (by omega), ?_⟩
      exact ⟨_, _, Wk.keep [0, 1, 4, 7, 8] [], by omega, i + 1, by omega, rfl, rfl, hI⟩
  · simp at h
    have : i = l.length := by omega
    subst this
    simp [idxF] at hI
    exact ⟨rfl, rfl, by rw [← hI]; rfl⟩
theorem c82b (l : List Bx) (hl : l.length ≤ 9223372036854775807) (p : Bx → Bool) (g : FuncId) (xs ys : List AV) (hp : ∀ a ∈ l, Fn Tryz.prog g [.agg (encB a), .rptr xs 0, .rptr ys 0] (B (p a))) : Fn Tryz.prog 82 [BS l, .func g [.rptr xs 0, .rptr ys 0]] (I (idxF p 0 l)) := by
  refine mk82 rfl ?_
  refine ⟨fun n c => ∃ i : Nat, i ≤ l.length ∧ n = l.length - i ∧ c = ⟨[(0, BS l), (1, .func g [.rptr xs 0, .rptr ys 0]), (4, I 0), (7, I l.length), (8, I i)], []⟩ ∧ idxF p i (l.drop i) = idxF p 0 l, ⟨_, _, Wk.keep [0, 1, 4, 7, 8] [], 0, by omega, rfl, rfl, by simp⟩, ?_⟩
  rintro n c ⟨i, hi, rfl, rfl, hI⟩
  refine ⟨fun h => ?_, fun h => ?_⟩
  · simp at h
    obtain ⟨a, ha, hd, _⟩ := drop_cons h
    rw [hd, idxF] at hI
    refine ⟨⟨by omega, by omega⟩, encB a, by simp [ha], _, hp a (List.mem_of_getElem? ha), fun hf => ?_, fun hf => ?_⟩
    · rw [if_pos hf] at hI
      exact ⟨rfl, rfl, by rw [← hI]; rfl⟩
    · rw [if_neg (by simp [hf])] at hI
      refine ⟨_, wrap64 (by omega) (by omega), ?_⟩
      exact ⟨_, _, Wk.keep [0, 1, 4, 7, 8] [], by omega, i + 1, by omega, rfl, rfl, hI⟩
  · simp at h
    have : i = l.length := by omega
    subst this
    simp [idxF] at hI
    exact ⟨rfl, rfl, by rw [← hI]; rfl⟩
theorem c94b (l : List Bx) (hl : l.length ≤ 9223372036854775807) (p : Bx → Bool) (g : FuncId) (xs ys : List AV) (hp : ∀ a ∈ l, Fn Tryz.prog g [.agg (encB a), .rptr xs 0, .rptr ys 0] (B (p a))) : Fn Tryz.prog 94 [BS l, .func g [.rptr xs 0, .rptr ys 0]] (B (l.any p)) :=
  mk94 rfl ⟨_, c82b l hl p g xs ys hp, rfl, rfl, by rw [← idxF_any]; rfl⟩
theorem c84a (l : List Sh) (hl : l.length ≤ 9223372036854775807) (p : Sh → Bool) (g : FuncId) (xs : List AV) (hp : ∀ a ∈ l, Fn Tryz.prog g [.agg (encS a), .rptr xs 0] (B (p a))) : Fn Tryz.prog 84 [SS l, .func g [.rptr xs 0]] (I (idxF p 0 l)) := by
  refine mk84 rfl ?_
  refine ⟨fun n c => ∃ i : Nat, i ≤ l.length ∧ n = l.length - i ∧ c = ⟨[(0, SS l), (1, .func g [.rptr xs 0]), (4, I 0), (7, I l.length), (8, I i)], []⟩ ∧ idxF p i (l.drop i) = idxF p 0 l, ⟨_, _, Wk.keep [0, 1, 4, 7, 8] [], 0, by omega, rfl, rfl, by simp⟩, ?_⟩
  rintro n c ⟨i, hi, rfl, rfl, hI⟩
  refine ⟨fun h => ?_, fun h => ?_⟩
  · simp at h
    obtain ⟨a, ha, hd, _⟩ := drop_cons h
    rw [hd, idxF] at hI
    refine ⟨⟨by omega, by omega⟩, encS a, by simp [ha], _, hp a (List.mem_of_getElem? ha), fun hf => ?_, fun hf => ?_⟩
    · rw [if_pos hf] at hI
      exact ⟨rfl, rfl, by rw [← hI]; rfl⟩
    · rw [if_neg (by simp [hf])] at hI
      refine ⟨_, wrap64 (by omega) (by omega), ?_⟩
      exact ⟨_, _, Wk.keep [0, 1, 4, 7, 8] [], by omega, i + 1, by omega, rfl, rfl, hI⟩
  · simp at h
    have : i = l.length := by omega
    subst this
    simp [idxF] at hI
    exact ⟨rfl, rfl, by rw [← hI]; rfl⟩
theorem c130a (l : List Mv) (hl : l.length ≤ 9223372036854775807) (p : Mv → Bool) (g : FuncId) (xs : List AV) (hp : ∀ a ∈ l, Fn Tryz.prog g [.agg (rowM a), .rptr xs 0] (B (p a))) : Fn Tryz.prog 130 [MS l, .func g [.rptr xs 0]] (I (idxF p 0 l)) := by
  refine mk130 rfl ?_
  refine ⟨fun n c => ∃ i : Nat, i ≤ l.length ∧ n = l.length - i ∧ c = ⟨[(0, MS l), (1, .func g [.rptr xs 0]), (4, I 0), (7, I l.length), (8, I i)], []⟩ ∧ idxF p i (l.drop i) = idxF p 0 l, ⟨_, _, Wk.keep [0, 1, 4, 7, 8] [], 0, by omega, rfl, rfl, by simp⟩, ?_⟩
  rintro n c ⟨i, hi, rfl, rfl, hI⟩
  refine ⟨fun h => ?_, fun h => ?_⟩
  · simp at h
    obtain ⟨a, ha, hd, _⟩ := drop_cons h
    rw [hd, idxF] at hI
    refine ⟨⟨by omega, by omega⟩, rowM a, by simp [ha], _, hp a (List.mem_of_getElem? ha), fun hf => ?_, fun hf => ?_⟩
    · rw [if_pos hf] at hI
      exact ⟨rfl, rfl, by rw [← hI]; rfl⟩
    · rw [if_neg (by simp [hf])] at hI
      refine ⟨_, wrap64 (by omega) (by omega), ?_⟩
      exact ⟨_, _, Wk.keep [0, 1, 4, 7, 8] [], by omega, i + 1, by omega, rfl, rfl, hI⟩
  · simp at h
    have : i = l.length := by omega
    subst this
    simp [idxF] at hI
    exact ⟨rfl, rfl, by rw [← hI]; rfl⟩
theorem c130b (l : List Mv) (hl : l.length ≤ 9223372036854775807) (p : Mv → Bool) (g : FuncId) (xs ys : List AV) (hp : ∀ a ∈ l, Fn Tryz.prog g [.agg (rowM a), .rptr xs 0, .rptr ys 0] (B (p a))) : Fn Tryz.prog 130 [MS l, .func g [.rptr xs 0, .rptr ys 0]] (I (idxF p 0 l)) := by
  refine mk130 rfl ?_
  refine ⟨fun n c => ∃ i : Nat, i ≤ l.length ∧ n = l.length - i ∧ c = ⟨[(0, MS l), (1, .func g [.rptr xs 0, .rptr ys 0]), (4, I 0), (7, I l.length), (8, I i)], []⟩ ∧ idxF p i (l.drop i) = idxF p 0 l, ⟨_, _, Wk.keep [0, 1, 4, 7, 8] [], 0, by omega, rfl, rfl, by simp⟩, ?_⟩
  rintro n c ⟨i, hi, rfl, rfl, hI⟩
  refine ⟨fun h => ?_, fun h => ?_⟩
  · simp at h
    obtain ⟨a, ha, hd, _⟩ := drop_cons h
    rw [hd, idxF] at hI
    refine ⟨⟨by omega, by omega⟩, rowM a, by simp [ha], _, hp a (List.mem_of_getElem? ha), fun hf => ?_, fun hf => ?_⟩
    · rw [if_pos hf] at hI
      exact ⟨rfl, rfl, by rw [← hI]; rfl⟩
    · rw [if_neg (by simp [hf])] at hI
      refine ⟨_, wrap64 (by omega) (by omega), ?_⟩
      exact ⟨_, _, Wk.keep [0, 1, 4, 7, 8] [], by omega, i + 1, by omega, rfl, rfl, hI⟩
  · simp at h
    have : i = l.length := by omega
    subst this
    simp [idxF] at hI
    exact ⟨rfl, rfl, by rw [← hI]; rfl⟩
theorem c92b (l : List Mv) (hl : l.length ≤ 9223372036854775807) (p : Mv → Bool) (g : FuncId) (xs ys : List AV) (hp : ∀ a ∈ l, Fn Tryz.prog g [.agg (rowM a), .rptr xs 0, .rptr ys 0] (B (p a))) : Fn Tryz.prog 92 [MS l, .func g [.rptr xs 0, .rptr ys 0]] (B (l.any p)) :=
  mk92 rfl ⟨_, c130b l hl p g xs ys hp, rfl, rfl, by rw [← idxF_any]; rfl⟩
theorem c96a (l : List Rw) (hl : l.length ≤ 9223372036854775807) (p : Rw → Bool) (g : FuncId) (xs : List AV) (hp : ∀ a ∈ l, Fn Tryz.prog g [.agg (encW a), .rptr xs 0] (B (p a))) : Fn Tryz.prog 96 [WS l, .func g [.rptr xs 0]] (I (idxF p 0 l)) := by
  refine mk96 rfl ?_
  refine ⟨fun n c => ∃ i : Nat, i ≤ l.length ∧ n = l.length - i ∧ c = ⟨[(0, WS l), (1, .func g [.rptr xs 0]), (4, I 0), (7, I l.length), (8, I i)], []⟩ ∧ idxF p i (l.drop i) = idxF p 0 l, ⟨_, _, Wk.keep [0, 1, 4, 7, 8] [], 0, by omega, rfl, rfl, by simp⟩, ?_⟩
  rintro n c ⟨i, hi, rfl, rfl, hI⟩
  refine ⟨fun h => ?_, fun h => ?_⟩
  · simp at h
    obtain ⟨a, ha, hd, _⟩ := drop_cons h
    rw [hd, idxF] at hI
    refine ⟨⟨by omega, by omega⟩, encW a, by simp [ha], _, hp a (List.mem_of_getElem? ha), fun hf => ?_, fun hf => ?_⟩
    · rw [if_pos hf] at hI
      exact ⟨rfl, rfl, by rw [← hI]; rfl⟩
    · rw [if_neg (by simp [hf])] at hI
      refine ⟨_, wrap64 (by omega) (by omega), ?_⟩
      exact ⟨_, _, Wk.keep [0, 1, 4, 7, 8] [], by omega, i + 1, by omega, rfl, rfl, hI⟩
  · simp at h
    have : i = l.length := by omega
    subst this
    simp [idxF] at hI
    exact ⟨rfl, rfl, by rw [← hI]; rfl⟩
theorem c264a (l : List Req) (hl : l.length ≤ 9223372036854775807) (p : Req → Bool) (g : FuncId) (xs : List AV) (hp : ∀ a ∈ l, Fn Tryz.prog g [.agg (encR a), .rptr xs 0] (B (p a))) : Fn Tryz.prog 264 [QS l, .func g [.rptr xs 0]] (I (idxF p 0 l)) := by
  refine mk264 rfl ?_
  refine ⟨fun n c => ∃ i : Nat, i ≤ l.length ∧ n = l.length - i ∧ c = ⟨[(0, QS l), (1, .func g [.rptr xs 0]), (4, I 0), (7, I l.length), (8, I i)], []⟩ ∧ idxF p i (l.drop i) = idxF p 0 l, ⟨_, _, Wk.keep [0, 1, 4, 7, 8] [], 0, by omega, rfl, rfl, by simp⟩, ?_⟩
  rintro n c ⟨i, hi, rfl, rfl, hI⟩
  refine ⟨fun h => ?_, fun h => ?_⟩
  · simp at h
    obtain ⟨a, ha, hd, _⟩ := drop_cons h
    rw [hd, idxF] at hI
    refine ⟨⟨by omega, by omega⟩, encR a, by simp [ha], _, hp a (List.mem_of_getElem? ha), fun hf => ?_, fun hf => ?_⟩
    · rw [if_pos hf] at hI
      exact ⟨rfl, rfl, by rw [← hI]; rfl⟩
    · rw [if_neg (by simp [hf])] at hI
      refine ⟨_, wrap64 (by omega) (by omega), ?_⟩
      exact ⟨_, _, Wk.keep [0, 1, 4, 7, 8] [], by omega, i + 1, by omega, rfl, rfl, hI⟩
  · simp at h
    have : i = l.length := by omega
    subst this
    simp [idxF] at hI
    exact ⟨rfl, rfl, by rw [← hI]; rfl⟩
theorem c264b (l : List Req) (hl : l.length ≤ 9223372036854775807) (p : Req → Bool) (g : FuncId) (xs ys : List AV) (hp : ∀ a ∈ l, Fn Tryz.prog g [.agg (encR a), .rptr xs 0, .rptr ys 0] (B (p a))) : Fn Tryz.prog 264 [QS l, .func g [.rptr xs 0, .rptr ys 0]] (I (idxF p 0 l)) := by
  refine mk264 rfl ?_
  refine ⟨fun n c => ∃ i : Nat, i ≤ l.length ∧ n = l.length - i ∧ c = ⟨[(0, QS l), (1, .func g [.rptr xs 0, .rptr ys 0]), (4, I 0), (7, I l.length), (8, I i)], []⟩ ∧ idxF p i (l.drop i) = idxF p 0 l, ⟨_, _, Wk.keep [0, 1, 4, 7, 8] [], 0, by omega, rfl, rfl, by simp⟩, ?_⟩
  rintro n c ⟨i, hi, rfl, rfl, hI⟩
  refine ⟨fun h => ?_, fun h => ?_⟩
  · simp at h
    obtain ⟨a, ha, hd, _⟩ := drop_cons h
    rw [hd, idxF] at hI
    refine ⟨⟨by omega, by omega⟩, encR a, by simp [ha], _, hp a (List.mem_of_getElem? ha), fun hf => ?_, fun hf => ?_⟩
    · rw [if_pos hf] at hI
      exact ⟨rfl, rfl, by rw [← hI]; rfl⟩
    · rw [if_neg (by simp [hf])] at hI
      refine ⟨_, wrap64 (by omega) (by omega), ?_⟩
      exact ⟨_, _, Wk.keep [0, 1, 4, 7, 8] [], by omega, i + 1, by omega, rfl, rfl, hI⟩
  · simp at h
    have : i = l.length := by omega
    subst this
    simp [idxF] at hI
    exact ⟨rfl, rfl, by rw [← hI]; rfl⟩
theorem c294a (l : List Bk) (hl : l.length ≤ 9223372036854775807) (p : Bk → Bool) (g : FuncId) (xs : List AV) (hp : ∀ a ∈ l, Fn Tryz.prog g [.agg (encK a), .rptr xs 0] (B (p a))) : Fn Tryz.prog 294 [KS l, .func g [.rptr xs 0]] (I (idxF p 0 l)) := by
  refine mk294 rfl ?_
  refine ⟨fun n c => ∃ i : Nat, i ≤ l.length ∧ n = l.length - i ∧ c = ⟨[(0, KS l), (1, .func g [.rptr xs 0]), (4, I 0), (7, I l.length), (8, I i)], []⟩ ∧ idxF p i (l.drop i) = idxF p 0 l, ⟨_, _, Wk.keep [0, 1, 4, 7, 8] [], 0, by omega, rfl, rfl, by simp⟩, ?_⟩
  rintro n c ⟨i, hi, rfl, rfl, hI⟩
  refine ⟨fun h => ?_, fun h => ?_⟩
  · simp at h
    obtain ⟨a, ha, hd, _⟩ := drop_cons h
    rw [hd, idxF] at hI
    refine ⟨⟨by omega, by omega⟩, encK a, by simp [ha], _, hp a (List.mem_of_getElem? ha), fun hf => ?_, fun hf => ?_⟩
    · rw [if_pos hf] at hI
      exact ⟨rfl, rfl, by rw [← hI]; rfl⟩
    · rw [if_neg (by simp [hf])] at hI
      refine ⟨_, wrap64 (by omega) (by omega), ?_⟩
      exact ⟨_, _, Wk.keep [0, 1, 4, 7, 8] [], by omega, i + 1, by omega, rfl, rfl, hI⟩
  · simp at h
    have : i = l.length := by omega
    subst this
    simp [idxF] at hI
    exact ⟨rfl, rfl, by rw [← hI]; rfl⟩
theorem c294b (l : List Bk) (hl : l.length ≤ 9223372036854775807) (p : Bk → Bool) (g : FuncId) (xs ys : List AV) (hp : ∀ a ∈ l, Fn Tryz.prog g [.agg (encK a), .rptr xs 0, .rptr ys 0] (B (p a))) : Fn Tryz.prog 294 [KS l, .func g [.rptr xs 0, .rptr ys 0]] (I (idxF p 0 l)) := by
  refine mk294 rfl ?_
  refine ⟨fun n c => ∃ i : Nat, i ≤ l.length ∧ n = l.length - i ∧ c = ⟨[(0, KS l), (1, .func g [.rptr xs 0, .rptr ys 0]), (4, I 0), (7, I l.length), (8, I i)], []⟩ ∧ idxF p i (l.drop i) = idxF p 0 l, ⟨_, _, Wk.keep [0, 1, 4, 7, 8] [], 0, by omega, rfl, rfl, by simp⟩, ?_⟩
  rintro n c ⟨i, hi, rfl, rfl, hI⟩
  refine ⟨fun h => ?_, fun h => ?_⟩
  · simp at h
    obtain ⟨a, ha, hd, _⟩ := drop_cons h
    rw [hd, idxF] at hI
    refine ⟨⟨by omega, by omega⟩, encK a, by simp [ha], _, hp a (List.mem_of_getElem? ha), fun hf => ?_, fun hf => ?_⟩
    · rw [if_pos hf] at hI
      exact ⟨rfl, rfl, by rw [← hI]; rfl⟩
    · rw [if_neg (by simp [hf])] at hI
      refine ⟨_, wrap64 (by omega) (by omega), ?_⟩
      exact ⟨_, _, Wk.keep [0, 1, 4, 7, 8] [], by omega, i + 1, by omega, rfl, rfl, hI⟩
  · simp at h
    have : i = l.length := by omega
    subst this
    simp [idxF] at hI
    exact ⟨rfl, rfl, by rw [← hI]; rfl⟩
end Go.Abs.Ltop
end
