import Derived.Test.YteihenhffdckiaaGreatDoorJ24
import Derived.Test.YteihenhffdckiaaGreatDoorJ17
section
namespace Go.Abs.Ltop.Aw
open Go Go.Abs Go.Proofs
set_option linter.unusedVariables false
set_option maxRecDepth 20000
/-! ### a first content -/
theorem c344n (c : Ct) : Fn Tryz.prog 344 [.nilsl, I 0, .rsl 2 1 [encC c]] (.fsl true 162 2 1 [encC c]) := by
  refine mkG344 [(1, [2, 2, 2])] [] rfl ⟨rfl, _, WkP.refl _ _, _, opx_slice_nil tabOK rfl rfl rfl rfl rfl rfl rfl rfl rfl, ?_⟩
  rintro c3 rfl
  refine ⟨fun h => (by cases h), fun _ => ⟨fun _ => ?_, fun h => (by cases h)⟩⟩
  refine ⟨by decide, true, sc2 [c], ?_⟩
  exact ⟨_, WkP.refl _ _, rfl, ⟨_, rfl, rfl, rfl, .inl ⟨rfl, rfl⟩⟩⟩
theorem c342 (b : Bx) (n : Int) : Fn Tryz.prog 342 [.agg (encB b), .rptr [I n] 0] (B (b.id == n)) := mk342 rfl ⟨rfl, rfl, rfl⟩
theorem c286 (l : List Bx) (hl : l.length ≤ 100000) (n : Int) : Fn Tryz.prog 286 [BS l, I n] (I (bxI l n)) :=
  mk286 rfl ⟨_, c82a l (by omega) _ 342 [I n] (fun a _ => c342 a n), rfl, rfl, rfl⟩
theorem c343 (c : Ct) (n : Int) : Fn Tryz.prog 343 [.agg (encC c), .rptr [I n] 0] (B (c.unit == n)) := mk343 rfl ⟨rfl, rfl, rfl⟩
/-- where a unit is -/
def whGo (u : Int) : Nat → List Bx → Int × Int
  | _, [] => (-1, -1)
  | i, b :: r => if idxF (fun c : Ct => c.unit == u) 0 b.cont ≥ 0 then ((i : Int), idxF (fun c : Ct => c.unit == u) 0 b.cont) else whGo u (i + 1) r
theorem c287 (l : List Bx) (hl : l.length ≤ 100000) (hc : ∀ b ∈ l, b.cont.length ≤ 100000) (u : Int) : Fn Tryz.prog 287 [BS l, I u] (.tup [I (whGo u 0 l).1, I (whGo u 0 l).2]) := by
  refine mk287 rfl ?_
  refine ⟨fun n c => ∃ i : Nat, i ≤ l.length ∧ n = l.length - i ∧ whGo u i (l.drop i) = whGo u 0 l ∧ c = ⟨[(3, .ovar 48 0), (4, I 0), (5, I 0), (9, BS l), (10, I l.length), (11, I i)], [(48, ⟨3, 1, .any, [[I u]], []⟩)]⟩, ⟨_, _, Wk.keep [3, 4, 5, 9, 10, 11] [48], 0, by omega, rfl, by simp, rfl⟩, ?_⟩
  rintro n c ⟨i, hi, rfl, hI, rfl⟩
  refine ⟨fun hlt => ?_, fun hlt => ?_⟩
  · simp at hlt
    obtain ⟨b, hb, hd, _⟩ := drop_cons hlt
    rw [hd, whGo] at hI
    have a263 := c263a b.cont (by have := hc b (List.mem_of_getElem? hb); omega) (fun c => c.unit == u) 343 [I u] (fun c _ => c343 c u)
    generalize idxF (fun c : Ct => c.unit == u) 0 b.cont = k at a263 hI
    refine ⟨⟨by omega, by omega⟩, encB b, by simp [hb], _, a263, fun hg => ?_, fun hg => ?_⟩
    · rw [if_pos (of_decide_eq_true hg)] at hI
      rw [← hI]
      exact ⟨_, _, rfl, ⟨rfl, rfl⟩, rfl, rfl, trivial⟩
    · rw [if_neg (of_decide_eq_false hg)] at hI
      refine ⟨_, wrap64 (by omega) (by omega), ?_⟩
      exact ⟨_, _, Wk.keep [3, 4, 5, 9, 10, 11] [48], by omega, i + 1, by omega, rfl, hI, rfl⟩
  · simp at hlt
    have : i = l.length := by omega
    subst this
    rw [List.drop_length, whGo] at hI
    rw [← hI]
    exact ⟨_, _, rfl, ⟨rfl, rfl⟩, rfl, rfl, trivial⟩
theorem c289n (c : Ct) : Fn Tryz.prog 289 [.nilsl, I 0, .agg (encC c)] (.fsl true 162 2 1 [encC c]) :=
  mk289 rfl ⟨_, c63z, _, c344n c, false, rfl, ⟨_, rfl, rfl, rfl, .inl ⟨rfl, rfl⟩⟩⟩
theorem c288n (b : Bx) : Fn Tryz.prog 288 [.rsl 5 1 [rw1 b]] (.fsl false 56 5 1 [rw1 b]) := by
  have a22 := c22 [rw1 b] (by simp)
  refine mk288 rfl ⟨_, a22, false, ?_⟩
  refine ⟨fun n c => ∃ i : Nat, i ≤ 1 ∧ n = 1 - i ∧ c = ⟨[(2, .nilsl), (3, .osl 96 5 1), (8, I 1), (9, I i)], [(96, ⟨56, 5, .flat, [rw1 b], []⟩)]⟩, ⟨_, _, Wk.keep [2, 3, 8, 9] [96], 0, by omega, rfl, rfl⟩, ?_⟩
  rintro n c ⟨i, hi, rfl, rfl⟩
  refine ⟨fun hlt => ?_, fun hlt => ?_⟩
  · have hlt : i = 0 := by simp at hlt; omega
    subst hlt
    refine ⟨⟨by decide, by decide⟩, rw1 b, rfl, _, c63z, ⟨by decide, by decide⟩, rw1 b, rfl, ?_⟩
    refine ⟨_, wrap64 (by omega) (by omega), ?_⟩
    exact ⟨_, _, Wk.keep [2, 3, 8, 9] [96], by omega, 1, by omega, rfl, rfl⟩
  · exact ⟨rfl, _, rfl, rfl, rfl, .inr ⟨rfl, rfl⟩⟩
end Go.Abs.Ltop.Aw
end
section
namespace Go.Abs.Ltop.Aw
open Go Go.Abs Go.Proofs
set_option linter.unusedVariables false
set_option maxRecDepth 20000
theorem c220n (b : Bx) (hb : b.cont = []) (hok : boxE [b] = 0) (c : Ct) (hc : isCt c = true) (hr : c.thick ≤ b.room) :
    Fn Tryz.prog 220 [.rsl 5 1 [rw1 b], I b.id, I 0, .agg (encC c)] (.tup [.fsl false 56 5 1 [encB { b with cont := [c] }], I 0]) := by
  have a81 := (c81 [b] (by simp) (by simp [hb])).args_weak (us' := [.rsl 5 1 [rw1 b]]) ⟨imp_rw1 b hb, trivial⟩
  rw [hok] at a81
  have a286 := (c286 [b] (by simp) b.id).args_weak (us' := [.rsl 5 1 [rw1 b], I b.id]) ⟨imp_rw1 b hb, .refl _, trivial⟩
  have e286 : bxI [b] b.id = 0 := by simp [bxI, idxF]
  rw [e286] at a286
  have a287 := (c287 [b] (by simp) (by simp [hb]) c.unit).args_weak (us' := [.rsl 5 1 [rw1 b], I c.unit]) ⟨imp_rw1 b hb, .refl _, trivial⟩
  have e287 : whGo c.unit 0 [b] = (-1, -1) := by simp [whGo, hb, idxF]
  rw [e287] at a287
  have a178 := c178 0 0 0
  have a181 := c181 c
  rw [hc] at a181
  have a182 := (c182 [] (by simp) (by simp)).args_weak (us' := [.nilsl]) ⟨.nil 2, trivial⟩
  have hct : 1 ≤ c.thick ∧ c.thick ≤ 10000 := by
    unfold isCt inB at hc
    simp at hc
    omega
  refine mk220 rfl ⟨_, a81, fun h => (by cases h), fun _ => ⟨_, a286, fun h => (by cases h), fun _ => ⟨_, a287, ?_⟩⟩⟩
  refine ⟨⟨by decide, by decide⟩, rw1 b, rfl, ?_⟩
  refine ⟨[(6, false)], _, a178, rfl, _, a181, fun h => (by cases h), fun _ => ⟨fun h => (by cases h), fun _ => ⟨fun h => (by cases h), fun _ => ?_⟩⟩⟩
  refine ⟨_, a182, _, wrap64 (x := thickE [] + c.thick) (by simp [thickE]; omega) (by simp [thickE]; omega), fun h => ?_, fun _ => ?_⟩
  · have h : thickE [] + c.thick > b.room := of_decide_eq_true h
    simp [thickE] at h
    omega
  refine ⟨_, c288n b, false, ?_⟩
  refine ⟨⟨by decide, by decide⟩, rw1 b, rfl, _, c289n c, true, ⟨by decide, by decide⟩, rw1 b, rfl, ?_⟩
  exact ⟨_, _, rfl, ⟨_, rfl, rfl, rfl, .inr ⟨rfl, rfl⟩⟩, rfl, rfl, trivial⟩
theorem imp_enc3 (yr st : Int) (b : Bx) (s : Sh) (hb : b.cont = []) : Imp (.agg (encU3 yr st b s)) (.agg (encU ⟨yr, [b], [s], [], [], st, [], 0⟩)) :=
  Imp.aggL ⟨.refl _, .refl _, .refl _, .refl _, .refl _, .refl _, imp_rw1 b hb, .refl _, .refl _, .refl _, .refl _, .refl _, .refl _, .refl _, .refl _, .refl _, trivial⟩
theorem ms_nil : MsOK [] := ⟨rfl, by simp, by simp⟩
theorem c219n (yr st : Int) (b : Bx) (s : Sh) (hb : b.cont = []) (n : Nat) (rows : List (List AV)) (e : Ev) (k : Int) (hk : isId k = true) : Fn Tryz.prog 219 [.rptr (encD1 (encU3 yr st b s) (.rsl 3 n rows) e) 0, I k] (B false) := by
  have a57 := (c57 ⟨yr, [b], [s], [], [], st, [], 0⟩ ms_nil k hk).args_weak (us' := [.agg (encU3 yr st b s), I k]) ⟨imp_enc3 yr st b s hb, .refl _, trivial⟩
  exact mk219 rfl ⟨_, a57, rfl, rfl, rfl⟩
theorem c218b (yr st : Int) (b b' : Bx) (s : Sh) (n : Nat) (rows : List (List AV)) (e : Ev) : FnG Tryz.prog 218 [.ovar 18 6, BS [b'], I 0] (OD1 (encU3 yr st b s) (.rsl 3 n rows) e) [18] (OD1 (encU ⟨yr, [b'], [s], [], [], st, [], 0⟩) (.rsl 3 n rows) e) (I 0) :=
  mkN218 [] [] rfl (p18a _ _ _) ⟨fun _ => ⟨_, WkP.keep [6] [18], rfl, rfl, rfl⟩, fun h => (by cases h)⟩
theorem c140 (yr st : Int) (b : Bx) (s : Sh) (hb : b.cont = []) (hid : isId b.id = true) (hok : boxE [b] = 0) (c : Ct) (hc : isCt c = true) (hr : c.thick ≤ b.room) (n : Nat) (rows : List (List AV)) (eid kd : Int) :
    FnG Tryz.prog 140 [.ovar 18 0] (OD1 (encU3 yr st b s) (.rsl 3 n rows) ⟨eid, 0, kd, [b.id, 0, c.unit, c.thick]⟩) [18] (OD1 (encU ⟨yr, [{ b with cont := [c] }], [s], [], [], st, [], 0⟩) (.rsl 3 n rows) ⟨eid, 0, kd, [b.id, 0, c.unit, c.thick]⟩) (I 0) := by
  have a219 := c219n yr st b s hb n rows ⟨eid, 0, kd, [b.id, 0, c.unit, c.thick]⟩ b.id hid
  have a220 := c220n b hb hok c hc hr
  refine mkN140 [(5, [6])] [] rfl (p18a _ _ _) ⟨⟨by decide, by simp⟩, [I b.id], rfl, _, a219, fun h => (by cases h), fun _ => ?_⟩
  refine ⟨⟨by decide, by simp⟩, [I b.id], rfl, ⟨by decide, by simp⟩, [I 0], rfl, ⟨by decide, by simp⟩, [I c.unit], rfl, ⟨by decide, by simp⟩, [I c.thick], rfl, _, a220, true, ?_⟩
  refine ⟨_, WkP.keep [38, 39, 40, 41, 42, 43] [18], _, I 0, [18], (c218b yr st b { b with cont := [c] } s n rows ⟨eid, 0, kd, [b.id, 0, c.unit, c.thick]⟩).as (by rfl) (by rfl) (by rfl), rfl, ?_⟩
  exact ⟨_, WkP.keep [2] [18], rfl, rfl, rfl⟩
end Go.Abs.Ltop.Aw
end
section
namespace Go.Abs.Ltop.Rq
open Go Go.Abs Go.Proofs
set_option linter.unusedVariables false
set_option maxRecDepth 20000
/-! ### requests (as in chapter 42) -/
abbrev A (l : List Req) : AV := .rsl 7 l.length (l.map encR)
abbrev fA (l : List Req) : AV := .fsl true 168 7 l.length (l.map encR)
abbrev X (n : Int) : AV := .rptr [I n] 0
def idB (n : Int) : Bool := decide (n ≥ 1) && decide (n ≤ 1073741824)
def dayB (n : Int) : Bool := decide (n ≥ 0) && decide (n ≤ 1048575)
def openB (r : Req) : Bool := (r.st == 1) || (r.st == 2)
def formedB (r : Req) : Bool := idB r.id && idB r.rd && idB r.un && idB r.bx && dayB r.dy && decide (r.st ≥ 1) && decide (r.st ≤ 5) && decide (r.ch ≥ r.dy) && dayB r.ch && ((r.st != 1) || (r.ch == r.dy))
theorem c183 (n : Int) : Fn Tryz.prog 183 [I n] (.bool (idB n)) := mk183 rfl ⟨[], rfl, rfl, rfl⟩
theorem c184 (n : Int) : Fn Tryz.prog 184 [I n] (.bool (dayB n)) := mk184 rfl ⟨[], rfl, rfl, rfl⟩
theorem c118 (r : Req) : Fn Tryz.prog 118 [.agg (encR r)] (.bool (openB r)) := mk118 rfl ⟨[], rfl, rfl, rfl⟩
theorem c116 (r : Req) : Fn Tryz.prog 116 [.agg (encR r)] (.bool (formedB r)) := mk116 rfl ⟨[], _, c183 r.id, _, c183 r.rd, _, c183 r.un, _, c183 r.bx, _, c184 r.dy, _, c184 r.ch, rfl, rfl, rfl⟩
theorem scalR (l : List Req) : Scal (l.map encR) := by
  intro row hr u hu
  simp only [List.mem_map] at hr
  obtain ⟨a, _, rfl⟩ := hr
  simp only [encR, List.mem_cons, List.not_mem_nil, or_false] at hu
  rcases hu with rfl | rfl | rfl | rfl | rfl | rfl | rfl <;> rfl
theorem c65n : Fn Tryz.prog 65 [.nilsl] (fA []) := mk65 rfl ⟨fun _ => ⟨rfl, .inr ⟨_, _, _, rfl⟩⟩, fun h => by cases h⟩
theorem c65e : Fn Tryz.prog 65 [.esl] (fA []) := mk65 rfl ⟨fun h => (by cases h), fun _ => ⟨by decide, rfl, _, rfl, rfl, rfl, .inl ⟨rfl, rfl⟩⟩⟩
theorem c65 (l : List Req) (h : l.length ≤ 2000) : Fn Tryz.prog 65 [A l] (fA l) := by
  cases l with
  | nil => exact fn_empty c65n c65e
  | cons a l =>
    refine mk65 rfl ⟨by simp, fun h => (by cases h), fun _ => ?_⟩
    exact ⟨⟨by simp at h ⊢; omega, by simp at h ⊢; omega⟩, scalR (a :: l), rfl, _, rfl, rfl, by simp, .inl ⟨rfl, by simp⟩⟩
theorem c187 (r : Req) (x y : Int) : Fn Tryz.prog 187 [.agg (encR r), X x, X y] (.bool (openB r && (r.rd == x) && (r.un == y))) := mk187 rfl ⟨[], _, c118 r, rfl, rfl, rfl⟩
theorem c186 (r : Req) (x : Int) : Fn Tryz.prog 186 [.agg (encR r), X x] (.bool ((r.st == 2) && (r.bx == x))) := mk186 rfl ⟨[], rfl, rfl, rfl⟩
theorem c383 (r : Req) (x : Int) : Fn Tryz.prog 383 [.agg (encR r), X x] (.bool (r.id == x)) := mk383 rfl ⟨rfl, rfl, rfl⟩
theorem c346 (r : Req) (x : Int) : Fn Tryz.prog 346 [.agg (encR r), X x] (.bool ((r.st == 1) && (r.bx == x))) := mk346 rfl ⟨[], rfl, rfl, rfl⟩
theorem c264a (l : List Req) (hl : l.length ≤ 9223372036854775807) (p : Req → Bool) (g : FuncId) (xs : List AV) (hp : ∀ a ∈ l, Fn Tryz.prog g [.agg (encR a), .rptr xs 0] (.bool (p a))) : Fn Tryz.prog 264 [A l, .func g [.rptr xs 0]] (I (idxF p 0 l)) := by
  refine mk264 rfl ?_
  refine ⟨fun n c => ∃ i : Nat, i ≤ l.length ∧ n = l.length - i ∧ c = ⟨[(0, A l), (1, .func g [.rptr xs 0]), (4, I 0), (7, I l.length), (8, I i)], []⟩ ∧ idxF p i (l.drop i) = idxF p 0 l, ⟨_, _, Wk.keep [0, 1, 4, 7, 8] [], 0, by omega, rfl, rfl, by simp⟩, ?_⟩
  rintro n c ⟨i, hi, rfl, rfl, hI⟩
  refine ⟨fun h => ?_, fun h => ?_⟩
  · simp at h
    obtain ⟨a, ha, hd, _⟩ := drop_cons h
    rw [hd, idxF] at hI
    refine ⟨⟨by omega, by omega⟩, encR a, by simp [ha], _, hp a (List.mem_of_getElem? ha), fun hf => ?_, fun hf => ?_⟩
    · rw [if_pos hf] at hI
      exact ⟨rfl, rfl, by rw [← hI]; rfl⟩
    · rw [if_neg (by simp [hf])] at hI
      refine ⟨_, wrap64 (by omega) (by omega), ?_⟩
      exact ⟨_, _, Wk.keep [0, 1, 4, 7, 8] [], by omega, i + 1, by omega, rfl, rfl, hI⟩
  · simp at h
    have : i = l.length := by omega
    subst this
    simp [idxF] at hI
    exact ⟨rfl, rfl, by rw [← hI]; rfl⟩
theorem c264b (l : List Req) (hl : l.length ≤ 9223372036854775807) (p : Req → Bool) (g : FuncId) (xs ys : List AV) (hp : ∀ a ∈ l, Fn Tryz.prog g [.agg (encR a), .rptr xs 0, .rptr ys 0] (.bool (p a))) : Fn Tryz.prog 264 [A l, .func g [.rptr xs 0, .rptr ys 0]] (I (idxF p 0 l)) := by
  refine mk264 rfl ?_
  refine ⟨fun n c => ∃ i : Nat, i ≤ l.length ∧ n = l.length - i ∧ c = ⟨[(0, A l), (1, .func g [.rptr xs 0, .rptr ys 0]), (4, I 0), (7, I l.length), (8, I i)], []⟩ ∧ idxF p i (l.drop i) = idxF p 0 l, ⟨_, _, Wk.keep [0, 1, 4, 7, 8] [], 0, by omega, rfl, rfl, by simp⟩, ?_⟩
  rintro n c ⟨i, hi, rfl, rfl, hI⟩
  refine ⟨fun h => ?_, fun h => ?_⟩
  · simp at h
    obtain ⟨a, ha, hd, _⟩ := drop_cons h
    rw [hd, idxF] at hI
    refine ⟨⟨by omega, by omega⟩, encR a, by simp [ha], _, hp a (List.mem_of_getElem? ha), fun hf => ?_, fun hf => ?_⟩
    · rw [if_pos hf] at hI
      exact ⟨rfl, rfl, by rw [← hI]; rfl⟩
    · rw [if_neg (by simp [hf])] at hI
      refine ⟨_, wrap64 (by omega) (by omega), ?_⟩
      exact ⟨_, _, Wk.keep [0, 1, 4, 7, 8] [], by omega, i + 1, by omega, rfl, rfl, hI⟩
  · simp at h
    have : i = l.length := by omega
    subst this
    simp [idxF] at hI
    exact ⟨rfl, rfl, by rw [← hI]; rfl⟩
theorem c185a (l : List Req) (hl : l.length ≤ 9223372036854775807) (p : Req → Bool) (g : FuncId) (xs : List AV) (hp : ∀ a ∈ l, Fn Tryz.prog g [.agg (encR a), .rptr xs 0] (.bool (p a))) : Fn Tryz.prog 185 [A l, .func g [.rptr xs 0]] (.bool (l.any p)) :=
  mk185 rfl ⟨_, c264a l hl p g xs hp, rfl, rfl, by rw [← idxF_any]; rfl⟩
theorem c185b (l : List Req) (hl : l.length ≤ 9223372036854775807) (p : Req → Bool) (g : FuncId) (xs ys : List AV) (hp : ∀ a ∈ l, Fn Tryz.prog g [.agg (encR a), .rptr xs 0, .rptr ys 0] (.bool (p a))) : Fn Tryz.prog 185 [A l, .func g [.rptr xs 0, .rptr ys 0]] (.bool (l.any p)) :=
  mk185 rfl ⟨_, c264b l hl p g xs ys hp, rfl, rfl, by rw [← idxF_any]; rfl⟩
def lentP (l : List Req) (b : Int) : Bool := l.any fun r => (r.st == 2) && (r.bx == b)
def dblP (l : List Req) (x y : Int) : Bool := l.any fun r => openB r && (r.rd == x) && (r.un == y)
theorem c117 (l : List Req) (hl : l.length ≤ 9223372036854775807) (b : Int) : Fn Tryz.prog 117 [A l, I b] (.bool (lentP l b)) := mk117 rfl ⟨_, c185a l hl _ 186 [I b] (fun a _ => c186 a b), rfl, rfl, rfl⟩
theorem c119 (l : List Req) (hl : l.length ≤ 9223372036854775807) (x y : Int) : Fn Tryz.prog 119 [A l, I x, I y] (.bool (dblP l x y)) := mk119 rfl ⟨_, c185b l hl _ 187 [I x] [I y] (fun a _ => c187 a x y), rfl, rfl, rfl⟩
def indexE (l : List Req) (n : Int) : Int := idxF (fun r : Req => r.id == n) 0 l
theorem c347 (l : List Req) (hl : l.length ≤ 9223372036854775807) (n : Int) : Fn Tryz.prog 347 [A l, I n] (I (indexE l n)) := mk347 rfl ⟨_, c264a l hl _ 383 [I n] (fun a _ => c383 a n), rfl, rfl, rfl⟩
def nextE (l : List Req) (b : Int) : Int := if lentP l b = true then -1 else idxF (fun r : Req => (r.st == 1) && (r.bx == b)) 0 l
theorem c296 (l : List Req) (hl : l.length ≤ 9223372036854775807) (b : Int) : Fn Tryz.prog 296 [A l, I b] (I (nextE l b)) := by
  refine mk296 rfl ⟨_, c117 l hl b, fun h => ?_, fun h => ?_⟩
  · rw [nextE, if_pos h]; exact ⟨rfl, rfl, rfl⟩
  · rw [nextE, if_neg (by simp [h])]
    exact ⟨_, c264a l hl _ 346 [I b] (fun a _ => c346 a b), rfl, rfl, rfl⟩
/-- the request breaks the order behind the last one of a list -/
def badOrd (pre : List Req) (r : Req) : Bool := match pre.getLast? with
  | some q => decide (r.id ≤ q.id) || decide (r.dy < q.dy)
  | none => false
def err1 (pre : List Req) (r : Req) : Int :=
  if formedB r = false then 2 else if badOrd pre r = true then 5 else if ((r.st == 2) && lentP pre r.bx) = true then 11 else if (openB r && dblP pre r.rd r.un) = true then 6 else 0
def chk (pre : List Req) : List Req → Int
  | [] => 0
  | r :: rest => if err1 pre r ≠ 0 then err1 pre r else chk (pre ++ [r]) rest
def checkE (l : List Req) : Int := if l.length > 256 then 8 else chk [] l
theorem checkE_big {l : List Req} (h : 256 < l.length) : checkE l = 8 := if_pos h
theorem checkE_le {l : List Req} (h : l.length ≤ 256) : checkE l = chk [] l := if_neg (by omega)
theorem badOrd_0 (r : Req) : badOrd [] r = false := rfl
theorem badOrd_i {l : List Req} {i : Nat} {p r : Req} (h0 : i ≠ 0) (hi : i ≤ l.length) (hp : l[i - 1]? = some p) : badOrd (l.take i) r = (decide (r.id ≤ p.id) || decide (r.dy < p.dy)) := by
  have : (l.take i).getLast? = some p := by
    rw [List.getLast?_eq_getElem?, List.length_take, Nat.min_eq_left hi, List.getElem?_take, if_pos (by omega)]
    exact hp
  simp only [badOrd, this]
theorem tkR (l : List Req) (i : Nat) (h : i ≤ l.length) : (l.map encR).take i = (l.take i).map encR ∧ (l.take i).length = i := by
  simp [List.map_take]; omega
theorem fnT {f : FuncId} {l : List Req} {i : Nat} (hi : i ≤ l.length) {us : List AV} {r : AV} (h : Fn Tryz.prog f (A (l.take i) :: us) r) : Fn Tryz.prog f (.rsl 7 i ((l.map encR).take i) :: us) r := by
  obtain ⟨h1, h2⟩ := tkR l i hi
  rw [h1]
  have : A (l.take i) = .rsl 7 i ((l.take i).map encR) := by rw [A, h2]
  rw [← this]; exact h
theorem c86 (l : List Req) : Fn Tryz.prog 86 [A l] (I (checkE l)) := by
  refine mk86 rfl ⟨fun h => ?_, fun h => ?_⟩
  · simp at h
    exact ⟨rfl, rfl, by rw [checkE_big (by omega)]; rfl⟩
  · simp at h
    rw [checkE_le (by omega)]
    refine ⟨fun n c => ∃ i : Nat, i ≤ l.length ∧ n = l.length - i ∧ c = ⟨[(0, A l), (2, I 0), (8, A l), (9, I l.length), (10, I i)], []⟩ ∧ chk (l.take i) (l.drop i) = chk [] l, ⟨_, _, Wk.keep [0, 2, 8, 9, 10] [], 0, by omega, rfl, rfl, by simp⟩, ?_⟩
    rintro n c ⟨i, hi, rfl, rfl, hI⟩
    refine ⟨fun h => ?_, fun h => ?_⟩
    · simp at h
      obtain ⟨a, ha, hd, ht⟩ := drop_cons h
      rw [hd, chk, ← ht] at hI
      refine ⟨⟨by omega, by omega⟩, encR a, by simp [ha], _, c116 a, fun hf => ?_, fun hf => ?_⟩
      · simp at hf
        rw [show err1 (l.take i) a = 2 by simp [err1, hf]] at hI
        exact ⟨rfl, rfl, by rw [← hI]; rfl⟩
      · simp at hf
        have e1 : err1 (l.take i) a = if badOrd (l.take i) a = true then 5 else if ((a.st == 2) && lentP (l.take i) a.bx) = true then 11 else if (openB a && dblP (l.take i) a.rd a.un) = true then 6 else 0 := by simp [err1, hf]
        by_cases h0 : i = 0
        · subst h0
          have e2 := e1
          rw [if_neg (by simp [badOrd_0])] at e2
          refine ⟨[(2, false)], by simp, fun h => (by cases h), fun h => ?_⟩
          refine ⟨[], ⟨by omega, by omega⟩, _, fnT (i := 0) (by omega) (c117 (l.take 0) (by simp <;> omega) a.bx), fun h2 => ?_, fun h2 => ?_⟩
          · rw [if_pos h2] at e2
            rw [e2] at hI
            exact ⟨rfl, rfl, by rw [← hI]; rfl⟩
          · rw [if_neg (by rw [h2]; simp)] at e2
            refine ⟨[], _, c118 a, ⟨by omega, by omega⟩, _, fnT (i := 0) (by omega) (c119 (l.take 0) (by simp <;> omega) a.rd a.un), fun h3 => ?_, fun h3 => ?_⟩
            · rw [if_pos h3] at e2
              rw [e2] at hI
              exact ⟨rfl, rfl, by rw [← hI]; rfl⟩
            · rw [if_neg (by rw [h3]; simp)] at e2
              rw [e2] at hI
              refine ⟨_, wrap64 (by omega) (by omega), ?_⟩
              exact ⟨_, _, Wk.keep [0, 2, 8, 9, 10] [], by omega, 0 + 1, by omega, rfl, rfl, hI⟩
        · obtain ⟨p, hp⟩ : ∃ p, l[i - 1]? = some p := ⟨l[i-1], by simp⟩
          rw [badOrd_i h0 (by omega) hp] at e1
          have e2 := e1
          refine ⟨[(2, true)], by simp; omega, _, wrap64 (by omega) (by omega), ⟨by omega, by omega⟩, encR p, get_map' hp (by omega), _, wrap64 (by omega) (by omega), ⟨by omega, by omega⟩, encR p, get_map' hp (by omega), fun h => ?_, fun h => ?_⟩
          · rw [if_pos (by simpa using h)] at e2
            rw [e2] at hI
            exact ⟨rfl, rfl, by rw [← hI]; rfl⟩
          · rw [if_neg (by simpa using h)] at e2
            refine ⟨[], ⟨by omega, by omega⟩, _, fnT (i := i) (by omega) (c117 (l.take i) (by simp <;> omega) a.bx), fun h2 => ?_, fun h2 => ?_⟩
            · rw [if_pos h2] at e2
              rw [e2] at hI
              exact ⟨rfl, rfl, by rw [← hI]; rfl⟩
            · rw [if_neg (by rw [h2]; simp)] at e2
              refine ⟨[], _, c118 a, ⟨by omega, by omega⟩, _, fnT (i := i) (by omega) (c119 (l.take i) (by simp <;> omega) a.rd a.un), fun h3 => ?_, fun h3 => ?_⟩
              · rw [if_pos h3] at e2
                rw [e2] at hI
                exact ⟨rfl, rfl, by rw [← hI]; rfl⟩
              · rw [if_neg (by rw [h3]; simp)] at e2
                rw [e2] at hI
                refine ⟨_, wrap64 (by omega) (by omega), ?_⟩
                exact ⟨_, _, Wk.keep [0, 2, 8, 9, 10] [], by omega, i + 1, by omega, rfl, rfl, hI⟩
    · simp at h
      have : i = l.length := by omega
      subst this
      simp [chk] at hI
      exact ⟨rfl, rfl, by rw [← hI]; rfl⟩
theorem check_len {l : List Req} (h : checkE l = 0) : l.length ≤ 256 := by
  by_cases hl : 256 < l.length
  · rw [checkE_big hl] at h; cases h
  · omega
def badP (r : Req) : Bool := !idB r.id || !idB r.rd || !idB r.un || !idB r.bx || !dayB r.dy
def placeN (r : Req) : Req := { r with st := 1, ch := r.dy }
def placeE (l : List Req) (r : Req) : List Req × Int :=
  if checkE l ≠ 0 then ([], 1) else if badP r = true then ([], 2) else if badOrd l r = true then ([], 5) else if dblP l r.rd r.un = true then ([], 6) else if l.length ≥ 256 then ([], 12) else (l ++ [placeN r], 0)
theorem badOrd_last {l : List Req} {p r : Req} (hp : l[l.length - 1]? = some p) : badOrd l r = (decide (r.id ≤ p.id) || decide (r.dy < p.dy)) := by
  simp only [badOrd, List.getLast?_eq_getElem?, hp]
theorem ret_app {l : List Req} {n : Req} : AV.fsl true 168 7 (l ++ [n]).length ((l ++ [n]).map encR) = AV.fsl true 168 7 (l.length + 1) ((l.map encR).take l.length ++ [encR n]) := by
  rw [map_take_all, List.length_append, List.map_append]; rfl
theorem ret_appl {l : List Req} {n : Req} : l.length + 1 = ((l.map encR).take l.length ++ [encR n]).length := by simp
theorem c227 (l : List Req) (r : Req) : Fn Tryz.prog 227 [A l, .agg (encR r)] (.tup [fA (placeE l r).1, I (placeE l r).2]) := by
  refine mk227 rfl ⟨_, c86 l, fun h => ?_, fun h => ?_⟩
  · simp at h
    rw [placeE, if_pos h]
    exact ⟨_, _, rfl, .inr ⟨_, _, _, rfl⟩, rfl, rfl, trivial⟩
  · simp at h
    have hl := check_len h
    rw [placeE, if_neg (by simp [h])]
    refine ⟨[], _, c183 r.id, _, c183 r.rd, _, c183 r.un, _, c183 r.bx, _, c184 r.dy, fun hb => ?_, fun hb => ?_⟩
    · have hb : badP r = true := hb
      rw [if_pos hb]
      exact ⟨_, _, rfl, .inr ⟨_, _, _, rfl⟩, rfl, rfl, trivial⟩
    · have hb : badP r = false := hb
      rw [if_neg (by simp [hb])]
      by_cases h0 : l.length = 0
      · have hl0 : l = [] := List.eq_nil_of_length_eq_zero h0
        subst hl0
        rw [if_neg (by simp [badOrd_0])]
        refine ⟨[(2, false)], by simp, fun h => (by cases h), fun h => ⟨_, c119 [] (by simp) r.rd r.un, fun h => ?_, fun h => ?_⟩⟩
        · cases h
        · rw [if_neg (by simp [dblP]), if_neg (by simp)]
          refine ⟨fun h => (by cases h), fun h => ⟨_, c65 [] (by simp), false, ⟨by decide, by decide⟩, ?_⟩⟩
          exact ⟨_, _, rfl, ⟨_, rfl, rfl, rfl, .inl ⟨rfl, rfl⟩⟩, rfl, rfl, trivial⟩
      · obtain ⟨p, hp⟩ : ∃ p, l[l.length - 1]? = some p := ⟨l[l.length - 1], by simp⟩
        rw [badOrd_last hp]
        refine ⟨[(2, true)], by simp; omega, _, wrap64 (by omega) (by omega), ⟨by omega, by omega⟩, encR p, get_map' hp (by omega), _, wrap64 (by omega) (by omega), ⟨by omega, by omega⟩, encR p, get_map' hp (by omega), fun h => ?_, fun h => ?_⟩
        · rw [if_pos (by simpa using h)]
          exact ⟨_, _, rfl, .inr ⟨_, _, _, rfl⟩, rfl, rfl, trivial⟩
        · rw [if_neg (by simpa using h)]
          refine ⟨_, c119 l (by omega) r.rd r.un, fun h => ?_, fun h => ?_⟩
          · rw [if_pos h]
            exact ⟨_, _, rfl, .inr ⟨_, _, _, rfl⟩, rfl, rfl, trivial⟩
          · rw [if_neg (by simp [h])]
            refine ⟨fun h => ?_, fun h => ?_⟩
            · simp at h
              rw [if_pos (by omega)]
              exact ⟨_, _, rfl, .inr ⟨_, _, _, rfl⟩, rfl, rfl, trivial⟩
            · simp at h
              rw [if_neg (by omega)]
              refine ⟨_, c65 l (by omega), false, ⟨by show (_ + 1) * 56 ≤ _; omega, by omega⟩, ?_⟩
              exact ⟨_, _, rfl, ⟨_, rfl, rfl, ret_appl (l := l) (n := placeN r), .inl ⟨rfl, ret_app⟩⟩, rfl, rfl, trivial⟩
theorem index_get {l : List Req} {n : Int} (h : 0 ≤ indexE l n) : ∃ (i : Nat) (b : Req), l[i]? = some b ∧ b.id = n ∧ indexE l n = i := by
  rcases idxF_spec (fun r : Req => r.id == n) l 0 with ⟨h1, _⟩ | ⟨i, b, h1, h2, h3, _⟩
  · unfold indexE at h; omega
  · exact ⟨i, b, h1, by simpa using h2, by unfold indexE; rw [h3]; simp⟩
/-- what a change of state does -/
def makeE (st : Int) (can : Nat → Bool) (l : List Req) (n d : Int) : List Req × Int :=
  if checkE l ≠ 0 then ([], 1) else if indexE l n < 0 then ([], 7) else match l[(indexE l n).toNat]? with
    | some b => if (decide (d < b.ch) || decide (d > 1048575)) = true then ([], 2) else if can (indexE l n).toNat = false then ([], 11) else (l.set (indexE l n).toNat { b with st := st, ch := d }, 0)
    | none => ([], 7)
theorem map_set' {l : List Req} {i : Nat} {a : Req} : (l.map encR).set i (encR a) = (l.set i a).map encR := by rw [List.map_set]
theorem ret_set {l : List Req} {i : Nat} {b1 b2 : Req} : AV.fsl true 168 7 (l.set i b2).length ((l.set i b2).map encR) = AV.fsl true 168 7 l.length (((l.map encR).set i (encR b1)).set i (encR b2)) := by
  rw [List.set_set, map_set', List.length_set]
theorem len_set {l : List Req} {i : Nat} {b1 b2 : Req} : l.length = (((l.map encR).set i (encR b1)).set i (encR b2)).length := by simp
theorem c297 (st : Int) (can : Nat → Bool) (g : FuncId) (l : List Req) (n d : Int) (hg : ∀ (i : Nat) b, l.length ≤ 256 → l[i]? = some b → Fn Tryz.prog g [A l, I i] (.bool (can i))) :
    Fn Tryz.prog 297 [.agg [I st, .func g []], A l, I n, I d] (.tup [fA (makeE st can l n d).1, I (makeE st can l n d).2]) := by
  refine mk297 rfl ⟨_, c86 l, fun h => ?_, fun h => ?_⟩
  · simp at h
    rw [makeE, if_pos h]
    exact ⟨_, _, rfl, .inr ⟨_, _, _, rfl⟩, rfl, rfl, trivial⟩
  · simp at h
    have hl := check_len h
    rw [makeE, if_neg (by simp [h])]
    refine ⟨_, c347 l (by omega) n, fun h => ?_, fun h => ?_⟩
    · simp at h
      rw [if_pos h]
      exact ⟨_, _, rfl, .inr ⟨_, _, _, rfl⟩, rfl, rfl, trivial⟩
    · simp at h
      rw [if_neg (by omega)]
      obtain ⟨i, b, hb, hbn, hi⟩ := index_get h
      have hil : i < l.length := (List.getElem?_eq_some_iff.1 hb).1
      rw [hi]
      simp only [Int.toNat_natCast, hb]
      refine ⟨[], ⟨by omega, by omega⟩, encR b, get_map hb, fun hf => ?_, fun hf => ?_⟩
      · rw [if_pos hf]
        exact ⟨_, _, rfl, .inr ⟨_, _, _, rfl⟩, rfl, rfl, trivial⟩
      · rw [if_neg (by simp [hf])]
        refine ⟨_, hg i b hl hb, fun hf => ?_, fun hf => ?_⟩
        · simp at hf
          rw [if_pos hf]
          exact ⟨_, _, rfl, .inr ⟨_, _, _, rfl⟩, rfl, rfl, trivial⟩
        · simp at hf
          rw [if_neg (by simp [hf])]
          refine ⟨_, c65 l (by omega), false, ⟨by omega, by omega⟩, encR b, get_map hb, ⟨by omega, by omega⟩, encR { b with st := st }, ?_, ?_⟩
          · show ((l.map encR).set i (encR { b with st := st }))[i]? = _
            simp [hil]
          · exact ⟨_, _, rfl, ⟨_, rfl, rfl, len_set (l := l) (i := i) (b1 := { b with st := st }) (b2 := { b with st := st, ch := d }), .inl ⟨rfl, ret_set (l := l) (i := i) (b1 := { b with st := st }) (b2 := { b with st := st, ch := d })⟩⟩, rfl, rfl, trivial⟩
def canLend (l : List Req) (i : Nat) : Bool := match l[i]? with | some b => (nextE l b.bx == (i : Int)) | none => false
def canSt (l : List Req) (s : Int) (i : Nat) : Bool := match l[i]? with | some b => (b.st == s) | none => false
theorem c295 (l : List Req) (i : Nat) (b : Req) (hl : l.length ≤ 256) (hb : l[i]? = some b) : Fn Tryz.prog 295 [A l, I i] (.bool (canLend l i)) := by
  have hil : i < l.length := (List.getElem?_eq_some_iff.1 hb).1
  refine mk295 rfl ⟨⟨by omega, by omega⟩, encR b, get_map hb, _, c296 l (by omega) b.bx, rfl, rfl, ?_⟩
  simp only [canLend, hb]; rfl
def lendE (l : List Req) (n d : Int) := makeE 2 (canLend l) l n d
def returnE (l : List Req) (n d : Int) := makeE 3 (canSt l 2) l n d
def dropSt : Bool → Int | true => 4 | false => 5
def dropE' (l : List Req) (n d : Int) (f : Bool) := makeE (dropSt f) (canSt l 1) l n d
theorem ret_fs {l : List Req} : l.length = (l.map encR).length := by simp
theorem c233 (l : List Req) (n d : Int) : Fn Tryz.prog 233 [A l, I n, I d] (.tup [fA (lendE l n d).1, I (lendE l n d).2]) :=
  mk233 rfl ⟨_, c297 2 (canLend l) 295 l n d (c295 l), false, _, _, rfl, ⟨_, rfl, rfl, ret_fs, .inl ⟨rfl, rfl⟩⟩, rfl, rfl, trivial⟩
end Go.Abs.Ltop.Rq
end
section
namespace Go.Abs.Ltop.Aw
open Go Go.Abs Go.Proofs
set_option linter.unusedVariables false
set_option maxRecDepth 20000
/-! ### a request is placed -/
theorem c221 (l : List Bx) (hl : l.length ≤ 100000) (hc : ∀ b ∈ l, b.cont.length ≤ 100000) (u : Int) (i : Nat) (k : Int) (b : Bx) (hw : whGo u 0 l = ((i : Int), k)) (hb : l[i]? = some b) (hok : boxE l = 0) :
    Fn Tryz.prog 221 [BS l, I u] (.tup [I b.id, I k, B true]) := by
  have a287 := c287 l hl hc u
  rw [hw] at a287
  have a81 := c81 l (by omega) hc
  rw [hok] at a81
  have hil := (List.getElem?_eq_some_iff.1 hb).1
  have hrow : (l.map encB)[((i : Int)).toNat]? = some (encB b) := by rw [Int.toNat_natCast, List.getElem?_map, hb]; rfl
  refine mk221 rfl ⟨_, a287, [(2, false)], ?_, _, a81, fun h => (by cases h), fun _ => ⟨⟨by omega, by omega⟩, encB b, hrow, _, _, rfl, ⟨rfl, rfl⟩, rfl, rfl, rfl, rfl, trivial⟩⟩
  exact decide_eq_false (by omega)
theorem c226 (u : Us) (n : Nat) (rows : List (List AV)) (e : Ev) (rd un : Int) (g : Bool) (h17 : Fn Tryz.prog 17 [.rsl 3 n rows, .agg (polL u.yr), I rd, I un, I e.day] (.tup [.agg [I rd, I un, I e.day, B g, .nilsl], I 0])) :
    Fn Tryz.prog 226 [.rptr (encD u (.rsl 3 n rows) e) 0, I rd, I un] (B g) :=
  mk226 rfl ⟨_, h17, [(2, true)], rfl, rfl, rfl, rfl⟩
theorem c228a (u : Us) (n : Nat) (rows : List (List AV)) (e : Ev) (qs : List Req) : FnG Tryz.prog 228 [.ovar 18 9, QS qs, I 0] (OD u (.rsl 3 n rows) e) [18] (OD { u with qs := qs } (.rsl 3 n rows) e) (I 0) :=
  mkN228 [] [] rfl (p18 _ _ _) ⟨fun _ => ⟨_, WkP.keep [6] [18], rfl, rfl, rfl⟩, fun h => (by cases h)⟩
theorem c144 (u : Us) (n : Nat) (rows : List (List AV)) (eid kd id rd un : Int) (bx k : Int) (qs : List Req) (h221 : Fn Tryz.prog 221 [BS u.bs, I un] (.tup [I bx, I k, B true]))
    (h17 : Fn Tryz.prog 17 [.rsl 3 n rows, .agg (polL u.yr), I rd, I un, I 0] (.tup [.agg [I rd, I un, I 0, B true, .nilsl], I 0])) (hpl : Rq.placeE u.qs ⟨id, rd, un, bx, 0, 0, 0⟩ = (qs, 0)) :
    FnG Tryz.prog 144 [.ovar 18 0] (OD u (.rsl 3 n rows) ⟨eid, 0, kd, [id, rd, un]⟩) [18] (OD { u with qs := qs } (.rsl 3 n rows) ⟨eid, 0, kd, [id, rd, un]⟩) (I 0) := by
  have a226 := c226 u n rows ⟨eid, 0, kd, [id, rd, un]⟩ rd un true h17
  have a227 := Rq.c227 u.qs ⟨id, rd, un, bx, 0, 0, 0⟩
  rw [hpl] at a227
  refine mkN144 [(8, [6])] [] rfl (p18 _ _ _) ⟨⟨by decide, by simp⟩, [I un], rfl, _, h221, fun h => (by cases h), fun _ => ?_⟩
  refine ⟨⟨by decide, by simp⟩, [I rd], rfl, ⟨by decide, by simp⟩, [I un], rfl, _, a226, fun h => (by cases h), fun _ => ?_⟩
  refine ⟨⟨by decide, by simp⟩, [I id], rfl, ⟨by decide, by simp⟩, [I rd], rfl, ⟨by decide, by simp⟩, [I un], rfl, _, a227, true, ?_⟩
  refine ⟨_, WkP.keep [65, 66, 67, 68, 69, 70] [18], _, I 0, [18], (c228a u n rows ⟨eid, 0, kd, [id, rd, un]⟩ qs).as (by rfl) (by rfl) (by rfl), rfl, ?_⟩
  exact ⟨_, WkP.keep [2] [18], rfl, rfl, rfl⟩
end Go.Abs.Ltop.Aw
end
section
namespace Go.Abs
open Go.RowKit
set_option linter.unusedVariables false
/-! ### a call that looks through a pointer to a pointer -/
def viewC2 (own : Nat → Option OBlk) (u : AV) : Option AV :=
  match u with
  | .ovar b off => view1 own (.ovar b off)
  | u => viewCell own u
def viewCs2 (own : Nat → Option OBlk) : List AV → Option (List AV)
  | [] => some []
  | x :: xs => match viewC2 own x, viewCs2 own xs with
    | some y, some ys => some (y :: ys)
    | _, _ => none
def view2 (own : Nat → Option OBlk) (u : AV) : Option AV :=
  match u with
  | .ovar b off => match own b with
    | some blk => match blk.kd, blk.rows with
      | .any, [row] => match viewCs2 own row with | some r => some (.rptr r off) | none => none
      | _, _ => none
    | none => none
  | u => view1 own u
def views2 (own : Nat → Option OBlk) : List AV → Option (List AV)
  | [] => some []
  | x :: xs => match view2 own x, views2 own xs with
    | some y, some ys => some (y :: ys)
    | _, _ => none
def viewF2 (own : Nat → Option OBlk) (u : AV) : Option AV :=
  match u with
  | .func f caps => match views2 own caps with | some cs => some (.func f cs) | none => none
  | u => view1 own u
def viewFs2 (own : Nat → Option OBlk) : List AV → Option (List AV)
  | [] => some []
  | x :: xs => match viewF2 own x, viewFs2 own xs with
    | some y, some ys => some (y :: ys)
    | _, _ => none
section
variable {P : Program} {E : Env} {K : KM} {c : Cfg} {a : Act} {w : World} {Y : Nat → Prop}
theorem viewC2_sound (hY : ∀ g, Y g → E.XF g ∧ g < E.w0.heap.size) (hs : SRK E K c a w) {u u' : AV} {v : Value} (h : viewC2 (olk c.O) u = some u') (hv : VR w (XX E K c.O) K u v) : VR w Y K0 u' v := by
  unfold viewC2 at h
  split at h
  · exact view1_soundY hY hs h hv
  · exact viewCell_soundY hY hs h hv
theorem viewCs2_at {own : Nat → Option OBlk} : ∀ {us us' : List AV}, viewCs2 own us = some us' → us'.length = us.length ∧ ∀ (j : Nat) u', us'[j]? = some u' → ∃ u, us[j]? = some u ∧ viewC2 own u = some u'
  | [], us', h => by simp [viewCs2] at h; subst h; simp
  | x :: xs, us', h => by
    simp only [viewCs2] at h
    split at h
    · rename_i y ys hy hys
      injection h with h
      subst h
      obtain ⟨h1, h2⟩ := viewCs2_at hys
      refine ⟨by simp [h1], fun j u' hj => ?_⟩
      cases j with
      | zero => simp at hj; subst hj; exact ⟨x, by simp, hy⟩
      | succ j => obtain ⟨u, q1, q2⟩ := h2 j u' (by simpa using hj); exact ⟨u, by simpa using q1, q2⟩
    · cases h
theorem views2_at {own : Nat → Option OBlk} : ∀ {us us' : List AV}, views2 own us = some us' → us'.length = us.length ∧ ∀ (j : Nat) u', us'[j]? = some u' → ∃ u, us[j]? = some u ∧ view2 own u = some u'
  | [], us', h => by simp [views2] at h; subst h; simp
  | x :: xs, us', h => by
    simp only [views2] at h
    split at h
    · rename_i y ys hy hys
      injection h with h
      subst h
      obtain ⟨h1, h2⟩ := views2_at hys
      refine ⟨by simp [h1], fun j u' hj => ?_⟩
      cases j with
      | zero => simp at hj; subst hj; exact ⟨x, by simp, hy⟩
      | succ j => obtain ⟨u, q1, q2⟩ := h2 j u' (by simpa using hj); exact ⟨u, by simpa using q1, q2⟩
    · cases h
theorem viewFs2_at {own : Nat → Option OBlk} : ∀ {us us' : List AV}, viewFs2 own us = some us' → us'.length = us.length ∧ ∀ (j : Nat) u', us'[j]? = some u' → ∃ u, us[j]? = some u ∧ viewF2 own u = some u'
  | [], us', h => by simp [viewFs2] at h; subst h; simp
  | x :: xs, us', h => by
    simp only [viewFs2] at h
    split at h
    · rename_i y ys hy hys
      injection h with h
      subst h
      obtain ⟨h1, h2⟩ := viewFs2_at hys
      refine ⟨by simp [h1], fun j u' hj => ?_⟩
      cases j with
      | zero => simp at hj; subst hj; exact ⟨x, by simp, hy⟩
      | succ j => obtain ⟨u, q1, q2⟩ := h2 j u' (by simpa using hj); exact ⟨u, by simpa using q1, q2⟩
    · cases h
theorem view2_sound (hY : ∀ g, Y g → E.XF g ∧ g < E.w0.heap.size) (hs : SRK E K c a w) {u u' : AV} {v : Value} (h : view2 (olk c.O) u = some u') (hv : VR w (XX E K c.O) K u v) : VR w Y K0 u' v := by
  unfold view2 at h
  split at h
  · rename_i b off
    split at h
    · rename_i blk hb
      split at h
      · rename_i row hkd hrow
        split at h
        · rename_i r' hr'
          injection h with h
          subst h
          obtain ⟨g, hK, rfl⟩ := VR.ovar_inv hv
          rcases hs.own b blk hb with ⟨k1, k2⟩ | ⟨g', k1, hblk⟩
          · rw [show blkOf K b = none from by simp [blkOf, k1]] at hK; cases hK
          · have hlt := hs.live_lt (by simp [hb]) hK
            rw [blkOf_of k1] at hK; injection hK with hK; subst hK
            have hrr := hblk.row (by rw [hkd]; simp) (hs.rows b blk hb) (i := 0) (row := row) (by rw [hrow]; rfl)
            simp only [Nat.zero_mul] at hrr
            obtain ⟨cs, c1, c2, c3, c4⟩ := hrr.list
            obtain ⟨v1, v2⟩ := viewCs2_at hr'
            have := VR.rptr (w := w) (X := Y) (K := K0) (xs := r') (off := off) (g := g') (o := 0) (cs := cs) (by rw [c1, v1]) c3 hlt (hs.notY hY (by simp [hb]) (blkOf_of k1)) c2
              (fun j u x hu hx => by
                obtain ⟨u0, q1, q2⟩ := v2 j u hu
                exact viewC2_sound hY hs q2 (c4 j u0 x q1 hx))
            simpa using this
        · cases h
      · cases h
    · cases h
  · exact view1_soundY hY hs h hv
theorem viewF2_sound (hY : ∀ g, Y g → E.XF g ∧ g < E.w0.heap.size) (hs : SRK E K c a w) {u u' : AV} {v : Value} (h : viewF2 (olk c.O) u = some u') (hv : VR w (XX E K c.O) K u v) : VR w Y K0 u' v := by
  unfold viewF2 at h
  split at h
  · rename_i f caps
    split at h
    · rename_i cs hcs
      injection h with h
      subst h
      obtain ⟨vs, rfl, hl, hvv⟩ := VR.func_inv hv
      obtain ⟨h1, h2⟩ := views2_at hcs
      refine .func (by rw [h1, hl]) fun j u x hu hx => ?_
      obtain ⟨u0, q1, q2⟩ := h2 j u hu
      exact view2_sound hY hs q2 (hvv j u0 x q1 hx)
    · cases h
  · exact view1_soundY hY hs h hv
theorem opx_call2 {N : Nat} {ps : List Nat} {ops : Array Oper} {p : Nat} {o : Oper} {cl : Call} {f : Operand} {g : Nat} {caps us : List AV} {r : AV} (ho : ops[p]? = some o) (hop : o.op = .call cl) (hcal : cl.callee = .value f) (hg : noGuard o = true) (hf : opv c f = .func g caps)
    (hv : viewFs2 (olk c.O) (cl.args.toList.map (opv c) ++ caps) = some us) (hno : noOptL (cl.args.toList.map (opv c) ++ caps) = true) (hfn : Fn P g us r) (hr : r.scalar = true) (hd : dstOK N c o.dst = true) : OpX P N ps ops p c (fun c' => c' = ⟨putF o.dst r c.fr, c.O⟩) := by
  rintro E a w Q hN hp ⟨K, hs⟩
  have hg' : o.guard = none := by unfold noGuard at hg; split at hg <;> first | assumption | cases hg
  obtain ⟨⟨fn, hfn1, hname, hbody⟩, hfun⟩ := hfn
  obtain ⟨callee, args, ts⟩ := cl
  simp only at hcal hv hno
  subst hcal
  have hval := opv_vals hs
  obtain ⟨cv, ef, cl', cvv⟩ := VR.func_inv (hval.at hf)
  obtain ⟨ml, mv⟩ := map_vals hval args
  unfold wpOp
  rw [ho]
  simp only
  rw [if_pos (wanted_no' hg')]
  left
  unfold Oper.wp
  have hrun : (execOp a.eval o).run P w = .ok (.enter g (args.map a.eval ++ cv)) w := by
    simp only [execOp, hop, resolve, ef, Deferred.ofValue, Sem.run_bind, Sem.run_pure, Result.andThen_ok, invoke, callFunc, run_program]
    simp [hfn1, hname, hbody]
  rw [hrun, Oper.upon_enter]
  obtain ⟨hl, hat⟩ := viewFs2_at hv
  have hY : ∀ g, (E.XF g ∧ g < E.w0.heap.size) → E.XF g ∧ g < E.w0.heap.size := fun _ h => h
  refine (hfun (fun g => E.XF g ∧ g < E.w0.heap.size) w _ (E.hwi w hs.ext) (by rw [hl]; simp [cl']) fun j u v hu hv => ?_).mono ?_
  · obtain ⟨u0, q1, q2⟩ := hat j u hu
    have hnu := noOptL_get hno u0 (List.mem_of_getElem? q1)
    refine viewF2_sound hY hs q2 ?_
    have hasl : (args.toList.map (opv c)).length = (args.map a.eval).size := by simp
    rcases Nat.lt_or_ge j (args.toList.map (opv c)).length with hlt | hge
    · rw [List.getElem?_append_left hlt] at q1
      rw [Array.getElem?_append_left (by omega)] at hv
      exact FV.vr (mv j u0 v q1 (by simpa using hv)) hnu
    · rw [List.getElem?_append_right hge] at q1
      rw [Array.getElem?_append_right (by omega)] at hv
      rw [hasl] at q1
      exact cvv _ u0 v q1 hv
  · rintro e w' ⟨v, rfl, hrv, hb⟩
    have hrv' : VR w' (XX E K c.O) K r v := by
      cases r <;> first | (cases hr; done) | exact scalar_any rfl hrv
    exact ⟨_, rfl, K, (hs.move (step_below hb)).put (dst := o.dst) (u := r) (v := v) (by rw [hN]; exact hd) fun _ _ => FV.of hrv'⟩
end
end Go.Abs
end
section
namespace Go.Abs.Ltop.Aw
open Go Go.Abs Go.Proofs
set_option linter.unusedVariables false
set_option maxRecDepth 20000
/-! ### a box is lent -/
theorem c293 (r : Req) (n : Int) : Fn Tryz.prog 293 [.agg (encR r), .rptr [I n] 0] (B (r.id == n)) := mk293 rfl ⟨rfl, rfl, rfl⟩
theorem c229 (u : Us) (n : Nat) (rows : List (List AV)) (e : Ev) (k : Int) (hq : u.qs.length ≤ 100000) (j : Nat) (r : Req) (hj : idxF (fun r : Req => r.id == k) 0 u.qs = j) (hr : u.qs[j]? = some r) :
    Fn Tryz.prog 229 [.rptr (encD u (.rsl 3 n rows) e) 0, I k] (.tup [.agg (encR r), B true]) := by
  have a264 := c264a u.qs (by omega) (fun r => r.id == k) 293 [I k] (fun r _ => c293 r k)
  rw [hj] at a264
  have hjl := (List.getElem?_eq_some_iff.1 hr).1
  have hrow : (u.qs.map encR)[((j : Int)).toNat]? = some (encR r) := by rw [Int.toNat_natCast, List.getElem?_map, hr]; rfl
  refine mk229 rfl ⟨_, a264, fun h => ?_, fun _ => ⟨⟨by omega, by omega⟩, encR r, hrow, _, _, rfl, ⟨rfl, rfl⟩, rfl, rfl, trivial⟩⟩
  have := of_decide_eq_true h; omega
def bkB (r : Req) (d : Int) (k : Bk) : Bool := (k.rd == r.rd) && decide (k.frm ≤ d) && decide (d < k.unt)
theorem c230 (k : Bk) (r : Req) (d : Int) : Fn Tryz.prog 230 [.agg (encK k), .rptr (encR r) 0, .rptr [I d] 0] (B (bkB r d k)) := mk230 rfl ⟨[], rfl, rfl, rfl⟩
theorem c231 (u : Us) (n : Nat) (rows : List (List AV)) (e : Ev) (r : Req) (c : Ct) (g : Bool) (h17 : Fn Tryz.prog 17 [.rsl 3 n rows, .agg (polL u.yr), I r.rd, I c.unit, I e.day] (.tup [.agg [I r.rd, I c.unit, I e.day, B g, .nilsl], I 0])) :
    Fn Tryz.prog 231 [.agg (encC c), .rptr [.rptr (encD u (.rsl 3 n rows) e) 0] 0, .rptr (encR r) 0] (B (!g)) :=
  mk231 rfl ⟨_, c226 u n rows e r.rd c.unit g h17, rfl, rfl, rfl⟩
theorem c263b (l : List Ct) (hl : l.length ≤ 9223372036854775807) (p : Ct → Bool) (g : FuncId) (xs ys : List AV) (hp : ∀ a ∈ l, Fn Tryz.prog g [.agg (encC a), .rptr xs 0, .rptr ys 0] (B (p a))) : Fn Tryz.prog 263 [CS l, .func g [.rptr xs 0, .rptr ys 0]] (I (idxF p 0 l)) := by
  refine mk263 rfl ?_
  refine ⟨fun n c => ∃ i : Nat, i ≤ l.length ∧ n = l.length - i ∧ c = ⟨[(0, CS l), (1, .func g [.rptr xs 0, .rptr ys 0]), (4, I 0), (7, I l.length), (8, I i)], []⟩ ∧ idxF p i (l.drop i) = idxF p 0 l, ⟨_, _, Wk.keep [0, 1, 4, 7, 8] [], 0, by omega, rfl, rfl, by simp⟩, ?_⟩
  rintro n c ⟨i, hi, rfl, rfl, hI⟩
  refine ⟨fun h => ?_, fun h => ?_⟩
  · simp at h
    obtain ⟨a, ha, hd, _⟩ := drop_cons h
    rw [hd, idxF] at hI
    refine ⟨⟨by omega, by omega⟩, encC a, by simp [ha], _, hp a (List.mem_of_getElem? ha), fun hf => ?_, fun hf => ?_⟩
    · rw [if_pos hf] at hI
      exact ⟨rfl, rfl, by rw [← hI]; rfl⟩
    · rw [if_neg (by simp [hf])] at hI
      refine ⟨_, wrap64 (by omega) (by omega), ?_⟩
      exact ⟨_, _, Wk.keep [0, 1, 4, 7, 8] [], by omega, i + 1, by omega, rfl, rfl, hI⟩
  · simp at h
    have : i = l.length := by omega
    subst this
    simp [idxF] at hI
    exact ⟨rfl, rfl, by rw [← hI]; rfl⟩
theorem c179b (l : List Ct) (hl : l.length ≤ 9223372036854775807) (p : Ct → Bool) (g : FuncId) (xs ys : List AV) (hp : ∀ a ∈ l, Fn Tryz.prog g [.agg (encC a), .rptr xs 0, .rptr ys 0] (B (p a))) : Fn Tryz.prog 179 [CS l, .func g [.rptr xs 0, .rptr ys 0]] (B (l.any p)) :=
  mk179 rfl ⟨_, c263b l hl p g xs ys hp, rfl, rfl, by rw [← idxF_any]; rfl⟩
theorem c232b (l : List Bk) (hl : l.length ≤ 9223372036854775807) (p : Bk → Bool) (g : FuncId) (xs ys : List AV) (hp : ∀ a ∈ l, Fn Tryz.prog g [.agg (encK a), .rptr xs 0, .rptr ys 0] (B (p a))) : Fn Tryz.prog 232 [KS l, .func g [.rptr xs 0, .rptr ys 0]] (B (l.any p)) :=
  mk232 rfl ⟨_, c294b l hl p g xs ys hp, rfl, rfl, by rw [← idxF_any]; rfl⟩
abbrev encU7 (u : Us) (sh : List (List AV)) : List AV := [Zs 5, Zs 6, Zs 6, I u.yr, Zs 6, Zs 6, BS u.bs, SS u.ls, MS u.ms, QS u.qs, I u.seats, KS u.ks, Zs 8, Zs 2, .rsl 3 1 sh, I u.ch]
set_option maxHeartbeats 4000000 in
theorem c145 (u : Us) (n : Nat) (rows : List (List AV)) (eid kd : Int) (hm : MsOK u.ms) (hb : u.bs.length ≤ 1000) (hq : u.qs.length ≤ 1000) (hk : u.ks.length ≤ 1000) (j : Nat) (r : Req) (rid : Int) (hj : idxF (fun r : Req => r.id == rid) 0 u.qs = j) (hr : u.qs[j]? = some r) (hrid : r.id = rid)
    (i : Nat) (b : Bx) (c : Ct) (hbi : bxI u.bs r.bx = i) (hbb : u.bs[i]? = some b) (hc : b.cont = [c]) (hid : isId r.bx = true)
    (h17 : Fn Tryz.prog 17 [.rsl 3 n rows, .agg (polL u.yr), I r.rd, I c.unit, I 0] (.tup [.agg [I r.rd, I c.unit, I 0, B true, .nilsl], I 0])) (hbk : u.ks.any (bkB r 0) = true) (hpl : (placeE u.ms r.bx).1 ≠ 0)
    (qs' : List Req) (hle : Rq.lendE u.qs rid 0 = (qs', 0)) (happ : appE u.ms (mvAt u ⟨eid, 0, kd, [rid]⟩ r.bx 3 r.rd) = 0) :
    FnG Tryz.prog 145 [.ovar 18 0] (OD u (.rsl 3 n rows) ⟨eid, 0, kd, [rid]⟩) [18] (OD1 (encU7 { u with ms := u.ms ++ [mvAt u ⟨eid, 0, kd, [rid]⟩ r.bx 3 r.rd], qs := qs' } [[I r.rd, I c.unit, I 0]]) (.rsl 3 n rows) ⟨eid, 0, kd, [rid]⟩) (I 0) := by
  have a229 := c229 u n rows ⟨eid, 0, kd, [rid]⟩ rid (by omega) j r hj hr
  have a56 := c56 u (by omega) r.bx
  rw [hbi] at a56
  have a231 := c231 u n rows ⟨eid, 0, kd, [rid]⟩ r c true h17
  have hil := (List.getElem?_eq_some_iff.1 hbb).1
  have hrow : (u.bs.map encB)[((i : Int)).toNat]? = some (encB b) := by rw [Int.toNat_natCast, List.getElem?_map, hbb]; rfl
  have hrow' : encB b = [I b.id, I b.width, I b.room, I b.clim, CS [c]] := by unfold encB; rw [hc]
  rw [hrow'] at hrow
  refine mkN145 [(10, [2, 2, 2]), (19, [6])] [] rfl (p18 _ _ _) ⟨⟨by decide, by simp⟩, [I rid], rfl, _, a229, fun h => (by cases h), fun _ => ?_⟩
  refine ⟨_, a56, fun _ => ?_, fun h => ?_⟩
  case _ =>
    refine ⟨⟨by omega, by omega⟩, _, hrow, ?_⟩
    have a179 := c179b [c] (by simp) (fun _ => false) 231 [.rptr (encD u (.rsl 3 n rows) ⟨eid, 0, kd, [rid]⟩) 0] (encR r) (fun x hx => by rw [List.mem_singleton.1 hx]; exact a231)
    refine ⟨rfl, ⟨[(1, .ovar 16 0), (2, I 0), (3, .ovar 48 0), (5, CS [c]), (7, .ovar 112 0), (8, .func 230 [.ovar 48 0, .ovar 112 0]), (53, CS [c]), (54, .func 231 [.ovar 16 0, .ovar 48 0])], [(18, ⟨142, 22, .any, [encD u (.rsl 3 n rows) ⟨eid, 0, kd, [rid]⟩], []⟩), (16, ⟨140, 1, .any, [[.ovar 18 0]], []⟩), (48, ⟨168, 7, .any, [encR r], []⟩), (112, ⟨3, 1, .any, [[I 0]], []⟩)]⟩, WkP.keep [1, 2, 3, 5, 7, 8, 53, 54] [18, 16, 48, 112], _, opx_call2 rfl rfl rfl rfl rfl rfl rfl a179 rfl rfl, ?_⟩
    rintro c3 rfl
    have a232 := c232b u.ks (by omega) (bkB r 0) 230 (encR r) [I 0] (fun k _ => c230 k r 0)
    rw [hbk] at a232
    have a57 := c57 u hm r.bx hid
    have g57 : ((placeE u.ms r.bx).1 == 0) = false := by simpa using hpl
    have a233 := Rq.c233 u.qs rid 0
    rw [hle] at a233
    refine ⟨fun h => (by cases h), fun _ => ⟨_, a232, fun h => (by cases h), fun _ => ⟨_, a57, fun h => absurd (show ((placeE u.ms r.bx).1 == 0) = true from h) (by rw [g57]; decide), fun _ => ?_⟩⟩⟩
    rw [← hrid] at a233
    refine ⟨_, a233, true, fun h => (by cases h), fun _ => ?_⟩
    have a225 := c225 u n rows ⟨eid, 0, kd, [rid]⟩ hm r.bx hid 3 r.rd
    have hcar : carU u (mvAt u ⟨eid, 0, kd, [rid]⟩ r.bx 3 r.rd) = { u with ms := u.ms ++ [mvAt u ⟨eid, 0, kd, [rid]⟩ r.bx 3 r.rd] } := by unfold carU; rw [if_pos happ]
    rw [hcar, happ] at a225
    have fr := a225.frame (R := [(16, ⟨140, 1, .any, [[.ovar 18 0]], []⟩), (48, ⟨168, 7, .any, [encR r], []⟩), (112, ⟨3, 1, .any, [[I 0]], []⟩)]) rfl rfl rfl rfl rfl
    generalize mvAt u ⟨eid, 0, kd, [rid]⟩ r.bx 3 r.rd = mv at *
    refine ⟨_, WkP.keep [1, 2, 3, 5, 7, 9, 90, 92, 95] [18, 16, 48, 112], _, I 0, [18, 16, 48, 112], fr.as (by rfl) (by rfl) (by rfl), rfl, fun h => (by cases h), fun _ => ?_⟩
    refine ⟨1, rfl, fun h => absurd h (by decide), fun _ => ?_⟩
    refine ⟨fun m c' => (m = 1 ∧ c' = ⟨[(1, .ovar 16 0), (2, I 0), (3, .ovar 48 0), (7, .ovar 112 0), (115, CS [c]), (116, I 1), (117, I 0)], [(18, ⟨142, 22, .any, [encD { u with ms := u.ms ++ [mv], qs := qs' } (.rsl 3 n rows) ⟨eid, 0, kd, [rid]⟩], []⟩), (16, ⟨140, 1, .any, [[.ovar 18 0]], []⟩), (48, ⟨168, 7, .any, [encR r], []⟩), (112, ⟨3, 1, .any, [[I 0]], []⟩)]⟩) ∨
        (m = 0 ∧ c' = ⟨[(2, I 0), (115, CS [c]), (116, I 1), (117, I 1)], [(18, ⟨142, 22, .any, [encD1 [Zs 5, Zs 6, Zs 6, I u.yr, Zs 6, Zs 6, BS u.bs, SS u.ls, MS (u.ms ++ [mv]), QS qs', I u.seats, KS u.ks, Zs 8, Zs 2, .osl 2144 3 1, I u.ch] (.rsl 3 n rows) ⟨eid, 0, kd, [rid]⟩], []⟩), (2144, ⟨178, 3, .pure, [[I r.rd, I c.unit, I 0]], []⟩)]⟩),
      ⟨_, _, WkP.keep [1, 2, 3, 7, 115, 116, 117] [18, 16, 48, 112], .inl ⟨rfl, rfl⟩⟩, ?_⟩
    rintro m c' (⟨rfl, rfl⟩ | ⟨rfl, rfl⟩)
    · refine ⟨fun _ => ?_, fun h => absurd h (by decide)⟩
      refine ⟨⟨by decide, by simp⟩, encC c, rfl, ⟨by decide, by decide⟩, true, ?_⟩
      refine ⟨1, rfl, ?_⟩
      exact ⟨_, _, WkP.keep [2, 115, 116, 117] [18, 2144], by omega, .inr ⟨rfl, rfl⟩⟩
    · refine ⟨fun h => absurd h (by decide), fun _ => ?_⟩
      exact ⟨_, (WkP.frz 2144 ⟨178, 3, .pure, [[I r.rd, I c.unit, I 0]], []⟩ rfl rfl).trans (WkP.keep [2] [18]), rfl, rfl, rfl⟩
  case _ =>
    have := of_decide_eq_false h; omega
end Go.Abs.Ltop.Aw
end
section
namespace Go.Abs.Ltop.Aw
open Go Go.Abs Go.Proofs
set_option linter.unusedVariables false
set_option maxRecDepth 20000
/-! ### the steps of the example -/
abbrev b0 : Bx := ⟨1, 100, 90, 0, []⟩
abbrev s0 : Sh := ⟨5, 1, 150, 0⟩
abbrev k0 : Ct := ⟨7, 20⟩
abbrev b1 : Bx := ⟨1, 100, 90, 0, [⟨7, 20⟩]⟩
abbrev m0 : Mv := ⟨0, 1, 0, 0, 1, 5⟩
abbrev m1 : Mv := ⟨0, 1, 1, 5, 3, 3⟩
abbrev kk0 : Bk := ⟨1, 3, 0, 10⟩
abbrev q0 : Req := ⟨1, 3, 7, 1, 0, 1, 0⟩
abbrev q1 : Req := ⟨1, 3, 7, 1, 0, 2, 0⟩
abbrev u3 : Us := ⟨30, [b1], [s0], [], [], 2, [], 0⟩
abbrev u4 : Us := ⟨30, [b1], [s0], [m0], [], 2, [], 0⟩
abbrev u5 : Us := ⟨30, [b1], [s0], [m0], [], 2, [kk0], 0⟩
abbrev u6 : Us := ⟨30, [b1], [s0], [m0], [q0], 2, [kk0], 0⟩
abbrev u7 : Us := ⟨30, [b1], [s0], [m0, m1], [q1], 2, [kk0], 0⟩
abbrev ev1 : Ev := ⟨1, 0, 48, [1, 100, 90, 0]⟩
abbrev ev2 : Ev := ⟨2, 0, 51, [5, 1, 150, 0]⟩
abbrev ev3 : Ev := ⟨3, 0, 49, [1, 0, 7, 20]⟩
abbrev ev4 : Ev := ⟨4, 0, 52, [1, 1, 5]⟩
abbrev ev5 : Ev := ⟨5, 0, 56, [1, 3, 0, 10]⟩
abbrev ev6 : Ev := ⟨6, 0, 53, [1, 3, 7]⟩
abbrev ev7 : Ev := ⟨7, 0, 54, [1]⟩
abbrev RW : List (List AV) := exW.map encW
theorem a17 : Fn Tryz.prog 17 [.rsl 3 1 RW, .agg (polL 30), I 3, I 7, I 0] (.tup [.agg [I 3, I 7, I 0, B true, .nilsl], I 0]) := ex_17 30 0 3 (by decide) (by decide) (by decide) (by decide) rfl
theorem h1 : FnG Tryz.prog 139 [.ovar 18 0] (OD1 (encU1 30 2) (.rsl 3 1 RW) ev1) [18] (OD1 (encU1' 30 2 b0) (.rsl 3 1 RW) ev1) (I 0) := c139 30 2 1 RW 1 48 b0 rfl (by decide)
theorem h2 : FnG Tryz.prog 142 [.ovar 18 0] (OD1 (encU1' 30 2 b0) (.rsl 3 1 RW) ev2) [18] (OD1 (encU3 30 2 b0 s0) (.rsl 3 1 RW) ev2) (I 0) := c142 30 2 b0 1 RW 2 51 s0 (by decide)
theorem h3 : FnG Tryz.prog 140 [.ovar 18 0] (OD1 (encU3 30 2 b0 s0) (.rsl 3 1 RW) ev3) [18] (OD1 (encU u3) (.rsl 3 1 RW) ev3) (I 0) := c140 30 2 b0 s0 rfl rfl (by decide) k0 rfl (by decide) 1 RW 3 49
theorem ms0 : MsOK [m0] := ⟨by decide, by decide, by decide⟩
theorem h4 : FnG Tryz.prog 143 [.ovar 18 0] (OD u3 (.rsl 3 1 RW) ev4) [18] (OD u4 (.rsl 3 1 RW) ev4) (I 0) := by
  have h := c143 u3 1 RW 4 0 52 ms_nil (by decide) (by decide) (by decide) 0 0 b1 s0 rfl rfl rfl rfl (by decide)
  have e1 : movE u3 ⟨4, 0, 52, [1, 1, 5]⟩ s0 b1 = 0 := by decide
  have e2 : movU u3 ⟨4, 0, 52, [1, 1, 5]⟩ s0 b1 = u4 := by unfold movU; rw [if_pos e1]; rfl
  rw [e1, e2] at h
  exact h
theorem h5 : FnG Tryz.prog 147 [.ovar 18 0] (OD u4 (.rsl 3 1 RW) ev5) [18] (OD u5 (.rsl 3 1 RW) ev5) (I 0) := c147 u4 1 RW 5 56 1 3 0 10 rfl (by decide) (by decide) rfl rfl (by decide) (by decide)
theorem h6 : FnG Tryz.prog 144 [.ovar 18 0] (OD u5 (.rsl 3 1 RW) ev6) [18] (OD u6 (.rsl 3 1 RW) ev6) (I 0) :=
  c144 u5 1 RW 6 53 1 3 7 1 0 [q0] (c221 [b1] (by decide) (by decide) 7 0 0 b1 (by decide) rfl (by decide)) a17 (by decide)
theorem h7 : FnG Tryz.prog 145 [.ovar 18 0] (OD u6 (.rsl 3 1 RW) ev7) [18] (OD1 (encU7 u7 [[I 3, I 7, I 0]]) (.rsl 3 1 RW) ev7) (I 0) :=
  c145 u6 1 RW 7 54 ms0 (by decide) (by decide) (by decide) 0 q0 1 (by decide) rfl rfl 0 b1 k0 (by decide) rfl rfl rfl a17 (by decide) (by decide) [q1] (by decide) (by decide)
end Go.Abs.Ltop.Aw
end
section
namespace Go.Abs.Ltop.Aw
open Go Go.Abs Go.Proofs
set_option linter.unusedVariables false
set_option maxRecDepth 20000
theorem k1 : Fn Tryz.prog 28 [.agg (encU1 30 2), .rsl 3 1 RW, .agg (encEv ev1)] (.tup [.agg (encU1' 30 2 b0), I 0]) := by
  have a55 := c55 ev1 4 139 rfl rfl (by decide)
  have a32 := c32a 30 2
  have fr := h1.frame (R := [(80, ⟨60, 5, .any, [encEv ev1], []⟩), (96, ⟨42, 16, .any, [zU], []⟩)]) rfl rfl rfl rfl rfl
  refine mkG28 [(9, [3])] [] rfl ⟨_, a55, fun h => (by cases h), fun _ => ⟨fun h => (by cases h), fun _ => ⟨fun h => (by cases h), fun _ => ⟨_, a32, ?_⟩⟩⟩⟩
  refine ⟨_, WkP.kr [5, 6, 7, 10, 40, 41] [608, 80, 96] [(608, 18)] rfl rfl rfl rfl, _, I 0, [18, 80, 96], fr.as (by rfl) (by rfl) (by rfl), rfl, fun h => (by cases h), fun _ => ?_⟩
  exact ⟨_, WkP.refl _ _, _, _, rfl, ⟨rfl, rfl⟩, rfl, rfl, trivial⟩
theorem k2 : Fn Tryz.prog 28 [.agg (encU1' 30 2 b0), .rsl 3 1 RW, .agg (encEv ev2)] (.tup [.agg (encU3 30 2 b0 s0), I 0]) := by
  have a55 := c55 ev2 4 142 rfl rfl (by decide)
  have a32 := c32b 30 2 b0
  have fr := h2.frame (R := [(80, ⟨60, 5, .any, [encEv ev2], []⟩), (96, ⟨42, 16, .any, [zU], []⟩)]) rfl rfl rfl rfl rfl
  refine mkG28 [(9, [3])] [] rfl ⟨_, a55, fun h => (by cases h), fun _ => ⟨fun h => (by cases h), fun _ => ⟨fun h => (by cases h), fun _ => ⟨_, a32, ?_⟩⟩⟩⟩
  refine ⟨_, WkP.kr [5, 6, 7, 10, 40, 41] [608, 80, 96] [(608, 18)] rfl rfl rfl rfl, _, I 0, [18, 80, 96], fr.as (by rfl) (by rfl) (by rfl), rfl, fun h => (by cases h), fun _ => ?_⟩
  exact ⟨_, WkP.refl _ _, _, _, rfl, ⟨rfl, rfl⟩, rfl, rfl, trivial⟩
theorem k3 : Fn Tryz.prog 28 [.agg (encU3 30 2 b0 s0), .rsl 3 1 RW, .agg (encEv ev3)] (.tup [.agg (encU u3), I 0]) := by
  have a55 := c55 ev3 4 140 rfl rfl (by decide)
  have a32 := c32c 30 2 b0 s0
  have fr := h3.frame (R := [(80, ⟨60, 5, .any, [encEv ev3], []⟩), (96, ⟨42, 16, .any, [zU], []⟩)]) rfl rfl rfl rfl rfl
  refine mkG28 [(9, [3])] [] rfl ⟨_, a55, fun h => (by cases h), fun _ => ⟨fun h => (by cases h), fun _ => ⟨fun h => (by cases h), fun _ => ⟨_, a32, ?_⟩⟩⟩⟩
  refine ⟨_, WkP.kr [5, 6, 7, 10, 40, 41] [608, 80, 96] [(608, 18)] rfl rfl rfl rfl, _, I 0, [18, 80, 96], fr.as (by rfl) (by rfl) (by rfl), rfl, fun h => (by cases h), fun _ => ?_⟩
  exact ⟨_, WkP.refl _ _, _, _, rfl, ⟨rfl, rfl⟩, rfl, rfl, trivial⟩
theorem k4 : Fn Tryz.prog 28 [.agg (encU u3), .rsl 3 1 RW, .agg (encEv ev4)] (.tup [.agg (encU u4), I 0]) := by
  have a55 := c55 ev4 3 143 rfl rfl (by decide)
  have a32 := c32 u3 (by decide) (by decide) (by decide) (by decide) (by decide) (by decide)
  have fr := h4.frame (R := [(80, ⟨60, 5, .any, [encEv ev4], []⟩), (96, ⟨42, 16, .any, [zU], []⟩)]) rfl rfl rfl rfl rfl
  refine mkG28 [(9, [3])] [] rfl ⟨_, a55, fun h => (by cases h), fun _ => ⟨fun h => (by cases h), fun _ => ⟨fun h => (by cases h), fun _ => ⟨_, a32, ?_⟩⟩⟩⟩
  refine ⟨_, WkP.kr [5, 6, 7, 10, 40, 41] [608, 80, 96] [(608, 18)] rfl rfl rfl rfl, _, I 0, [18, 80, 96], fr.as (by rfl) (by rfl) (by rfl), rfl, fun h => (by cases h), fun _ => ?_⟩
  exact ⟨_, WkP.refl _ _, _, _, rfl, ⟨rfl, rfl⟩, rfl, rfl, trivial⟩
theorem k5 : Fn Tryz.prog 28 [.agg (encU u4), .rsl 3 1 RW, .agg (encEv ev5)] (.tup [.agg (encU u5), I 0]) := by
  have a55 := c55 ev5 4 147 rfl rfl (by decide)
  have a32 := c32 u4 (by decide) (by decide) (by decide) (by decide) (by decide) (by decide)
  have fr := h5.frame (R := [(80, ⟨60, 5, .any, [encEv ev5], []⟩), (96, ⟨42, 16, .any, [zU], []⟩)]) rfl rfl rfl rfl rfl
  refine mkG28 [(9, [3])] [] rfl ⟨_, a55, fun h => (by cases h), fun _ => ⟨fun h => (by cases h), fun _ => ⟨fun h => (by cases h), fun _ => ⟨_, a32, ?_⟩⟩⟩⟩
  refine ⟨_, WkP.kr [5, 6, 7, 10, 40, 41] [608, 80, 96] [(608, 18)] rfl rfl rfl rfl, _, I 0, [18, 80, 96], fr.as (by rfl) (by rfl) (by rfl), rfl, fun h => (by cases h), fun _ => ?_⟩
  exact ⟨_, WkP.refl _ _, _, _, rfl, ⟨rfl, rfl⟩, rfl, rfl, trivial⟩
theorem k6 : Fn Tryz.prog 28 [.agg (encU u5), .rsl 3 1 RW, .agg (encEv ev6)] (.tup [.agg (encU u6), I 0]) := by
  have a55 := c55 ev6 3 144 rfl rfl (by decide)
  have a32 := c32 u5 (by decide) (by decide) (by decide) (by decide) (by decide) (by decide)
  have fr := h6.frame (R := [(80, ⟨60, 5, .any, [encEv ev6], []⟩), (96, ⟨42, 16, .any, [zU], []⟩)]) rfl rfl rfl rfl rfl
  refine mkG28 [(9, [3])] [] rfl ⟨_, a55, fun h => (by cases h), fun _ => ⟨fun h => (by cases h), fun _ => ⟨fun h => (by cases h), fun _ => ⟨_, a32, ?_⟩⟩⟩⟩
  refine ⟨_, WkP.kr [5, 6, 7, 10, 40, 41] [608, 80, 96] [(608, 18)] rfl rfl rfl rfl, _, I 0, [18, 80, 96], fr.as (by rfl) (by rfl) (by rfl), rfl, fun h => (by cases h), fun _ => ?_⟩
  exact ⟨_, WkP.refl _ _, _, _, rfl, ⟨rfl, rfl⟩, rfl, rfl, trivial⟩
theorem k7 : Fn Tryz.prog 28 [.agg (encU u6), .rsl 3 1 RW, .agg (encEv ev7)] (.tup [.agg (encU7 u7 [[I 3, I 7, I 0]]), I 0]) := by
  have a55 := c55 ev7 1 145 rfl rfl (by decide)
  have a32 := c32 u6 (by decide) (by decide) (by decide) (by decide) (by decide) (by decide)
  have fr := h7.frame (R := [(80, ⟨60, 5, .any, [encEv ev7], []⟩), (96, ⟨42, 16, .any, [zU], []⟩)]) rfl rfl rfl rfl rfl
  refine mkG28 [(9, [3])] [] rfl ⟨_, a55, fun h => (by cases h), fun _ => ⟨fun h => (by cases h), fun _ => ⟨fun h => (by cases h), fun _ => ⟨_, a32, ?_⟩⟩⟩⟩
  refine ⟨_, WkP.kr [5, 6, 7, 10, 40, 41] [608, 80, 96] [(608, 18)] rfl rfl rfl rfl, _, I 0, [18, 80, 96], fr.as (by rfl) (by rfl) (by rfl), rfl, fun h => (by cases h), fun _ => ?_⟩
  exact ⟨_, WkP.refl _ _, _, _, rfl, ⟨rfl, rfl⟩, rfl, rfl, trivial⟩
end Go.Abs.Ltop.Aw
end
