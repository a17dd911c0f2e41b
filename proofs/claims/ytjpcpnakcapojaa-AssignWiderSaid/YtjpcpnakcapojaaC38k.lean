import Derived.Test.YtjpcpnakcapojaaC38j
import Derived.Test.YtjpcpnakcapojaaN3
namespace Go.Abs.L38
open Go Go.Abs Go.Proofs Go.Abs.Hung
set_option linter.unusedVariables false
set_option maxRecDepth 20000
/-! ### the plan of a table and given columns -/
def phE (T : List (List Int)) (F : List Int) (n m : Nat) : Ph := (phases (atE T F) m 1073741824 false n 0 (Hung.start n m)).getD (Hung.start n m)
theorem phE_ok {T : List (List Int)} {F : List Int} {n m : Nat} (tb : Tb T F n m) (hnm : n ≤ m) : phases (atE T F) m 1073741824 false n 0 (Hung.start n m) = some (phE T F n m) ∧ Mt (atE T F) n m n 1048576 (phE T F n m) := by
  have hn := tb.h1
  obtain ⟨S', e1, e2⟩ := phases_ok (INF := 1073741824) (keep := false) tb.at (by omega) hnm n 0 (Hung.start n m) (Hung.start_ok tb.at) (by omega)
  unfold phE
  rw [e1]; exact ⟨rfl, e2⟩
def finP (T : List (List Int)) (F : List Int) (n m : Nat) : List Int × Int := if m < n then ([], 0) else finE (atE T F) (phE T F n m).row m 1 (List.replicate n 0) 0
def okP (T : List (List Int)) (F : List Int) (n m : Nat) : Bool := if m < n then false else decide ((finP T F n m).2 < 1048576)
def duU (T : List (List Int)) (F : List Int) (n m : Nat) : List Int := if m < n then [] else (phE T F n m).u.drop 1
def duV (T : List (List Int)) (F : List Int) (n m : Nat) : List Int := if m < n then [] else (phE T F n m).v.drop 1
abbrev planP (T : List (List Int)) (F : List Int) (n m : Nat) : List AV := [A (finP T F n m).1, A (duU T F n m), A (duV T F n m), I (finP T F n m).2]
theorem fn_res {P : Program} {f : FuncId} {us : List AV} {x x' : AV} {xs : List AV} (h : Fn P f us (.tup (x :: xs))) (hx : ∀ (w : World) (B : Nat) (X : Nat → Prop) (v : Value), RR1 w B X x v → RR1 w B X x' v) : Fn P f us (.tup (x' :: xs)) := by
  refine ⟨h.1, fun X w vs hw hl ha => (h.2 X w vs hw hl ha).mono ?_⟩
  rintro e w' ⟨v, rfl, ⟨ws, rfl, h1, ⟨c, h2, h3⟩, h4⟩, hb⟩
  exact ⟨_, rfl, ⟨ws, rfl, h1, ⟨c, h2, hx _ _ _ _ h3⟩, h4⟩, hb⟩
theorem nil_A {w : World} {X : Nat → Prop} {v : Value} (h : VR w X K0 .nilsl v) : VR w X K0 (A []) v := by
  rw [VR.nilsl_inv h]
  exact VR.rsl (cs := []) (by simp) (by simp) (Nat.le_refl _) (fun _ => rfl) (by simp) (by simp) (by simp) (by simp)
theorem k30 {T : List (List Int)} {F : List Int} {n m : Nat} (tb : Tb T F n m) : Fn Try.prog 30 [AA T, A F] (.tup [.agg (planP T F n m), .bool (okP T F n m)]) := by
  by_cases hnm : m < n
  · unfold planP duU duV okP finP
    simp only [if_pos hnm]
    refine fn_res (c30n tb hnm) fun w B X v h => ?_
    obtain ⟨vs, rfl, l1, h1, v1⟩ := VR.agg_inv (show VR w X K0 (.agg [.nilsl, .nilsl, .nilsl, I 0]) v from h)
    refine VR.agg l1 h1 fun j u y hu hy => ?_
    match j with
    | 0 => simp at hu; subst hu; exact nil_A (v1 0 _ y rfl hy)
    | 1 => simp at hu; subst hu; exact nil_A (v1 1 _ y rfl hy)
    | 2 => simp at hu; subst hu; exact nil_A (v1 2 _ y rfl hy)
    | 3 => simp at hu; subst hu; exact v1 3 _ y rfl hy
    | j + 4 => simp at hu
  · unfold planP duU duV okP finP
    simp only [if_neg hnm]
    exact c30 tb (by omega) (phE_ok tb (by omega)).1
theorem k30t {T : List (List Int)} {F : List Int} {n m : Nat} (tb : Tb T F n m) : Fn Try.prog 30 [AA T, A F] (.tup [.agg [.top, .top, .top, I (finP T F n m).2], .bool (okP T F n m)]) := by
  refine fn_res (k30 tb) fun w B X v h => ?_
  obtain ⟨vs, rfl, l1, h1, v1⟩ := VR.agg_inv (show VR w X K0 (.agg (planP T F n m)) v from h)
  refine VR.agg l1 h1 fun j u y hu hy => ?_
  match j with
  | 0 => simp at hu; subst hu; exact .top
  | 1 => simp at hu; subst hu; exact .top
  | 2 => simp at hu; subst hu; exact .top
  | 3 => simp at hu; subst hu; exact v1 3 _ y rfl hy
  | j + 4 => simp at hu
/-! ### Prove -/
theorem tb_of {T : List (List Int)} {t0 : List Int} (R : TabR T t0) {F : List Int} (hF : F.length = T.length) : Tb T F T.length t0.length :=
  ⟨rfl, hF, R.len, fun t ht c hc => (R.rng t ht c hc).2, R.n, R.m⟩
abbrev colsN (T : List (List Int)) : Nat := (T.headD []).length
theorem headD_of {T : List (List Int)} {t0 : List Int} (R : TabR T t0) : T.headD [] = t0 := by
  have := R.head
  cases T with
  | nil => cases this
  | cons a T => simpa using this
abbrev freeL (T : List (List Int)) : List Int := List.replicate T.length (-1)
def prvE (T : List (List Int)) : Int := if chkE T ≠ 0 then 1 else if okP T (freeL T) T.length (colsN T) = true then 0 else 24
def prvU (T : List (List Int)) : List Int := if prvE T ≠ 0 then [] else duU T (freeL T) T.length (colsN T)
def prvV (T : List (List Int)) : List Int := if prvE T ≠ 0 then [] else duV T (freeL T) T.length (colsN T)
theorem nil_duals {w : World} {B : Nat} {X : Nat → Prop} {v : Value} (h : RR1 w B X (.agg [.nilsl, .nilsl]) v) : RR1 w B X (.agg [A [], A []]) v := by
  obtain ⟨vs, rfl, l1, h1, v1⟩ := VR.agg_inv (show VR w X K0 (.agg [.nilsl, .nilsl]) v from h)
  refine VR.agg l1 h1 fun j u y hu hy => ?_
  match j with
  | 0 => simp at hu; subst hu; exact nil_A (v1 0 _ y rfl hy)
  | 1 => simp at hu; subst hu; exact nil_A (v1 1 _ y rfl hy)
  | j + 2 => simp at hu
theorem c28 (T : List (List Int)) (hT : T.length ≤ 9223372036854775807) (hTb : ∀ b ∈ T, b.length ≤ 9223372036854775807) : Fn Try.prog 28 [AA T] (.tup [.agg [A (prvU T), A (prvV T)], I (prvE T)]) := by
  by_cases hc : chkE T ≠ 0
  · have e : prvE T = 1 := by rw [prvE, if_pos hc]
    rw [prvU, prvV, e]
    simp only [ne_eq, Int.reduceEq, not_false_eq_true, if_true]
    refine fn_res (x := .agg [.nilsl, .nilsl]) (mk28 rfl ⟨_, c24 T hT hTb, fun _ => ?_, fun h => ?_⟩) fun w B X v h => nil_duals h
    · exact ⟨_, _, rfl, ⟨rfl, rfl⟩, rfl, rfl, trivial⟩
    · simp at h; exact absurd h hc
  have hc : chkE T = 0 := by simpa using hc
  obtain ⟨t0, R⟩ := chk_ok hc
  have hn := R.n
  have tb := tb_of R (F := freeL T) (by simp)
  have eH : colsN T = t0.length := by rw [colsN, headD_of R]
  have k := k30 tb
  have k31 := c31 T.length hn.1 (by omega)
  have kc := c24 T hT hTb
  rw [hc] at kc
  by_cases ho : okP T (freeL T) T.length (colsN T) = true
  · have e : prvE T = 0 := by rw [prvE, if_neg (by rw [hc]; simp), if_pos ho]
    rw [prvU, prvV, e]
    simp only [ne_eq, not_true_eq_false, if_false]
    rw [eH] at ho ⊢
    rw [ho] at k
    refine mk28 rfl ⟨_, kc, fun h => (by cases h), fun _ => ⟨_, k31, true, _, k, fun h => (by cases h), fun _ => ?_⟩⟩
    exact ⟨_, _, rfl, ⟨rfl, rfl⟩, rfl, rfl, trivial⟩
  · have e : prvE T = 24 := by rw [prvE, if_neg (by rw [hc]; simp), if_neg ho]
    rw [prvU, prvV, e]
    simp only [ne_eq, Int.reduceEq, not_false_eq_true, if_true]
    have ho : okP T (freeL T) T.length (colsN T) = false := by simpa using ho
    rw [eH] at ho
    rw [ho] at k
    refine fn_res (x := .agg [.nilsl, .nilsl]) (mk28 rfl ⟨_, kc, fun h => (by cases h), fun _ => ⟨_, k31, true, _, k, fun _ => ?_, fun h => (by cases h)⟩⟩) fun w B X v h => nil_duals h
    exact ⟨_, _, rfl, ⟨rfl, rfl⟩, rfl, rfl, trivial⟩
end Go.Abs.L38
