import Derived.Test.YtncihdldkhkajaaL32a
namespace Go.Abs.L32
open Go Go.Abs Go.Abs.Day Go.Proofs Go.RowKit
set_option linter.unusedVariables false
set_option maxRecDepth 20000
def absM (y : Int) : Int := maxI y (IntKind.i64.wrap (0 - IntKind.i64.wrap (y + 1)))
theorem absM_pos {y : Int} (h : i64 y) : 0 ≤ absM y := by
  unfold absM
  have := maxI_ge y (IntKind.i64.wrap (0 - IntKind.i64.wrap (y + 1)))
  unfold i64 at h
  rw [IntKind.wrap_i64, IntKind.wrap_i64] at *
  omega
theorem absM_at {α : Type} {y : Int} {l : List α} (h : i64 y) (hl : l.length ≠ 0) : 0 ≤ (absM y).tmod l.length ∧ (absM y).tmod l.length < l.length ∧ ∃ a, l[((absM y).tmod l.length).toNat]? = some a := by
  have h0 := absM_pos h
  rw [Int.tmod_eq_emod_of_nonneg h0]
  have h1 := Int.emod_nonneg (absM y) (b := (l.length : Int)) (by omega)
  have h2 := Int.emod_lt_of_pos (absM y) (b := (l.length : Int)) (by omega)
  refine ⟨h1, h2, ?_⟩
  have : ((absM y) % (l.length : Int)).toNat < l.length := by omega
  exact ⟨_, List.getElem?_eq_getElem this⟩
theorem ids_at (l : List Per) (id : Int) : at? l id = idxF (fun a => a == id) 0 (l.map (·.id)) := by
  unfold at?
  generalize (0 : Nat) = k
  induction l generalizing k with
  | nil => rfl
  | cons a r ih => simp only [List.map_cons, idxF, ih]
theorem chk_inc : ∀ (l : List Per) (p : Option Per), chk p l = 0 ↔ (∀ a ∈ l, faultE a = 0) ∧ incB (p.map (·.id)) (l.map (·.id)) = true
  | [], p => by simp [chk, incB]
  | a :: r, p => by
    rw [chk_cons, List.map_cons, incB_cons]
    by_cases hf : faultE a ≠ 0
    · rw [if_pos hf]
      constructor
      · intro h; exact absurd h hf
      · intro h; exact absurd (h.1 a (by simp)) hf
    · rw [if_neg hf]
      have hf' : faultE a = 0 := by simpa using hf
      have ih := chk_inc r (some a)
      simp only [Option.map_some] at ih
      cases p with
      | none => simp only [Option.map_none, List.mem_cons, forall_eq_or_imp, hf', true_and]; exact ih
      | some q =>
        simp only [Option.map_some, List.mem_cons, forall_eq_or_imp, hf', true_and]
        by_cases hq : a.id ≤ q.id
        · simp [hq]
        · simp only [if_neg hq]; exact ih
theorem check_inc (l : List Per) : checkE l = 0 ↔ l.length ≤ 64 ∧ (∀ a ∈ l, faultE a = 0) ∧ incB none (l.map (·.id)) = true := by
  constructor
  · intro h
    have := check_len h
    rw [checkE_le this, chk_inc] at h
    exact ⟨this, h⟩
  · rintro ⟨h1, h2⟩
    rw [checkE_le h1, chk_inc]
    exact h2
theorem set_ids {l : List Per} {i : Nat} {a q : Per} (ha : l[i]? = some a) (hq : q.id = a.id) : (l.set i q).map (·.id) = l.map (·.id) := by
  rw [List.map_set, hq]
  exact set_self (by simp [ha])
/-- what a successful learning says -/
theorem learn_ok {l : List Per} {id : Int} {b d : Dat} (h : (learnR l id b d).2 = 0) : ∃ (i : Nat) (a : Per), l[i]? = some a ∧ a.id = id ∧ at? l id = i ∧ findP l id = some a ∧ checkE l = 0 ∧ okD b = true ∧ okD d = true ∧ mayL a b d ∧ (learnR l id b d).1 = l.set i (lrn a b d) := by
  unfold learnR at h ⊢
  split at h
  · cases h
  · rename_i h1
    split at h
    · cases h
    · rename_i h2
      split at h
      · rename_i h3
        rcases find_at l id with ⟨k1, k2⟩ | ⟨i, a, k1, k2, k3, k4⟩
        · omega
        · have hg : l.getD (at? l id).toNat zeroP = a := by rw [k3]; simp [List.getD, k1]
          rw [hg] at h3
          simp only [not_or, Bool.not_eq_false] at h1
          refine ⟨i, a, k1, k2, k3, k4, by simpa using h1.1, h1.2.1, h1.2.2, h3, ?_⟩
          rw [if_neg (by simpa using h1), if_neg h2, hg, if_pos h3, k3, Int.toNat_natCast]
      · cases h
theorem learn_err {l : List Per} {id : Int} {b d : Dat} (h : (learnR l id b d).2 ≠ 0) : (learnR l id b d).1 = [] := by
  unfold learnR at h ⊢
  split
  · rfl
  · split
    · rfl
    · split
      · rename_i h1 h2 h3
        rw [if_neg h1, if_neg h2, if_pos h3] at h
        exact absurd rfl h
      · rfl
/-- learning once more in the list behind learning -/
theorem learn_more {l : List Per} {id : Int} {i : Nat} {a : Per} {b d : Dat} (ha : l[i]? = some a) (hid : a.id = id) (hat : at? l id = i) (hc : checkE l = 0) (hm : mayL a b d) :
    checkE (l.set i (lrn a b d)) = 0 ∧ (l.set i (lrn a b d))[i]? = some (lrn a b d) ∧ at? (l.set i (lrn a b d)) id = i ∧ findP (l.set i (lrn a b d)) id = some (lrn a b d) := by
  have hi := (List.getElem?_eq_some_iff.1 ha).1
  have hids := set_ids (q := lrn a b d) ha rfl
  have hset : (l.set i (lrn a b d))[i]? = some (lrn a b d) := by simp [hi]
  have hat' : at? (l.set i (lrn a b d)) id = i := by rw [ids_at, hids, ← ids_at, hat]
  refine ⟨?_, hset, hat', ?_⟩
  · rw [check_inc] at hc ⊢
    refine ⟨by simpa using hc.1, fun x hx => ?_, by rw [hids]; exact hc.2.2⟩
    rcases List.mem_or_eq_of_mem_set hx with hx | rfl
    · exact hc.2.1 x hx
    · exact hm.2.2
  · rcases find_at (l.set i (lrn a b d)) id with ⟨k1, _⟩ | ⟨j, x, k1, k2, k3, k4⟩
    · omega
    · rw [k4]
      have : j = i := by omega
      subst this
      rw [hset] at k1
      exact k1.symm
theorem learn_eq {l : List Per} {id : Int} {i : Nat} {a : Per} {b d : Dat} (ha : l[i]? = some a) (hat : at? l id = i) (hc : checkE l = 0) (hb : okD b = true) (hd : okD d = true) :
    learnR l id b d = if mayL a b d then (l.set i (lrn a b d), 0) else ([], 10) := by
  have hg : l.getD (at? l id).toNat zeroP = a := by rw [hat]; simp [List.getD, ha]
  unfold learnR
  rw [if_neg (by simp [hc, hb, hd]), if_neg (by omega), hg, hat, Int.toNat_natCast]
theorem maxI_eq (a b : Int) : maxI a b = max a b := by unfold maxI; split <;> omega
theorem minI_eq (a b : Int) : minI a b = min a b := by unfold minI; split <;> omega
theorem both_comm (x y z : Dat) : bothE (bothE x y) z = bothE (bothE x z) y := by
  unfold bothE; simp only [maxI_eq, minI_eq, Dat.mk.injEq]; omega
theorem both_idem (x y : Dat) : bothE (bothE x y) y = bothE x y := by
  unfold bothE; simp only [maxI_eq, minI_eq, Dat.mk.injEq]; omega
theorem both_hi (x y : Dat) : (bothE x y).hi ≤ x.hi := (minI_le _ _).1
theorem lrn_comm (p : Per) (b d b' d' : Dat) : lrn (lrn p b d) b' d' = lrn (lrn p b' d') b d := by
  unfold lrn; simp only [both_comm p.b b b', both_comm p.d d d']
theorem lrn_idem (p : Per) (b d : Dat) : lrn (lrn p b d) b d = lrn p b d := by
  unfold lrn; simp only [both_idem]
theorem may_comm (p : Per) (b d b' d' : Dat) : mayL (lrn p b d) b' d' ↔ mayL (lrn p b' d') b d := by
  unfold mayL
  rw [lrn_comm p b d b' d']
  show (bothE (bothE p.b b) b').lo ≤ (bothE (bothE p.b b) b').hi ∧ (bothE (bothE p.d d) d').lo ≤ (bothE (bothE p.d d) d').hi ∧ _ ↔ (bothE (bothE p.b b') b).lo ≤ (bothE (bothE p.b b') b).hi ∧ (bothE (bothE p.d d') d).lo ≤ (bothE (bothE p.d d') d).hi ∧ _
  rw [both_comm p.b b b', both_comm p.d d d']
theorem may_idem {p : Per} {b d : Dat} (h : mayL p b d) : mayL (lrn p b d) b d := by
  unfold mayL at h ⊢
  rw [lrn_idem]
  show (bothE (bothE p.b b) b).lo ≤ (bothE (bothE p.b b) b).hi ∧ (bothE (bothE p.d d) d).lo ≤ (bothE (bothE p.d d) d).hi ∧ _
  rw [both_idem, both_idem]
  exact h
theorem learn_len (l : List Per) (id : Int) (b d : Dat) : (learnR l id b d).1.length ≤ l.length := by
  unfold learnR
  split
  · simp
  · split
    · simp
    · split
      · simp
      · simp
theorem learn_sz {l : List Per} (hz : ∀ p ∈ l, p.sz) (id : Int) (b d : Dat) : ∀ p ∈ (learnR l id b d).1, p.sz := by
  intro p hp
  by_cases h : (learnR l id b d).2 = 0
  · obtain ⟨i, a, ha, _, _, _, _, _, _, _, he⟩ := learn_ok h
    rw [he] at hp
    rcases List.mem_or_eq_of_mem_set hp with hp | rfl
    · exact hz p hp
    · exact hz a (List.mem_of_getElem? ha)
  · rw [learn_err h] at hp; cases hp
theorem l9 (l : List Per) (hl : l.length ≤ 9223372036854775807) (hz : ∀ p ∈ l, p.sz) (b1 b2 d1 d2 x y z : Int) (hy : i64 y) (hz' : i64 z) : Fn Try.prog 9 [A l, .agg [I b1, I b2, I d1, I d2], .agg [I x, I y, I z]] (.bool true) := by
  refine mk9 rfl ⟨_, c11, fun h => (by cases h), fun _ => ⟨_, c12 l hl, fun h => ⟨rfl, rfl, rfl⟩, fun h => ?_⟩⟩
  have hlen := few_len (by simpa using h : fewB l = true)
  have hll := learn_len l x ⟨b1, b2⟩ ⟨d1, d2⟩
  refine ⟨_, c14 l (by omega), true, _, c18 l hl hz x ⟨b1, b2⟩ ⟨d1, d2⟩, true, _, c29 l hl hz x ⟨b1, b2⟩ ⟨d1, d2⟩, [], _, tk2 (c19 _ _ (by omega)), fun h => ?_, fun h => ?_⟩
  · have h : (!decide ((learnR l x ⟨b1, b2⟩ ⟨d1, d2⟩).1 = (learnR l x ⟨b1, b2⟩ ⟨d1, d2⟩).1) || ((learnR l x ⟨b1, b2⟩ ⟨d1, d2⟩).2 != (learnR l x ⟨b1, b2⟩ ⟨d1, d2⟩).2)) = true := h
    simp at h
  · refine ⟨fun h => ⟨rfl, rfl, rfl⟩, fun h => ?_⟩
    have hne : l.length ≠ 0 := by
      have : (((l.length : Nat) : Int) == 0) = false := h
      simp at this; simpa using this
    obtain ⟨i1, i2, p, hp⟩ := absM_at (l := l) hy hne
    obtain ⟨j1, j2, q, hq⟩ := absM_at (l := l) hz' hne
    have sp := hz p (List.mem_of_getElem? hp)
    have sq := hz q (List.mem_of_getElem? hq)
    refine ⟨_, rfl, _, rfl, by omega, ⟨i1, i2⟩, encP p, get_map hp, _, rfl, _, rfl, by omega, ⟨j1, j2⟩, encP q, get_map hq, ?_⟩
    refine ⟨_, c30 p q sp sq, _, c31 p q sp sq, [], rfl, rfl, ?_⟩
    show AV.bool true = AV.bool (eqL (encP (joinR p q).1) (encP (joinR p q).1) && ((joinR p q).2 == (joinR p q).2))
    rw [eqL_P]; simp
end Go.Abs.L32
