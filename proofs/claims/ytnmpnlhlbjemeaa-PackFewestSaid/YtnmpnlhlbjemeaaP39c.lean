import Derived.Test.YtnmpnlhlbjemeaaP39b
namespace Go.Abs.L39
open Go Go.Abs Go.Proofs
set_option linter.unusedVariables false
set_option maxRecDepth 20000
/-! ### the reference's table -/
/-- the best box for a last piece, as the reference looks for it -/
def bestQ (room : Int) (T : List Int) (k : Nat) : List Int → Nat → Int → Int
  | [], _, best => best
  | n :: r, i, best => if k / 2 ^ i % 2 = 0 then bestQ room T k r (i + 1) best else bestQ room T k r (i + 1) (if best = 0 ∨ put1 room (T.getD (k - 2 ^ i) 0) n < best then put1 room (T.getD (k - 2 ^ i) 0) n else best)
theorem bestQ_P {room : Int} {T : List Int} {k : Nat} (B : Int) (hT : ∀ x ∈ T, 0 ≤ x) : ∀ (r : List Int) (i : Nat) (q : Int), (∀ n ∈ r, 1 ≤ n) → 0 ≤ q → 0 ≤ bestQ room T k r i q ∧
    bestP room T k r i (if q = 0 then B else minI B q) = if bestQ room T k r i q = 0 then B else minI B (bestQ room T k r i q)
  | [], i, q, _, hq => ⟨hq, rfl⟩
  | n :: r, i, q, hr, hq => by
    unfold bestP bestQ
    have hx : 0 ≤ T.getD (k - 2 ^ i) 0 := by
      rw [List.getD_eq_getElem?_getD]
      cases hq : T[k - 2 ^ i]? with
      | none => exact Int.le_refl _
      | some x => exact hT x (List.mem_of_getElem? hq)
    have hp := put1_ge (room := room) hx (hr n (by simp))
    split
    · exact bestQ_P B hT r _ q (fun m hm => hr m (by simp [hm])) hq
    · generalize put1 room (T.getD (k - 2 ^ i) 0) n = y at *
      have h0 : 0 ≤ (if q = 0 ∨ y < q then y else q) := by split <;> omega
      have e : minI (if q = 0 then B else minI B q) y = if (if q = 0 ∨ y < q then y else q) = 0 then B else minI B (if q = 0 ∨ y < q then y else q) := by
        unfold minI
        repeat' split
        all_goals omega
      rw [e]
      exact bestQ_P B hT r _ _ (fun m hm => hr m (by simp [hm])) h0
theorem tab_nonneg {l : List Int} {room : Int} (h : OKl l room) : ∀ k, ∀ x ∈ tabP l room k, 0 ≤ x
  | 0, x, hx => by cases hx
  | k + 1, x, hx => by
    rcases List.mem_append.1 hx with hx | hx
    · exact tab_nonneg h k x hx
    · simp at hx; subst hx; exact h.nonneg k
theorem tab_eq {l : List Int} {room : Int} (h : OKl l room) {k : Nat} (hk : k < 2 ^ l.length) (h0 : k ≠ 0) : bestQ room (tabP l room k) k l 0 0 = tv l room k := by
  have h1 := (bestQ_P (room := room) (k := k) (10001 * ((l.length : Int) + 1)) (tab_nonneg h k) l 0 0 (fun n hn => (h.sz n hn).1) (Int.le_refl _)).2
  rw [if_pos rfl] at h1
  have h2 := h.lt hk
  have e : tv l room k = bestP room (tabP l room k) k l 0 (10001 * ((l.length : Int) + 1)) := by unfold tv entryP; rw [if_neg h0]
  rw [← e] at h1
  split at h1
  · omega
  · unfold minI at h1; split at h1 <;> omega
/-! ### no packing has fewer boxes -/
def setOf : List Nat → Nat
  | [] => 0
  | j :: r => 2 ^ j + setOf r
theorem setOf_cons (j : Nat) (r : List Nat) : setOf (j :: r) = 2 ^ j + setOf r := rfl
def sizeAt (l : List Int) (j : Nat) : Int := l.getD j 0
def boxSum (l : List Int) : List Nat → Int
  | [] => 0
  | j :: r => sizeAt l j + boxSum l r
theorem boxSum_cons (l : List Int) (j : Nat) (r : List Nat) : boxSum l (j :: r) = sizeAt l j + boxSum l r := rfl
theorem sizeAt_of {l : List Int} {j : Nat} (h : j < l.length) : l[j]? = some (sizeAt l j) := by
  unfold sizeAt; rw [List.getD_eq_getElem?_getD, List.getElem?_eq_getElem h]; rfl
theorem boxSum_nonneg {l : List Int} {room : Int} (h : OKl l room) : ∀ {js : List Nat}, (∀ j ∈ js, j < l.length) → 0 ≤ boxSum l js
  | [], _ => Int.le_refl _
  | j :: r, hj => by
    have h1 := boxSum_nonneg h (js := r) fun i hi => hj i (by simp [hi])
    have h2 := h.sz _ (List.mem_of_getElem? (sizeAt_of (hj j (by simp))))
    rw [boxSum_cons]; omega
/-- further pieces come into the last box -/
theorem tv_more {l : List Int} {room : Int} (h : OKl l room) : ∀ (js : List Nat) (k : Nat) (m s : Int), (∀ j ∈ js, j < l.length) → js.Nodup → (∀ j ∈ js, k.testBit j = false) → 1 ≤ m → 0 ≤ s → s + boxSum l js ≤ room → tv l room k ≤ m * 10001 + s →
    tv l room (k + setOf js) ≤ m * 10001 + (s + boxSum l js) ∧ ∀ i, i ∉ js → (k + setOf js).testBit i = k.testBit i
  | [], k, m, s, _, _, _, _, _, _, hle => by
    unfold setOf boxSum
    exact ⟨by rw [Nat.add_zero]; omega, fun i _ => by rw [Nat.add_zero]⟩
  | j :: r, k, m, s, hj, hnd, hb, hm, hs, hr, hle => by
    rw [boxSum_cons] at hr
    have hnd := List.nodup_cons.1 hnd
    have hjl := hj j (by simp)
    have hz := h.sz _ (List.mem_of_getElem? (sizeAt_of hjl))
    have hr0 := boxSum_nonneg h (js := r) fun i hi => hj i (by simp [hi])
    have hbj := hb j (by simp)
    have h1 := h.step (sizeAt_of hjl) hbj
    have h2 := put1_mono (room := room) (h.nonneg k) hle hz.1
    have hr2 := h.room2
    have h3 : put1 room (m * 10001 + s) (sizeAt l j) = m * 10001 + (s + sizeAt l j) := by
      rw [put1_eq (by omega)]
      rw [if_neg (by omega)]; omega
    have ih := tv_more h r (k + 2 ^ j) m (s + sizeAt l j) (fun i hi => hj i (by simp [hi])) hnd.2 (fun i hi => by
      rw [add_bit_ne hbj (fun e => by subst e; exact hnd.1 hi)]; exact hb i (by simp [hi])) hm (by omega) (by omega) (by omega)
    rw [show k + 2 ^ j + setOf r = k + setOf (j :: r) by rw [setOf_cons]; omega] at ih
    refine ⟨by rw [boxSum_cons]; omega, fun i hi => ?_⟩
    simp only [List.mem_cons, not_or] at hi
    rw [ih.2 i hi.2, add_bit_ne hbj hi.1]
theorem tv_box {l : List Int} {room : Int} (h : OKl l room) {js : List Nat} {k : Nat} {m : Nat} (hne : js ≠ []) (hj : ∀ j ∈ js, j < l.length) (hnd : js.Nodup) (hb : ∀ j ∈ js, k.testBit j = false) (hr : boxSum l js ≤ room) (hle : tv l room k ≤ m * 10001 + 10000) :
    tv l room (k + setOf js) ≤ (m + 1 : Nat) * 10001 + 10000 ∧ ∀ i, i ∉ js → (k + setOf js).testBit i = k.testBit i := by
  cases js with
  | nil => exact absurd rfl hne
  | cons j r =>
    rw [boxSum_cons] at hr
    have hnd := List.nodup_cons.1 hnd
    have hjl := hj j (by simp)
    have hz := h.sz _ (List.mem_of_getElem? (sizeAt_of hjl))
    have hr0 := boxSum_nonneg h (js := r) fun i hi => hj i (by simp [hi])
    have hbj := hb j (by simp)
    have h1 := h.step (sizeAt_of hjl) hbj
    have h2 := put1_mono (room := room) (h.nonneg k) hle hz.1
    have hr2 := h.room2
    have h3 : put1 room ((m : Int) * 10001 + 10000) (sizeAt l j) ≤ ((m + 1 : Nat) : Int) * 10001 + sizeAt l j := by
      rw [put1_eq (by omega)]
      split <;> omega
    have ih := tv_more h r (k + 2 ^ j) ((m + 1 : Nat) : Int) (sizeAt l j) (fun i hi => hj i (by simp [hi])) hnd.2 (fun i hi => by
      rw [add_bit_ne hbj (fun e => by subst e; exact hnd.1 hi)]; exact hb i (by simp [hi])) (by omega) (by omega) (by omega) (by omega)
    rw [show k + 2 ^ j + setOf r = k + setOf (j :: r) by rw [setOf_cons]; omega] at ih
    refine ⟨by omega, fun i hi => ?_⟩
    simp only [List.mem_cons, not_or] at hi
    rw [ih.2 i hi.2, add_bit_ne hbj hi.1]
theorem setOf_app : ∀ a c : List Nat, setOf (a ++ c) = setOf a + setOf c := by
  intro a c
  induction a with
  | nil => simp [setOf]
  | cons x a ih => rw [List.cons_append, setOf_cons, setOf_cons, ih]; omega
theorem tv_boxes {l : List Int} {room : Int} (h : OKl l room) (bs : List (List Nat)) : ∀ (k m : Nat), (∀ b ∈ bs, b ≠ [] ∧ boxSum l b ≤ room) → bs.flatten.Nodup → (∀ j ∈ bs.flatten, j < l.length ∧ k.testBit j = false) → tv l room k ≤ m * 10001 + 10000 →
    tv l room (k + setOf bs.flatten) ≤ (m + bs.length : Nat) * 10001 + 10000 := by
  induction bs with
  | nil => intro k m _ _ _ hle; exact hle
  | cons b bs ih =>
    intro k m hb hnd hj hle
    rw [List.flatten_cons] at hnd hj
    obtain ⟨hn1, hn2, hn3⟩ := List.nodup_append.1 hnd
    have h1 := tv_box h (js := b) (k := k) (m := m) (hb b (by simp)).1 (fun j hx => (hj j (List.mem_append_left _ hx)).1) hn1 (fun j hx => (hj j (List.mem_append_left _ hx)).2) (hb b (by simp)).2 hle
    have ih := ih (k + setOf b) (m + 1) (fun c hc => hb c (by simp [hc])) hn2 (fun j hx => ⟨(hj j (List.mem_append_right _ hx)).1, by
      rw [h1.2 j (fun hx' => hn3 j hx' j hx rfl)]; exact (hj j (List.mem_append_right _ hx)).2⟩) h1.1
    rw [List.flatten_cons, setOf_app, ← Nat.add_assoc, List.length_cons, show m + (bs.length + 1) = m + 1 + bs.length by omega]
    exact ih
theorem setOf_bit : ∀ {js : List Nat}, js.Nodup → ∀ i, (setOf js).testBit i = decide (i ∈ js)
  | [], _, i => by simp [setOf]
  | j :: r, hnd, i => by
    have hnd := List.nodup_cons.1 hnd
    have ih := setOf_bit hnd.2
    have hb : (setOf r).testBit j = false := by rw [ih]; simpa using hnd.1
    rw [setOf_cons, Nat.add_comm]
    by_cases e : i = j
    · subst e; rw [add_bit_self hb]; simp
    · rw [add_bit_ne hb e, ih]; simp [e]
/-- all pieces -/
theorem setOf_all {js : List Nat} {n : Nat} (hnd : js.Nodup) (h : ∀ j, j ∈ js ↔ j < n) : setOf js = 2 ^ n - 1 := by
  apply Nat.eq_of_testBit_eq
  intro i
  rw [setOf_bit hnd, Nat.testBit_two_pow_sub_one]
  simp [h i]
/-- no packing has fewer boxes than the table says -/
theorem least_opt {l : List Int} {room : Int} (hf : fewE l room = 0) {bs : List (List Nat)} (hb : ∀ b ∈ bs, b ≠ [] ∧ boxSum l b ≤ room) (hnd : bs.flatten.Nodup) (hall : ∀ j, j ∈ bs.flatten ↔ j < l.length) : leastE l room ≤ bs.length := by
  have h := few_okl hf
  have h1 := tv_boxes h bs 0 0 hb hnd (fun j hj => ⟨(hall j).1 hj, by simp⟩) (by rw [tv_zero]; omega)
  rw [Nat.zero_add, Nat.zero_add, setOf_all hnd hall] at h1
  have e := least_eq hf
  omega
end Go.Abs.L39
