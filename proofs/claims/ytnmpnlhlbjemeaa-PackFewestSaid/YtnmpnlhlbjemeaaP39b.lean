import Derived.Test.YtnmpnlhlbjemeaaP39a
namespace Go.Abs.L39
open Go Go.Abs Go.Proofs
set_option linter.unusedVariables false
set_option maxRecDepth 20000
theorem tv_ext {l : List Int} {x room : Int} (h : OKl l room) (h' : OKl (l ++ [x]) room) : ∀ k, k < 2 ^ l.length → tv (l ++ [x]) room k = tv l room k := by
  intro k
  induction k using Nat.strongRecOn with
  | ind k ih =>
    intro hk
    by_cases h0 : k = 0
    · subst h0; rfl
    have hk' : k < 2 ^ (l ++ [x]).length := by
      rw [List.length_append]; exact Nat.lt_of_lt_of_le hk (Nat.pow_le_pow_right (by decide) (by simp))
    apply Int.le_antisymm
    · obtain ⟨j, n, hj, hb, e⟩ := h.mem hk h0
      have hjl := (List.getElem?_eq_some_iff.1 hj).1
      have h1 := tv_le (l := l ++ [x]) (room := room) (by rw [List.getElem?_append_left hjl]; exact hj) hb
      have := bit_le hb; have := Nat.two_pow_pos j
      rw [ih (k - 2 ^ j) (by omega) (by omega)] at h1
      omega
    · obtain ⟨j, n, hj, hb, e⟩ := h'.mem hk' h0
      have hjl : j < l.length := by
        rcases Nat.lt_or_ge j l.length with hlt | hge
        · exact hlt
        · have := bit_le hb
          have := Nat.pow_le_pow_right (n := 2) (by decide) hge
          omega
      rw [List.getElem?_append_left hjl] at hj
      have h1 := tv_le (l := l) (room := room) hj hb
      have := bit_le hb; have := Nat.two_pow_pos j
      rw [ih (k - 2 ^ j) (by omega) (by omega)] at e
      omega
theorem tv_room {l : List Int} {room room' : Int} (h : OKl l room) (h' : OKl l room') (hr : room' ≤ room) : ∀ k, k < 2 ^ l.length → tv l room k ≤ tv l room' k := by
  intro k
  induction k using Nat.strongRecOn with
  | ind k ih =>
    intro hk
    by_cases h0 : k = 0
    · subst h0; exact Int.le_refl _
    obtain ⟨j, n, hj, hb, e⟩ := h'.mem hk h0
    have := bit_le hb; have := Nat.two_pow_pos j
    have h1 := ih (k - 2 ^ j) (by omega) (by omega)
    have h2 := tv_le (room := room) hj hb
    have h3 := put1_mono (room := room) (h.nonneg (k - 2 ^ j)) h1 (h.sz n (List.mem_of_getElem? hj)).1
    have h4 := h'.rem (k - 2 ^ j)
    have := h'.room2
    have h5 := put1_room (room := room) (room' := room') (h'.nonneg (k - 2 ^ j)) (h.sz n (List.mem_of_getElem? hj)).1 hr (by omega)
    omega
theorem few_okl {l : List Int} {room : Int} (h : fewE l room = 0) : OKl l room := by
  obtain ⟨_, h1, h2, _, h3⟩ := few_ok h
  exact ⟨h1, h2, h3⟩
theorem least_eq {l : List Int} {room : Int} (h : fewE l room = 0) : ((leastE l room : Nat) : Int) = tv l room (2 ^ l.length - 1) / 10001 := by
  have hp := Nat.two_pow_pos l.length
  unfold leastE tabE
  rw [if_neg (by omega), tab_getD _ _ (by omega)]
  have := (few_okl h).nonneg (2 ^ l.length - 1)
  omega
theorem two_pow_sub_bit (n : Nat) : (2 ^ n - 1).testBit n = false := by
  rw [Nat.testBit_two_pow_sub_one]; simp
/-- a piece more -/
theorem least_more {l : List Int} {x room : Int} (h : fewE l room = 0) (h' : fewE (l ++ [x]) room = 0) : leastE l room ≤ leastE (l ++ [x]) room ∧ leastE (l ++ [x]) room ≤ leastE l room + 1 := by
  have e := least_eq h
  have e' := least_eq h'
  have o := few_okl h
  have o' := few_okl h'
  have hlen : (l ++ [x]).length = l.length + 1 := by simp
  have hx : (l ++ [x])[l.length]? = some x := by simp
  have hp := Nat.two_pow_pos l.length
  rw [hlen, show 2 ^ (l.length + 1) - 1 = 2 ^ l.length - 1 + 2 ^ l.length by rw [Nat.pow_succ]; omega] at e'
  have h1 := o'.mono hx _ (two_pow_sub_bit l.length)
  have h2 := o'.step hx (two_pow_sub_bit l.length)
  have hxs := o'.sz x (by simp)
  have hb := put1_box (o'.nonneg (2 ^ l.length - 1)) hxs o'.room2
  rw [tv_ext o o' (2 ^ l.length - 1) (by omega)] at h1 h2 hb
  have h0 := o.nonneg (2 ^ l.length - 1)
  generalize tv (l ++ [x]) room (2 ^ l.length - 1 + 2 ^ l.length) = a at *
  generalize tv l room (2 ^ l.length - 1) = b at *
  generalize put1 room b x = c at *
  omega
theorem least_room {l : List Int} {room room' : Int} (h : fewE l room = 0) (h' : fewE l room' = 0) (hr : room' ≤ room) : leastE l room ≤ leastE l room' := by
  have e := least_eq h
  have e' := least_eq h'
  have hp := Nat.two_pow_pos l.length
  have h1 := tv_room (few_okl h) (few_okl h') hr (2 ^ l.length - 1) (by omega)
  have := (few_okl h).nonneg (2 ^ l.length - 1)
  omega
/-- from a set to a greater one -/
theorem sets_grow {l : List Int} {room : Int} (o : OKl l room) {s i : Nat} {n : Int} (hi : l[i]? = some n) :
    tv l room s / 10001 ≤ tv l room (s ||| 2 ^ i) / 10001 ∧ tv l room (s ||| 2 ^ i) / 10001 ≤ tv l room s / 10001 + 1 ∧ tv l room (s ||| 2 ^ i) % 10001 ≤ room ∧ 0 < tv l room (s ||| 2 ^ i) := by
  have hne : s ||| 2 ^ i ≠ 0 := by
    intro e
    have := Nat.testBit_or s (2 ^ i) i
    rw [e, Nat.testBit_two_pow] at this
    simp at this
  refine ⟨?_, ?_, o.rem _, o.pos hne⟩
  · rw [or_bit]
    split
    · omega
    · rename_i h
      have := o.mono hi s (by simpa using h)
      have := o.nonneg s
      omega
  · rw [or_bit]
    split
    · omega
    · rename_i h
      have h1 := o.step hi (show s.testBit i = false by simpa using h)
      have h2 := put1_box (o.nonneg s) (o.sz n (List.mem_of_getElem? hi)) o.room2
      have := o.nonneg (s + 2 ^ i)
      omega
end Go.Abs.L39
