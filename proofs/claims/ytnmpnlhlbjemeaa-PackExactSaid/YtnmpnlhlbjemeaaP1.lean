import Derived.Test.YtnmpnlhlbjemeaaC39s
namespace Go.Abs.L39
open Go Go.Abs Go.Proofs
set_option linter.unusedVariables false
set_option maxRecDepth 20000
/-! ### bits of sets -/
theorem bit_iff (k i : Nat) : k / 2 ^ i % 2 ≠ 0 ↔ k.testBit i = true := by
  rw [Nat.testBit_eq_decide_div_mod_eq]
  simp
theorem bit_iff0 (k i : Nat) : k / 2 ^ i % 2 = 0 ↔ k.testBit i = false := by
  rw [Nat.testBit_eq_decide_div_mod_eq]
  simp
theorem add_bit_self {k i : Nat} (h : k.testBit i = false) : (k + 2 ^ i).testBit i = true := by
  rw [Nat.add_comm, Nat.testBit_two_pow_add_eq, h]; rfl
theorem add_bit_ne {k i j : Nat} (h : k.testBit i = false) (hj : j ≠ i) : (k + 2 ^ i).testBit j = k.testBit j := by
  rcases Nat.lt_or_gt_of_ne hj with hlt | hgt
  · rw [Nat.add_comm]; exact Nat.testBit_two_pow_add_gt hlt k
  · have h0 := (bit_iff0 k i).2 h
    have hd := Nat.div_add_mod k (2 ^ (i + 1))
    have hm : k % 2 ^ (i + 1) < 2 ^ i := by
      have e1 : k % 2 ^ (i + 1) = k % 2 ^ i + 2 ^ i * (k / 2 ^ i % 2) := by rw [Nat.pow_succ, Nat.mod_mul]
      rw [h0, Nat.mul_zero, Nat.add_zero] at e1
      rw [e1]; exact Nat.mod_lt _ (Nat.two_pow_pos i)
    have hp : 2 ^ (i + 1) = 2 ^ i + 2 ^ i := by rw [Nat.pow_succ]; omega
    generalize k / 2 ^ (i + 1) = q at hd
    generalize k % 2 ^ (i + 1) = r at hd hm
    rw [← hd, show 2 ^ (i + 1) * q + r + 2 ^ i = 2 ^ (i + 1) * q + (r + 2 ^ i) by omega]
    rw [Nat.testBit_two_pow_mul_add _ (by omega), Nat.testBit_two_pow_mul_add _ (by omega), if_neg (by omega), if_neg (by omega)]
theorem bit_le {k i : Nat} (h : k.testBit i = true) : 2 ^ i ≤ k := by
  exact Nat.ge_two_pow_of_testBit h
theorem sub_bit_self {k i : Nat} (h : k.testBit i = true) : (k - 2 ^ i).testBit i = false := by
  have := Nat.testBit_two_pow_add_eq (k - 2 ^ i) i
  rw [show 2 ^ i + (k - 2 ^ i) = k by have := bit_le h; omega, h] at this
  simpa using this
theorem sub_bit_ne {k i j : Nat} (h : k.testBit i = true) (hj : j ≠ i) : (k - 2 ^ i).testBit j = k.testBit j := by
  have := add_bit_ne (sub_bit_self h) hj
  rw [show k - 2 ^ i + 2 ^ i = k by have := bit_le h; omega] at this
  exact this.symm
theorem or_bit (k i : Nat) : k ||| 2 ^ i = if k.testBit i = true then k else k + 2 ^ i := by
  apply Nat.eq_of_testBit_eq
  intro j
  rw [Nat.testBit_or, Nat.testBit_two_pow]
  split
  · rename_i h
    by_cases e : i = j
    · subst e; simp [h]
    · simp [e]
  · rename_i h
    have h : k.testBit i = false := by simpa using h
    by_cases e : i = j
    · subst e; rw [add_bit_self h]; simp
    · rw [add_bit_ne h (Ne.symm e)]; simp [e]
theorem add_bit_lt {k i n : Nat} (h : k.testBit i = false) (hk : k < 2 ^ n) (hi : i < n) : k + 2 ^ i < 2 ^ n := by
  rw [show k + 2 ^ i = k ||| 2 ^ i by rw [or_bit, if_neg (by simp [h])]]
  exact Nat.or_lt_two_pow hk (Nat.pow_lt_pow_right (by decide) hi)
/-- the highest of the pieces -/
theorem top_bit {k n : Nat} (h : k < 2 ^ (n + 1)) (h' : 2 ^ n ≤ k) : k.testBit n = true := by
  rw [← bit_iff]
  have hp : 2 ^ (n + 1) = 2 ^ n * 2 := Nat.pow_succ ..
  have : k / 2 ^ n = 1 := by
    apply Nat.div_eq_of_lt_le
    · omega
    · omega
  omega
/-! ### pairs -/
theorem put1_eq {room x n : Int} (hx : 0 ≤ x) : put1 room x n = if x / 10001 = 0 ∨ x % 10001 + n > room then (x / 10001 + 1) * 10001 + n else x + n := by
  unfold put1
  rw [Int.tdiv_eq_ediv_of_nonneg hx, Int.tmod_eq_emod_of_nonneg hx]
  split <;> omega
theorem put1_mono {room x y n : Int} (hx : 0 ≤ x) (hxy : x ≤ y) (hn : 1 ≤ n) : put1 room x n ≤ put1 room y n := by
  rw [put1_eq hx, put1_eq (by omega)]
  split <;> split <;> omega
theorem put1_ge {room x n : Int} (hx : 0 ≤ x) (hn : 1 ≤ n) : x < put1 room x n := by
  rw [put1_eq hx]
  split <;> omega
theorem put1_box {room x n : Int} (hx : 0 ≤ x) (hn : 1 ≤ n ∧ n ≤ room) (hr : room ≤ 10000) : put1 room x n / 10001 ≤ x / 10001 + 1 ∧ put1 room x n % 10001 ≤ room ∧ 1 ≤ put1 room x n % 10001 ∧ 1 ≤ put1 room x n / 10001 := by
  rw [put1_eq hx]
  split <;> omega
theorem put1_room {room room' x n : Int} (hx : 0 ≤ x) (hn : 1 ≤ n) (hr : room' ≤ room) (hs : x % 10001 ≤ 10000) : put1 room x n ≤ put1 room' x n := by
  rw [put1_eq hx, put1_eq hx]
  split <;> split <;> omega
/-! ### the table's entries -/
def tv (l : List Int) (room : Int) (k : Nat) : Int := entryP l room (tabP l room k) k
theorem tab_at (l : List Int) (room : Int) : ∀ {p k : Nat}, k < p → (tabP l room p)[k]? = some (tv l room k)
  | 0, k, h => absurd h (Nat.not_lt_zero _)
  | p + 1, k, h => by
    rw [tabP]
    by_cases e : k < p
    · rw [List.getElem?_append_left (by rw [tabP_len]; exact e)]; exact tab_at l room e
    · have : k = p := by omega
      subst this
      rw [List.getElem?_append_right (by rw [tabP_len]; exact Nat.le_refl _), tabP_len, Nat.sub_self]; rfl
theorem tab_getD (l : List Int) (room : Int) {p k : Nat} (h : k < p) : (tabP l room p).getD k 0 = tv l room k := by
  rw [List.getD_eq_getElem?_getD, tab_at l room h]; rfl
theorem tv_zero (l : List Int) (room : Int) : tv l room 0 = 0 := rfl
theorem minI_le (a b : Int) : minI a b ≤ a ∧ minI a b ≤ b ∧ (minI a b = a ∨ minI a b = b) := by
  unfold minI; split <;> omega
theorem bestP_le (room : Int) (T : List Int) (k : Nat) : ∀ (r : List Int) (i : Nat) (best : Int), bestP room T k r i best ≤ best ∧ ∀ (j : Nat) n, r[j]? = some n → k.testBit (i + j) = true → bestP room T k r i best ≤ put1 room (T.getD (k - 2 ^ (i + j)) 0) n
  | [], i, best => ⟨Int.le_refl _, fun j n h => by simp at h⟩
  | n :: r, i, best => by
    unfold bestP
    by_cases h0 : k / 2 ^ i % 2 = 0
    · rw [if_pos h0]
      have ih := bestP_le room T k r (i + 1) best
      refine ⟨ih.1, fun j m hj hb => ?_⟩
      cases j with
      | zero => rw [Nat.add_zero] at hb; rw [(bit_iff0 k i).1 h0] at hb; cases hb
      | succ j => have := ih.2 j m (by simpa using hj) (by rw [show i + 1 + j = i + (j + 1) by omega]; exact hb); rw [show i + 1 + j = i + (j + 1) by omega] at this; exact this
    · rw [if_neg h0]
      have ih := bestP_le room T k r (i + 1) (minI best (put1 room (T.getD (k - 2 ^ i) 0) n))
      have hm := minI_le best (put1 room (T.getD (k - 2 ^ i) 0) n)
      refine ⟨by omega, fun j m hj hb => ?_⟩
      cases j with
      | zero => simp at hj; subst hj; show _ ≤ put1 room (T.getD (k - 2 ^ i) 0) n; omega
      | succ j => have := ih.2 j m (by simpa using hj) (by rw [show i + 1 + j = i + (j + 1) by omega]; exact hb); rw [show i + 1 + j = i + (j + 1) by omega] at this; exact this
theorem bestP_mem (room : Int) (T : List Int) (k : Nat) : ∀ (r : List Int) (i : Nat) (best : Int), bestP room T k r i best = best ∨ ∃ (j : Nat) (n : Int), r[j]? = some n ∧ k.testBit (i + j) = true ∧ bestP room T k r i best = put1 room (T.getD (k - 2 ^ (i + j)) 0) n
  | [], i, best => .inl rfl
  | n :: r, i, best => by
    unfold bestP
    by_cases h0 : k / 2 ^ i % 2 = 0
    · rw [if_pos h0]
      rcases bestP_mem room T k r (i + 1) best with h | ⟨j, m, hj, hb, h⟩
      · exact .inl h
      · exact .inr ⟨j + 1, m, by simpa using hj, by rw [show i + (j + 1) = i + 1 + j by omega]; exact hb, by rw [show i + (j + 1) = i + 1 + j by omega]; exact h⟩
    · rw [if_neg h0]
      rcases bestP_mem room T k r (i + 1) (minI best (put1 room (T.getD (k - 2 ^ i) 0) n)) with h | ⟨j, m, hj, hb, h⟩
      · rcases (minI_le best (put1 room (T.getD (k - 2 ^ i) 0) n)).2.2 with e | e
        · exact .inl (h.trans e)
        · exact .inr ⟨0, n, rfl, by rw [Nat.add_zero]; exact (bit_iff k i).1 h0, by rw [Nat.add_zero]; exact h.trans e⟩
      · exact .inr ⟨j + 1, m, by simpa using hj, by rw [show i + (j + 1) = i + 1 + j by omega]; exact hb, by rw [show i + (j + 1) = i + 1 + j by omega]; exact h⟩
theorem tv_le {l : List Int} {room : Int} {k j : Nat} {n : Int} (hj : l[j]? = some n) (hb : k.testBit j = true) : tv l room k ≤ put1 room (tv l room (k - 2 ^ j)) n := by
  have hk : k ≠ 0 := by rintro rfl; simp at hb
  have := (bestP_le room (tabP l room k) k l 0 (10001 * ((l.length : Int) + 1))).2 j n hj (by rw [Nat.zero_add]; exact hb)
  rw [Nat.zero_add, tab_getD _ _ (by have := Nat.two_pow_pos j; omega)] at this
  unfold tv entryP
  rw [if_neg hk]; exact this
theorem tv_mem (l : List Int) (room : Int) {k : Nat} (hk : k ≠ 0) : tv l room k = 10001 * ((l.length : Int) + 1) ∨ ∃ (j : Nat) (n : Int), l[j]? = some n ∧ k.testBit j = true ∧ tv l room k = put1 room (tv l room (k - 2 ^ j)) n := by
  unfold tv entryP
  rw [if_neg hk]
  rcases bestP_mem room (tabP l room k) k l 0 (10001 * ((l.length : Int) + 1)) with h | ⟨j, n, hj, hb, h⟩
  · exact .inl h
  · rw [Nat.zero_add] at hb h
    rw [tab_getD _ _ (by have := Nat.two_pow_pos j; omega)] at h
    exact .inr ⟨j, n, hj, hb, h⟩
theorem tv_nonneg {l : List Int} {room : Int} (hsz : ∀ n ∈ l, 1 ≤ n) : ∀ k, 0 ≤ tv l room k := by
  intro k
  induction k using Nat.strongRecOn with
  | ind k ih =>
    by_cases hk : k = 0
    · subst hk; rw [tv_zero]; omega
    · rcases tv_mem l room hk with h | ⟨j, n, hj, hb, h⟩
      · omega
      · have := ih (k - 2 ^ j) (by have := Nat.two_pow_pos j; omega)
        have := put1_ge (room := room) this (hsz n (List.mem_of_getElem? hj))
        omega
structure OKl (l : List Int) (room : Int) : Prop where
  room1 : 1 ≤ room
  room2 : room ≤ 10000
  sz : ∀ n ∈ l, 1 ≤ n ∧ n ≤ room
theorem OKl.nonneg {l : List Int} {room : Int} (h : OKl l room) (k : Nat) : 0 ≤ tv l room k := tv_nonneg (fun n hn => (h.sz n hn).1) k
theorem OKl.pos {l : List Int} {room : Int} (h : OKl l room) {k : Nat} (hk : k ≠ 0) : 0 < tv l room k := by
  rcases tv_mem l room hk with e | ⟨j, n, hj, hb, e⟩
  · omega
  · have := put1_ge (room := room) (h.nonneg (k - 2 ^ j)) (h.sz n (List.mem_of_getElem? hj)).1
    have := h.nonneg (k - 2 ^ j)
    omega
theorem OKl.rem {l : List Int} {room : Int} (h : OKl l room) (k : Nat) : tv l room k % 10001 ≤ room := by
  have := h.room1
  by_cases hk : k = 0
  · subst hk; rw [tv_zero]; omega
  · rcases tv_mem l room hk with e | ⟨j, n, hj, hb, e⟩
    · omega
    · rw [e]; exact (put1_box (h.nonneg _) (h.sz n (List.mem_of_getElem? hj)) h.room2).2.1
theorem OKl.step {l : List Int} {room : Int} (h : OKl l room) {k i : Nat} {n : Int} (hi : l[i]? = some n) (hb : k.testBit i = false) : tv l room (k + 2 ^ i) ≤ put1 room (tv l room k) n := by
  have := tv_le (room := room) hi (add_bit_self hb)
  rwa [Nat.add_sub_cancel] at this
theorem OKl.mono {l : List Int} {room : Int} (h : OKl l room) {i : Nat} {n : Int} (hi : l[i]? = some n) : ∀ k, k.testBit i = false → tv l room k ≤ tv l room (k + 2 ^ i) := by
  intro k
  induction k using Nat.strongRecOn with
  | ind k ih =>
    intro hb
    have hM : k + 2 ^ i ≠ 0 := by have := Nat.two_pow_pos i; omega
    by_cases hk : k = 0
    · subst hk; rw [tv_zero]; exact h.nonneg _
    have hle : tv l room k ≤ 10001 * ((l.length : Int) + 1) := by
      unfold tv entryP
      rw [if_neg hk]
      exact (bestP_le room (tabP l room k) k l 0 (10001 * ((l.length : Int) + 1))).1
    rcases tv_mem l room hM with e | ⟨j, m, hj, hbj, e⟩
    · omega
    · have hm := h.sz m (List.mem_of_getElem? hj)
      by_cases hij : j = i
      · subst hij
        rw [Nat.add_sub_cancel] at e
        have := put1_ge (room := room) (h.nonneg k) hm.1
        omega
      · rw [add_bit_ne hb hij] at hbj
        have hle2 := bit_le hbj
        have hb' : (k - 2 ^ j).testBit i = false := by rw [sub_bit_ne hbj (Ne.symm hij)]; exact hb
        have := ih (k - 2 ^ j) (by have := Nat.two_pow_pos j; omega) hb'
        rw [show k - 2 ^ j + 2 ^ i = k + 2 ^ i - 2 ^ j from (Nat.sub_add_comm hle2).symm] at this
        have h2 := put1_mono (room := room) (h.nonneg _) this hm.1
        have h3 := tv_le (room := room) hj hbj
        omega
theorem OKl.boxes {l : List Int} {room : Int} (h : OKl l room) : ∀ (j : Nat), j ≤ l.length → ∀ k, k < 2 ^ j → tv l room k / 10001 ≤ j := by
  intro j
  induction j with
  | zero => intro _ k hk; have : k = 0 := (by simpa using hk); subst this; rw [tv_zero]; omega
  | succ j ih =>
    intro hj k hk
    rcases Nat.lt_or_ge k (2 ^ j) with hlt | hge
    · have := ih (by omega) k hlt; omega
    · have hb := top_bit hk hge
      have hn : l[j]? = some l[j] := by simp
      have h1 := tv_le (room := room) hn hb
      have hp : 2 ^ (j + 1) = 2 ^ j + 2 ^ j := by rw [Nat.pow_succ]; omega
      have h2 := ih (by omega) (k - 2 ^ j) (by omega)
      have h3 := put1_box (h.nonneg (k - 2 ^ j)) (h.sz _ (List.mem_of_getElem? hn)) h.room2
      have h4 := h.nonneg k
      omega
/-- the first value is never the least -/
theorem OKl.lt {l : List Int} {room : Int} (h : OKl l room) {k : Nat} (hk : k < 2 ^ l.length) : tv l room k < 10001 * ((l.length : Int) + 1) := by
  have h1 := h.boxes l.length (Nat.le_refl _) k hk
  have := h.nonneg k
  omega
theorem OKl.mem {l : List Int} {room : Int} (h : OKl l room) {k : Nat} (hk : k < 2 ^ l.length) (h0 : k ≠ 0) : ∃ (j : Nat) (n : Int), l[j]? = some n ∧ k.testBit j = true ∧ tv l room k = put1 room (tv l room (k - 2 ^ j)) n := by
  rcases tv_mem l room h0 with e | h'
  · have := h.lt hk; omega
  · exact h'
end Go.Abs.L39
namespace Go.Abs.L39
open Go Go.Abs Go.Proofs
set_option linter.unusedVariables false
set_option maxRecDepth 20000
theorem tv_ext {l : List Int} {x room : Int} (h : OKl l room) (h' : OKl (l ++ [x]) room) : ∀ k, k < 2 ^ l.length → tv (l ++ [x]) room k = tv l room k := by
  intro k
  induction k using Nat.strongRecOn with
  | ind k ih =>
    intro hk
    by_cases h0 : k = 0
    · subst h0; rfl
    have hk' : k < 2 ^ (l ++ [x]).length := by
      rw [List.length_append]; exact Nat.lt_of_lt_of_le hk (Nat.pow_le_pow_right (by decide) (by simp))
    apply Int.le_antisymm
    · obtain ⟨j, n, hj, hb, e⟩ := h.mem hk h0
      have hjl := (List.getElem?_eq_some_iff.1 hj).1
      have h1 := tv_le (l := l ++ [x]) (room := room) (by rw [List.getElem?_append_left hjl]; exact hj) hb
      have := bit_le hb; have := Nat.two_pow_pos j
      rw [ih (k - 2 ^ j) (by omega) (by omega)] at h1
      omega
    · obtain ⟨j, n, hj, hb, e⟩ := h'.mem hk' h0
      have hjl : j < l.length := by
        rcases Nat.lt_or_ge j l.length with hlt | hge
        · exact hlt
        · have := bit_le hb
          have := Nat.pow_le_pow_right (n := 2) (by decide) hge
          omega
      rw [List.getElem?_append_left hjl] at hj
      have h1 := tv_le (l := l) (room := room) hj hb
      have := bit_le hb; have := Nat.two_pow_pos j
      rw [ih (k - 2 ^ j) (by omega) (by omega)] at e
      omega
theorem tv_room {l : List Int} {room room' : Int} (h : OKl l room) (h' : OKl l room') (hr : room' ≤ room) : ∀ k, k < 2 ^ l.length → tv l room k ≤ tv l room' k := by
  intro k
  induction k using Nat.strongRecOn with
  | ind k ih =>
    intro hk
    by_cases h0 : k = 0
    · subst h0; exact Int.le_refl _
    obtain ⟨j, n, hj, hb, e⟩ := h'.mem hk h0
    have := bit_le hb; have := Nat.two_pow_pos j
    have h1 := ih (k - 2 ^ j) (by omega) (by omega)
    have h2 := tv_le (room := room) hj hb
    have h3 := put1_mono (room := room) (h.nonneg (k - 2 ^ j)) h1 (h.sz n (List.mem_of_getElem? hj)).1
    have h4 := h'.rem (k - 2 ^ j)
    have := h'.room2
    have h5 := put1_room (room := room) (room' := room') (h'.nonneg (k - 2 ^ j)) (h.sz n (List.mem_of_getElem? hj)).1 hr (by omega)
    omega
theorem few_okl {l : List Int} {room : Int} (h : fewE l room = 0) : OKl l room := by
  obtain ⟨_, h1, h2, _, h3⟩ := few_ok h
  exact ⟨h1, h2, h3⟩
theorem least_eq {l : List Int} {room : Int} (h : fewE l room = 0) : ((leastE l room : Nat) : Int) = tv l room (2 ^ l.length - 1) / 10001 := by
  have hp := Nat.two_pow_pos l.length
  unfold leastE tabE
  rw [if_neg (by omega), tab_getD _ _ (by omega)]
  have := (few_okl h).nonneg (2 ^ l.length - 1)
  omega
theorem two_pow_sub_bit (n : Nat) : (2 ^ n - 1).testBit n = false := by
  rw [Nat.testBit_two_pow_sub_one]; simp
/-- a piece more -/
theorem least_more {l : List Int} {x room : Int} (h : fewE l room = 0) (h' : fewE (l ++ [x]) room = 0) : leastE l room ≤ leastE (l ++ [x]) room ∧ leastE (l ++ [x]) room ≤ leastE l room + 1 := by
  have e := least_eq h
  have e' := least_eq h'
  have o := few_okl h
  have o' := few_okl h'
  have hlen : (l ++ [x]).length = l.length + 1 := by simp
  have hx : (l ++ [x])[l.length]? = some x := by simp
  have hp := Nat.two_pow_pos l.length
  rw [hlen, show 2 ^ (l.length + 1) - 1 = 2 ^ l.length - 1 + 2 ^ l.length by rw [Nat.pow_succ]; omega] at e'
  have h1 := o'.mono hx _ (two_pow_sub_bit l.length)
  have h2 := o'.step hx (two_pow_sub_bit l.length)
  have hxs := o'.sz x (by simp)
  have hb := put1_box (o'.nonneg (2 ^ l.length - 1)) hxs o'.room2
  rw [tv_ext o o' (2 ^ l.length - 1) (by omega)] at h1 h2 hb
  have h0 := o.nonneg (2 ^ l.length - 1)
  generalize tv (l ++ [x]) room (2 ^ l.length - 1 + 2 ^ l.length) = a at *
  generalize tv l room (2 ^ l.length - 1) = b at *
  generalize put1 room b x = c at *
  omega
theorem least_room {l : List Int} {room room' : Int} (h : fewE l room = 0) (h' : fewE l room' = 0) (hr : room' ≤ room) : leastE l room ≤ leastE l room' := by
  have e := least_eq h
  have e' := least_eq h'
  have hp := Nat.two_pow_pos l.length
  have h1 := tv_room (few_okl h) (few_okl h') hr (2 ^ l.length - 1) (by omega)
  have := (few_okl h).nonneg (2 ^ l.length - 1)
  omega
/-- from a set to a greater one -/
theorem sets_grow {l : List Int} {room : Int} (o : OKl l room) {s i : Nat} {n : Int} (hi : l[i]? = some n) :
    tv l room s / 10001 ≤ tv l room (s ||| 2 ^ i) / 10001 ∧ tv l room (s ||| 2 ^ i) / 10001 ≤ tv l room s / 10001 + 1 ∧ tv l room (s ||| 2 ^ i) % 10001 ≤ room ∧ 0 < tv l room (s ||| 2 ^ i) := by
  have hne : s ||| 2 ^ i ≠ 0 := by
    intro e
    have := Nat.testBit_or s (2 ^ i) i
    rw [e, Nat.testBit_two_pow] at this
    simp at this
  refine ⟨?_, ?_, o.rem _, o.pos hne⟩
  · rw [or_bit]
    split
    · omega
    · rename_i h
      have := o.mono hi s (by simpa using h)
      have := o.nonneg s
      omega
  · rw [or_bit]
    split
    · omega
    · rename_i h
      have h1 := o.step hi (show s.testBit i = false by simpa using h)
      have h2 := put1_box (o.nonneg s) (o.sz n (List.mem_of_getElem? hi)) o.room2
      have := o.nonneg (s + 2 ^ i)
      omega
end Go.Abs.L39
namespace Go.Abs.L39
open Go Go.Abs Go.Proofs
set_option linter.unusedVariables false
set_option maxRecDepth 20000
/-! ### the reference's table -/
/-- the best box for a last piece, as the reference looks for it -/
def bestQ (room : Int) (T : List Int) (k : Nat) : List Int → Nat → Int → Int
  | [], _, best => best
  | n :: r, i, best => if k / 2 ^ i % 2 = 0 then bestQ room T k r (i + 1) best else bestQ room T k r (i + 1) (if best = 0 ∨ put1 room (T.getD (k - 2 ^ i) 0) n < best then put1 room (T.getD (k - 2 ^ i) 0) n else best)
theorem bestQ_P {room : Int} {T : List Int} {k : Nat} (B : Int) (hT : ∀ x ∈ T, 0 ≤ x) : ∀ (r : List Int) (i : Nat) (q : Int), (∀ n ∈ r, 1 ≤ n) → 0 ≤ q → 0 ≤ bestQ room T k r i q ∧
    bestP room T k r i (if q = 0 then B else minI B q) = if bestQ room T k r i q = 0 then B else minI B (bestQ room T k r i q)
  | [], i, q, _, hq => ⟨hq, rfl⟩
  | n :: r, i, q, hr, hq => by
    unfold bestP bestQ
    have hx : 0 ≤ T.getD (k - 2 ^ i) 0 := by
      rw [List.getD_eq_getElem?_getD]
      cases hq : T[k - 2 ^ i]? with
      | none => exact Int.le_refl _
      | some x => exact hT x (List.mem_of_getElem? hq)
    have hp := put1_ge (room := room) hx (hr n (by simp))
    split
    · exact bestQ_P B hT r _ q (fun m hm => hr m (by simp [hm])) hq
    · generalize put1 room (T.getD (k - 2 ^ i) 0) n = y at *
      have h0 : 0 ≤ (if q = 0 ∨ y < q then y else q) := by split <;> omega
      have e : minI (if q = 0 then B else minI B q) y = if (if q = 0 ∨ y < q then y else q) = 0 then B else minI B (if q = 0 ∨ y < q then y else q) := by
        unfold minI
        repeat' split
        all_goals omega
      rw [e]
      exact bestQ_P B hT r _ _ (fun m hm => hr m (by simp [hm])) h0
theorem tab_nonneg {l : List Int} {room : Int} (h : OKl l room) : ∀ k, ∀ x ∈ tabP l room k, 0 ≤ x
  | 0, x, hx => by cases hx
  | k + 1, x, hx => by
    rcases List.mem_append.1 hx with hx | hx
    · exact tab_nonneg h k x hx
    · simp at hx; subst hx; exact h.nonneg k
theorem tab_eq {l : List Int} {room : Int} (h : OKl l room) {k : Nat} (hk : k < 2 ^ l.length) (h0 : k ≠ 0) : bestQ room (tabP l room k) k l 0 0 = tv l room k := by
  have h1 := (bestQ_P (room := room) (k := k) (10001 * ((l.length : Int) + 1)) (tab_nonneg h k) l 0 0 (fun n hn => (h.sz n hn).1) (Int.le_refl _)).2
  rw [if_pos rfl] at h1
  have h2 := h.lt hk
  have e : tv l room k = bestP room (tabP l room k) k l 0 (10001 * ((l.length : Int) + 1)) := by unfold tv entryP; rw [if_neg h0]
  rw [← e] at h1
  split at h1
  · omega
  · unfold minI at h1; split at h1 <;> omega
/-! ### no packing has fewer boxes -/
def setOf : List Nat → Nat
  | [] => 0
  | j :: r => 2 ^ j + setOf r
theorem setOf_cons (j : Nat) (r : List Nat) : setOf (j :: r) = 2 ^ j + setOf r := rfl
def sizeAt (l : List Int) (j : Nat) : Int := l.getD j 0
def boxSum (l : List Int) : List Nat → Int
  | [] => 0
  | j :: r => sizeAt l j + boxSum l r
theorem boxSum_cons (l : List Int) (j : Nat) (r : List Nat) : boxSum l (j :: r) = sizeAt l j + boxSum l r := rfl
theorem sizeAt_of {l : List Int} {j : Nat} (h : j < l.length) : l[j]? = some (sizeAt l j) := by
  unfold sizeAt; rw [List.getD_eq_getElem?_getD, List.getElem?_eq_getElem h]; rfl
theorem boxSum_nonneg {l : List Int} {room : Int} (h : OKl l room) : ∀ {js : List Nat}, (∀ j ∈ js, j < l.length) → 0 ≤ boxSum l js
  | [], _ => Int.le_refl _
  | j :: r, hj => by
    have h1 := boxSum_nonneg h (js := r) fun i hi => hj i (by simp [hi])
    have h2 := h.sz _ (List.mem_of_getElem? (sizeAt_of (hj j (by simp))))
    rw [boxSum_cons]; omega
/-- further pieces come into the last box -/
theorem tv_more {l : List Int} {room : Int} (h : OKl l room) : ∀ (js : List Nat) (k : Nat) (m s : Int), (∀ j ∈ js, j < l.length) → js.Nodup → (∀ j ∈ js, k.testBit j = false) → 1 ≤ m → 0 ≤ s → s + boxSum l js ≤ room → tv l room k ≤ m * 10001 + s →
    tv l room (k + setOf js) ≤ m * 10001 + (s + boxSum l js) ∧ ∀ i, i ∉ js → (k + setOf js).testBit i = k.testBit i
  | [], k, m, s, _, _, _, _, _, _, hle => by
    unfold setOf boxSum
    exact ⟨by rw [Nat.add_zero]; omega, fun i _ => by rw [Nat.add_zero]⟩
  | j :: r, k, m, s, hj, hnd, hb, hm, hs, hr, hle => by
    rw [boxSum_cons] at hr
    have hnd := List.nodup_cons.1 hnd
    have hjl := hj j (by simp)
    have hz := h.sz _ (List.mem_of_getElem? (sizeAt_of hjl))
    have hr0 := boxSum_nonneg h (js := r) fun i hi => hj i (by simp [hi])
    have hbj := hb j (by simp)
    have h1 := h.step (sizeAt_of hjl) hbj
    have h2 := put1_mono (room := room) (h.nonneg k) hle hz.1
    have hr2 := h.room2
    have h3 : put1 room (m * 10001 + s) (sizeAt l j) = m * 10001 + (s + sizeAt l j) := by
      rw [put1_eq (by omega)]
      rw [if_neg (by omega)]; omega
    have ih := tv_more h r (k + 2 ^ j) m (s + sizeAt l j) (fun i hi => hj i (by simp [hi])) hnd.2 (fun i hi => by
      rw [add_bit_ne hbj (fun e => by subst e; exact hnd.1 hi)]; exact hb i (by simp [hi])) hm (by omega) (by omega) (by omega)
    rw [show k + 2 ^ j + setOf r = k + setOf (j :: r) by rw [setOf_cons]; omega] at ih
    refine ⟨by rw [boxSum_cons]; omega, fun i hi => ?_⟩
    simp only [List.mem_cons, not_or] at hi
    rw [ih.2 i hi.2, add_bit_ne hbj hi.1]
theorem tv_box {l : List Int} {room : Int} (h : OKl l room) {js : List Nat} {k : Nat} {m : Nat} (hne : js ≠ []) (hj : ∀ j ∈ js, j < l.length) (hnd : js.Nodup) (hb : ∀ j ∈ js, k.testBit j = false) (hr : boxSum l js ≤ room) (hle : tv l room k ≤ m * 10001 + 10000) :
    tv l room (k + setOf js) ≤ (m + 1 : Nat) * 10001 + 10000 ∧ ∀ i, i ∉ js → (k + setOf js).testBit i = k.testBit i := by
  cases js with
  | nil => exact absurd rfl hne
  | cons j r =>
    rw [boxSum_cons] at hr
    have hnd := List.nodup_cons.1 hnd
    have hjl := hj j (by simp)
    have hz := h.sz _ (List.mem_of_getElem? (sizeAt_of hjl))
    have hr0 := boxSum_nonneg h (js := r) fun i hi => hj i (by simp [hi])
    have hbj := hb j (by simp)
    have h1 := h.step (sizeAt_of hjl) hbj
    have h2 := put1_mono (room := room) (h.nonneg k) hle hz.1
    have hr2 := h.room2
    have h3 : put1 room ((m : Int) * 10001 + 10000) (sizeAt l j) ≤ ((m + 1 : Nat) : Int) * 10001 + sizeAt l j := by
      rw [put1_eq (by omega)]
      split <;> omega
    have ih := tv_more h r (k + 2 ^ j) ((m + 1 : Nat) : Int) (sizeAt l j) (fun i hi => hj i (by simp [hi])) hnd.2 (fun i hi => by
      rw [add_bit_ne hbj (fun e => by subst e; exact hnd.1 hi)]; exact hb i (by simp [hi])) (by omega) (by omega) (by omega) (by omega)
    rw [show k + 2 ^ j + setOf r = k + setOf (j :: r) by rw [setOf_cons]; omega] at ih
    refine ⟨by omega, fun i hi => ?_⟩
    simp only [List.mem_cons, not_or] at hi
    rw [ih.2 i hi.2, add_bit_ne hbj hi.1]
theorem setOf_app : ∀ a c : List Nat, setOf (a ++ c) = setOf a + setOf c := by
  intro a c
  induction a with
  | nil => simp [setOf]
  | cons x a ih => rw [List.cons_append, setOf_cons, setOf_cons, ih]; omega
theorem tv_boxes {l : List Int} {room : Int} (h : OKl l room) (bs : List (List Nat)) : ∀ (k m : Nat), (∀ b ∈ bs, b ≠ [] ∧ boxSum l b ≤ room) → bs.flatten.Nodup → (∀ j ∈ bs.flatten, j < l.length ∧ k.testBit j = false) → tv l room k ≤ m * 10001 + 10000 →
    tv l room (k + setOf bs.flatten) ≤ (m + bs.length : Nat) * 10001 + 10000 := by
  induction bs with
  | nil => intro k m _ _ _ hle; exact hle
  | cons b bs ih =>
    intro k m hb hnd hj hle
    rw [List.flatten_cons] at hnd hj
    obtain ⟨hn1, hn2, hn3⟩ := List.nodup_append.1 hnd
    have h1 := tv_box h (js := b) (k := k) (m := m) (hb b (by simp)).1 (fun j hx => (hj j (List.mem_append_left _ hx)).1) hn1 (fun j hx => (hj j (List.mem_append_left _ hx)).2) (hb b (by simp)).2 hle
    have ih := ih (k + setOf b) (m + 1) (fun c hc => hb c (by simp [hc])) hn2 (fun j hx => ⟨(hj j (List.mem_append_right _ hx)).1, by
      rw [h1.2 j (fun hx' => hn3 j hx' j hx rfl)]; exact (hj j (List.mem_append_right _ hx)).2⟩) h1.1
    rw [List.flatten_cons, setOf_app, ← Nat.add_assoc, List.length_cons, show m + (bs.length + 1) = m + 1 + bs.length by omega]
    exact ih
theorem setOf_bit : ∀ {js : List Nat}, js.Nodup → ∀ i, (setOf js).testBit i = decide (i ∈ js)
  | [], _, i => by simp [setOf]
  | j :: r, hnd, i => by
    have hnd := List.nodup_cons.1 hnd
    have ih := setOf_bit hnd.2
    have hb : (setOf r).testBit j = false := by rw [ih]; simpa using hnd.1
    rw [setOf_cons, Nat.add_comm]
    by_cases e : i = j
    · subst e; rw [add_bit_self hb]; simp
    · rw [add_bit_ne hb e, ih]; simp [e]
/-- all pieces -/
theorem setOf_all {js : List Nat} {n : Nat} (hnd : js.Nodup) (h : ∀ j, j ∈ js ↔ j < n) : setOf js = 2 ^ n - 1 := by
  apply Nat.eq_of_testBit_eq
  intro i
  rw [setOf_bit hnd, Nat.testBit_two_pow_sub_one]
  simp [h i]
/-- no packing has fewer boxes than the table says -/
theorem least_opt {l : List Int} {room : Int} (hf : fewE l room = 0) {bs : List (List Nat)} (hb : ∀ b ∈ bs, b ≠ [] ∧ boxSum l b ≤ room) (hnd : bs.flatten.Nodup) (hall : ∀ j, j ∈ bs.flatten ↔ j < l.length) : leastE l room ≤ bs.length := by
  have h := few_okl hf
  have h1 := tv_boxes h bs 0 0 hb hnd (fun j hj => ⟨(hall j).1 hj, by simp⟩) (by rw [tv_zero]; omega)
  rw [Nat.zero_add, Nat.zero_add, setOf_all hnd hall] at h1
  have e := least_eq hf
  omega
end Go.Abs.L39
