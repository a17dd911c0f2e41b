import Derived.Test.YtnmpnlhlbjemeaaC39s
namespace Go.Abs.L39
open Go Go.Abs Go.Proofs
set_option linter.unusedVariables false
set_option maxRecDepth 20000
/-! ### bits of sets -/
theorem bit_iff (k i : Nat) : k / 2 ^ i % 2 ≠ 0 ↔ k.testBit i = true := by
  rw [Nat.testBit_eq_decide_div_mod_eq]
  simp
theorem bit_iff0 (k i : Nat) : k / 2 ^ i % 2 = 0 ↔ k.testBit i = false := by
  rw [Nat.testBit_eq_decide_div_mod_eq]
  simp
theorem add_bit_self {k i : Nat} (h : k.testBit i = false) : (k + 2 ^ i).testBit i = true := by
  rw [Nat.add_comm, Nat.testBit_two_pow_add_eq, h]; rfl
theorem add_bit_ne {k i j : Nat} (h : k.testBit i = false) (hj : j ≠ i) : (k + 2 ^ i).testBit j = k.testBit j := by
  rcases Nat.lt_or_gt_of_ne hj with hlt | hgt
  · rw [Nat.add_comm]; exact Nat.testBit_two_pow_add_gt hlt k
  · have h0 := (bit_iff0 k i).2 h
    have hd := Nat.div_add_mod k (2 ^ (i + 1))
    have hm : k % 2 ^ (i + 1) < 2 ^ i := by
      have e1 : k % 2 ^ (i + 1) = k % 2 ^ i + 2 ^ i * (k / 2 ^ i % 2) := by rw [Nat.pow_succ, Nat.mod_mul]
      rw [h0, Nat.mul_zero, Nat.add_zero] at e1
      rw [e1]; exact Nat.mod_lt _ (Nat.two_pow_pos i)
    have hp : 2 ^ (i + 1) = 2 ^ i + 2 ^ i := by rw [Nat.pow_succ]; omega
    generalize k / 2 ^ (i + 1) = q at hd
    generalize k % 2 ^ (i + 1) = r at hd hm
    rw [← hd, show 2 ^ (i + 1) * q + r + 2 ^ i = 2 ^ (i + 1) * q + (r + 2 ^ i) by omega]
    rw [Nat.testBit_two_pow_mul_add _ (by omega), Nat.testBit_two_pow_mul_add _ (by omega), if_neg (by omega), if_neg (by omega)]
theorem bit_le {k i : Nat} (h : k.testBit i = true) : 2 ^ i ≤ k := by
  exact Nat.ge_two_pow_of_testBit h
theorem sub_bit_self {k i : Nat} (h : k.testBit i = true) : (k - 2 ^ i).testBit i = false := by
  have := Nat.testBit_two_pow_add_eq (k - 2 ^ i) i
  rw [show 2 ^ i + (k - 2 ^ i) = k by have := bit_le h; omega, h] at this
  simpa using this
theorem sub_bit_ne {k i j : Nat} (h : k.testBit i = true) (hj : j ≠ i) : (k - 2 ^ i).testBit j = k.testBit j := by
  have := add_bit_ne (sub_bit_self h) hj
  rw [show k - 2 ^ i + 2 ^ i = k by have := bit_le h; omega] at this
  exact this.symm
theorem or_bit (k i : Nat) : k ||| 2 ^ i = if k.testBit i = true then k else k + 2 ^ i := by
  apply Nat.eq_of_testBit_eq
  intro j
  rw [Nat.testBit_or, Nat.testBit_two_pow]
  split
  · rename_i h
    by_cases e : i = j
    · subst e; simp [h]
    · simp [e]
  · rename_i h
    have h : k.testBit i = false := by simpa using h
    by_cases e : i = j
    · subst e; rw [add_bit_self h]; simp
    · rw [add_bit_ne h (Ne.symm e)]; simp [e]
theorem add_bit_lt {k i n : Nat} (h : k.testBit i = false) (hk : k < 2 ^ n) (hi : i < n) : k + 2 ^ i < 2 ^ n := by
  rw [show k + 2 ^ i = k ||| 2 ^ i by rw [or_bit, if_neg (by simp [h])]]
  exact Nat.or_lt_two_pow hk (Nat.pow_lt_pow_right (by decide) hi)
/-- the highest of the pieces -/
theorem top_bit {k n : Nat} (h : k < 2 ^ (n + 1)) (h' : 2 ^ n ≤ k) : k.testBit n = true := by
  rw [← bit_iff]
  have hp : 2 ^ (n + 1) = 2 ^ n * 2 := Nat.pow_succ ..
  have : k / 2 ^ n = 1 := by
    apply Nat.div_eq_of_lt_le
    · omega
    · omega
  omega
/-! ### pairs -/
theorem put1_eq {room x n : Int} (hx : 0 ≤ x) : put1 room x n = if x / 10001 = 0 ∨ x % 10001 + n > room then (x / 10001 + 1) * 10001 + n else x + n := by
  unfold put1
  rw [Int.tdiv_eq_ediv_of_nonneg hx, Int.tmod_eq_emod_of_nonneg hx]
  split <;> omega
theorem put1_mono {room x y n : Int} (hx : 0 ≤ x) (hxy : x ≤ y) (hn : 1 ≤ n) : put1 room x n ≤ put1 room y n := by
  rw [put1_eq hx, put1_eq (by omega)]
  split <;> split <;> omega
theorem put1_ge {room x n : Int} (hx : 0 ≤ x) (hn : 1 ≤ n) : x < put1 room x n := by
  rw [put1_eq hx]
  split <;> omega
theorem put1_box {room x n : Int} (hx : 0 ≤ x) (hn : 1 ≤ n ∧ n ≤ room) (hr : room ≤ 10000) : put1 room x n / 10001 ≤ x / 10001 + 1 ∧ put1 room x n % 10001 ≤ room ∧ 1 ≤ put1 room x n % 10001 ∧ 1 ≤ put1 room x n / 10001 := by
  rw [put1_eq hx]
  split <;> omega
theorem put1_room {room room' x n : Int} (hx : 0 ≤ x) (hn : 1 ≤ n) (hr : room' ≤ room) (hs : x % 10001 ≤ 10000) : put1 room x n ≤ put1 room' x n := by
  rw [put1_eq hx, put1_eq hx]
  split <;> split <;> omega
/-! ### the table's entries -/
def tv (l : List Int) (room : Int) (k : Nat) : Int := entryP l room (tabP l room k) k
theorem tab_at (l : List Int) (room : Int) : ∀ {p k : Nat}, k < p → (tabP l room p)[k]? = some (tv l room k)
  | 0, k, h => absurd h (Nat.not_lt_zero _)
  | p + 1, k, h => by
    rw [tabP]
    by_cases e : k < p
    · rw [List.getElem?_append_left (by rw [tabP_len]; exact e)]; exact tab_at l room e
    · have : k = p := by omega
      subst this
      rw [List.getElem?_append_right (by rw [tabP_len]; exact Nat.le_refl _), tabP_len, Nat.sub_self]; rfl
theorem tab_getD (l : List Int) (room : Int) {p k : Nat} (h : k < p) : (tabP l room p).getD k 0 = tv l room k := by
  rw [List.getD_eq_getElem?_getD, tab_at l room h]; rfl
theorem tv_zero (l : List Int) (room : Int) : tv l room 0 = 0 := rfl
theorem minI_le (a b : Int) : minI a b ≤ a ∧ minI a b ≤ b ∧ (minI a b = a ∨ minI a b = b) := by
  unfold minI; split <;> omega
theorem bestP_le (room : Int) (T : List Int) (k : Nat) : ∀ (r : List Int) (i : Nat) (best : Int), bestP room T k r i best ≤ best ∧ ∀ (j : Nat) n, r[j]? = some n → k.testBit (i + j) = true → bestP room T k r i best ≤ put1 room (T.getD (k - 2 ^ (i + j)) 0) n
  | [], i, best => ⟨Int.le_refl _, fun j n h => by simp at h⟩
  | n :: r, i, best => by
    unfold bestP
    by_cases h0 : k / 2 ^ i % 2 = 0
    · rw [if_pos h0]
      have ih := bestP_le room T k r (i + 1) best
      refine ⟨ih.1, fun j m hj hb => ?_⟩
      cases j with
      | zero => rw [Nat.add_zero] at hb; rw [(bit_iff0 k i).1 h0] at hb; cases hb
      | succ j => have := ih.2 j m (by simpa using hj) (by rw [show i + 1 + j = i + (j + 1) by omega]; exact hb); rw [show i + 1 + j = i + (j + 1) by omega] at this; exact this
    · rw [if_neg h0]
      have ih := bestP_le room T k r (i + 1) (minI best (put1 room (T.getD (k - 2 ^ i) 0) n))
      have hm := minI_le best (put1 room (T.getD (k - 2 ^ i) 0) n)
      refine ⟨by omega, fun j m hj hb => ?_⟩
      cases j with
      | zero => simp at hj; subst hj; show _ ≤ put1 room (T.getD (k - 2 ^ i) 0) n; omega
      | succ j => have := ih.2 j m (by simpa using hj) (by rw [show i + 1 + j = i + (j + 1) by omega]; exact hb); rw [show i + 1 + j = i + (j + 1) by omega] at this; exact this
theorem bestP_mem (room : Int) (T : List Int) (k : Nat) : ∀ (r : List Int) (i : Nat) (best : Int), bestP room T k r i best = best ∨ ∃ (j : Nat) (n : Int), r[j]? = some n ∧ k.testBit (i + j) = true ∧ bestP room T k r i best = put1 room (T.getD (k - 2 ^ (i + j)) 0) n
  | [], i, best => .inl rfl
  | n :: r, i, best => by
    unfold bestP
    by_cases h0 : k / 2 ^ i % 2 = 0
    · rw [if_pos h0]
      rcases bestP_mem room T k r (i + 1) best with h | ⟨j, m, hj, hb, h⟩
      · exact .inl h
      · exact .inr ⟨j + 1, m, by simpa using hj, by rw [show i + (j + 1) = i + 1 + j by omega]; exact hb, by rw [show i + (j + 1) = i + 1 + j by omega]; exact h⟩
    · rw [if_neg h0]
      rcases bestP_mem room T k r (i + 1) (minI best (put1 room (T.getD (k - 2 ^ i) 0) n)) with h | ⟨j, m, hj, hb, h⟩
      · rcases (minI_le best (put1 room (T.getD (k - 2 ^ i) 0) n)).2.2 with e | e
        · exact .inl (h.trans e)
        · exact .inr ⟨0, n, rfl, by rw [Nat.add_zero]; exact (bit_iff k i).1 h0, by rw [Nat.add_zero]; exact h.trans e⟩
      · exact .inr ⟨j + 1, m, by simpa using hj, by rw [show i + (j + 1) = i + 1 + j by omega]; exact hb, by rw [show i + (j + 1) = i + 1 + j by omega]; exact h⟩
theorem tv_le {l : List Int} {room : Int} {k j : Nat} {n : Int} (hj : l[j]? = some n) (hb : k.testBit j = true) : tv l room k ≤ put1 room (tv l room (k - 2 ^ j)) n := by
  have hk : k ≠ 0 := by rintro rfl; simp at hb
  have := (bestP_le room (tabP l room k) k l 0 (10001 * ((l.length : Int) + 1))).2 j n hj (by rw [Nat.zero_add]; exact hb)
  rw [Nat.zero_add, tab_getD _ _ (by have := Nat.two_pow_pos j; omega)] at this
  unfold tv entryP
  rw [if_neg hk]; exact this
theorem tv_mem (l : List Int) (room : Int) {k : Nat} (hk : k ≠ 0) : tv l room k = 10001 * ((l.length : Int) + 1) ∨ ∃ (j : Nat) (n : Int), l[j]? = some n ∧ k.testBit j = true ∧ tv l room k = put1 room (tv l room (k - 2 ^ j)) n := by
  unfold tv entryP
  rw [if_neg hk]
  rcases bestP_mem room (tabP l room k) k l 0 (10001 * ((l.length : Int) + 1)) with h | ⟨j, n, hj, hb, h⟩
  · exact .inl h
  · rw [Nat.zero_add] at hb h
    rw [tab_getD _ _ (by have := Nat.two_pow_pos j; omega)] at h
    exact .inr ⟨j, n, hj, hb, h⟩
theorem tv_nonneg {l : List Int} {room : Int} (hsz : ∀ n ∈ l, 1 ≤ n) : ∀ k, 0 ≤ tv l room k := by
  intro k
  induction k using Nat.strongRecOn with
  | ind k ih =>
    by_cases hk : k = 0
    · subst hk; rw [tv_zero]; omega
    · rcases tv_mem l room hk with h | ⟨j, n, hj, hb, h⟩
      · omega
      · have := ih (k - 2 ^ j) (by have := Nat.two_pow_pos j; omega)
        have := put1_ge (room := room) this (hsz n (List.mem_of_getElem? hj))
        omega
structure OKl (l : List Int) (room : Int) : Prop where
  room1 : 1 ≤ room
  room2 : room ≤ 10000
  sz : ∀ n ∈ l, 1 ≤ n ∧ n ≤ room
theorem OKl.nonneg {l : List Int} {room : Int} (h : OKl l room) (k : Nat) : 0 ≤ tv l room k := tv_nonneg (fun n hn => (h.sz n hn).1) k
theorem OKl.pos {l : List Int} {room : Int} (h : OKl l room) {k : Nat} (hk : k ≠ 0) : 0 < tv l room k := by
  rcases tv_mem l room hk with e | ⟨j, n, hj, hb, e⟩
  · omega
  · have := put1_ge (room := room) (h.nonneg (k - 2 ^ j)) (h.sz n (List.mem_of_getElem? hj)).1
    have := h.nonneg (k - 2 ^ j)
    omega
theorem OKl.rem {l : List Int} {room : Int} (h : OKl l room) (k : Nat) : tv l room k % 10001 ≤ room := by
  have := h.room1
  by_cases hk : k = 0
  · subst hk; rw [tv_zero]; omega
  · rcases tv_mem l room hk with e | ⟨j, n, hj, hb, e⟩
    · omega
    · rw [e]; exact (put1_box (h.nonneg _) (h.sz n (List.mem_of_getElem? hj)) h.room2).2.1
theorem OKl.step {l : List Int} {room : Int} (h : OKl l room) {k i : Nat} {n : Int} (hi : l[i]? = some n) (hb : k.testBit i = false) : tv l room (k + 2 ^ i) ≤ put1 room (tv l room k) n := by
  have := tv_le (room := room) hi (add_bit_self hb)
  rwa [Nat.add_sub_cancel] at this
theorem OKl.mono {l : List Int} {room : Int} (h : OKl l room) {i : Nat} {n : Int} (hi : l[i]? = some n) : ∀ k, k.testBit i = false → tv l room k ≤ tv l room (k + 2 ^ i) := by
  intro k
  induction k using Nat.strongRecOn with
  | ind k ih =>
    intro hb
    have hM : k + 2 ^ i ≠ 0 := by have := Nat.two_pow_pos i; omega
    by_cases hk : k = 0
    · subst hk; rw [tv_zero]; exact h.nonneg _
    have hle : tv l room k ≤ 10001 * ((l.length : Int) + 1) := by
      unfold tv entryP
      rw [if_neg hk]
      exact (bestP_le room (tabP l room k) k l 0 (10001 * ((l.length : Int) + 1))).1
    rcases tv_mem l room hM with e | ⟨j, m, hj, hbj, e⟩
    · omega
    · have hm := h.sz m (List.mem_of_getElem? hj)
      by_cases hij : j = i
      · subst hij
        rw [Nat.add_sub_cancel] at e
        have := put1_ge (room := room) (h.nonneg k) hm.1
        omega
      · rw [add_bit_ne hb hij] at hbj
        have hle2 := bit_le hbj
        have hb' : (k - 2 ^ j).testBit i = false := by rw [sub_bit_ne hbj (Ne.symm hij)]; exact hb
        have := ih (k - 2 ^ j) (by have := Nat.two_pow_pos j; omega) hb'
        rw [show k - 2 ^ j + 2 ^ i = k + 2 ^ i - 2 ^ j from (Nat.sub_add_comm hle2).symm] at this
        have h2 := put1_mono (room := room) (h.nonneg _) this hm.1
        have h3 := tv_le (room := room) hj hbj
        omega
theorem OKl.boxes {l : List Int} {room : Int} (h : OKl l room) : ∀ (j : Nat), j ≤ l.length → ∀ k, k < 2 ^ j → tv l room k / 10001 ≤ j := by
  intro j
  induction j with
  | zero => intro _ k hk; have : k = 0 := (by simpa using hk); subst this; rw [tv_zero]; omega
  | succ j ih =>
    intro hj k hk
    rcases Nat.lt_or_ge k (2 ^ j) with hlt | hge
    · have := ih (by omega) k hlt; omega
    · have hb := top_bit hk hge
      have hn : l[j]? = some l[j] := by simp
      have h1 := tv_le (room := room) hn hb
      have hp : 2 ^ (j + 1) = 2 ^ j + 2 ^ j := by rw [Nat.pow_succ]; omega
      have h2 := ih (by omega) (k - 2 ^ j) (by omega)
      have h3 := put1_box (h.nonneg (k - 2 ^ j)) (h.sz _ (List.mem_of_getElem? hn)) h.room2
      have h4 := h.nonneg k
      omega
/-- the first value is never the least -/
theorem OKl.lt {l : List Int} {room : Int} (h : OKl l room) {k : Nat} (hk : k < 2 ^ l.length) : tv l room k < 10001 * ((l.length : Int) + 1) := by
  have h1 := h.boxes l.length (Nat.le_refl _) k hk
  have := h.nonneg k
  omega
theorem OKl.mem {l : List Int} {room : Int} (h : OKl l room) {k : Nat} (hk : k < 2 ^ l.length) (h0 : k ≠ 0) : ∃ (j : Nat) (n : Int), l[j]? = some n ∧ k.testBit j = true ∧ tv l room k = put1 room (tv l room (k - 2 ^ j)) n := by
  rcases tv_mem l room h0 with e | h'
  · have := h.lt hk; omega
  · exact h'
end Go.Abs.L39
