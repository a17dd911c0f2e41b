import Derived.Test.YtnmpnlhlbjemeaaC39s
namespace Go.Abs.L39
open Go Go.Abs Go.Proofs
set_option linter.unusedVariables false
set_option maxRecDepth 20000
def sumE : List Int → Int
  | [] => 0
  | n :: r => n + sumE r
def largeE (room : Int) : List Int → Int
  | [] => 0
  | n :: r => (if 2 * n > room then 1 else 0) + largeE room r
def bndE (l : List Int) (room : Int) : Int := if chkE l room ≠ 0 then 0 else maxI ((sumE l + room - 1).tdiv room) (largeE room l)
def bndR (l : List Int) (room : Int) : Int := if chkE l room ≠ 0 then 1 else 0
theorem c15 (l : List Int) (hl : l.length ≤ 9223372036854775807) (room : Int) : Fn Try.prog 15 [A l, I room] (.tup [I (bndE l room), I (bndR l room)]) := by
  refine mk15 rfl ⟨_, c31 l hl room, fun h => ?_, fun h => ?_⟩
  · have h : chkE l room ≠ 0 := by simpa using h
    rw [bndE, bndR, if_pos h, if_pos h]; exact ⟨_, _, rfl, ⟨rfl, rfl⟩, rfl, rfl, trivial⟩
  · have h : chkE l room = 0 := by simpa using h
    rw [bndE, bndR, if_neg (by omega), if_neg (by omega)]
    obtain ⟨h1, h2, h3, h4⟩ := chk_ok h
    refine ⟨fun q c => ∃ (i : Nat) (s g : Int), i ≤ l.length ∧ q = l.length - i ∧ 0 ≤ s ∧ s ≤ 10000 * i ∧ 0 ≤ g ∧ g ≤ i ∧ s + sumE (l.drop i) = sumE l ∧ g + largeE room (l.drop i) = largeE room l ∧
      c = ⟨[(0, A l), (1, I room), (6, I s), (7, I g), (14, A l), (15, I l.length), (16, I i)], []⟩, ⟨_, _, Wk.keep [0, 1, 6, 7, 14, 15, 16] [], 0, 0, 0, by omega, rfl, by omega, by omega, by omega, by omega, by simp, by simp, rfl⟩, ?_⟩
    rintro q c ⟨i, s, g, hi, rfl, hs0, hs1, hg0, hg1, hS, hG, rfl⟩
    refine ⟨fun h5 => ?_, fun h5 => ?_⟩
    · simp at h5
      obtain ⟨n, hn, hd, _⟩ := drop_cons h5
      have hn0 := h4 n (List.mem_of_getElem? hn)
      rw [hd, sumE] at hS
      rw [hd, largeE] at hG
      refine ⟨⟨by omega, by omega⟩, enc n, get_map hn, _, wrap64 (by omega) (by omega), _, wrap64 (by omega) (by omega), fun hz => ?_, fun hz => ?_⟩
      · have hz : 2 * n > room := by simpa using hz
        rw [if_pos hz] at hG
        refine ⟨_, wrap64 (by omega) (by omega), _, wrap64 (by omega) (by omega), ?_⟩
        exact ⟨_, _, Wk.keep [0, 1, 6, 7, 14, 15, 16] [], by omega, i + 1, s + n, g + 1, by omega, rfl, by omega, by omega, by omega, by omega, by omega, by omega, rfl⟩
      · have hz : ¬ 2 * n > room := by simpa using hz
        rw [if_neg hz] at hG
        refine ⟨_, wrap64 (by omega) (by omega), ?_⟩
        exact ⟨_, _, Wk.keep [0, 1, 6, 7, 14, 15, 16] [], by omega, i + 1, s + n, g, by omega, rfl, by omega, by omega, by omega, by omega, by omega, by omega, rfl⟩
    · simp at h5
      have hil : i = l.length := by omega
      subst hil
      simp [sumE] at hS
      simp [largeE] at hG
      subst hS hG
      refine ⟨_, wrap64 (by omega) (by omega), _, wrap64 (by omega) (by omega), by omega, (sumE l + room - 1).tdiv room, wrap64 ?_ ?_, ?_⟩
      · have := Int.tdiv_eq_ediv_of_nonneg (a := sumE l + room - 1) (b := room) (by omega)
        rw [this]; have := Int.ediv_nonneg (a := sumE l + room - 1) (b := room) (by omega) (by omega); omega
      · have := Int.tdiv_eq_ediv_of_nonneg (a := sumE l + room - 1) (b := room) (by omega)
        rw [this]; have := Int.ediv_le_self (b := room) (a := sumE l + room - 1) (by omega); omega
      exact ⟨_, _, rfl, ⟨rfl, rfl⟩, rfl, rfl, trivial⟩
theorem c16 (l : List Int) (hl : l.length ≤ 9223372036854775807) (room : Int) : Fn Try.prog 16 [A l, I room] (.tup [I (bndE l room), I (bndR l room)]) := by
  refine mk16 rfl ⟨_, c32 l hl room, fun h => ?_, fun h => ?_⟩
  · have h : chkE l room ≠ 0 := by simpa using h
    rw [bndE, bndR, if_pos h, if_pos h]; exact ⟨_, _, rfl, ⟨rfl, rfl⟩, rfl, rfl, trivial⟩
  · have h : chkE l room = 0 := by simpa using h
    rw [bndE, bndR, if_neg (by omega), if_neg (by omega)]
    obtain ⟨h1, h2, h3, h4⟩ := chk_ok h
    refine ⟨fun q c => ∃ (i : Nat) (s g : Int), i ≤ l.length ∧ q = l.length - i ∧ 0 ≤ s ∧ s ≤ 10000 * i ∧ 0 ≤ g ∧ g ≤ i ∧ s + sumE (l.drop i) = sumE l ∧ g + largeE room (l.drop i) = largeE room l ∧
      c = ⟨[(0, A l), (1, I room), (6, I s), (7, I g), (14, A l), (15, I l.length), (16, I i)], []⟩, ⟨_, _, Wk.keep [0, 1, 6, 7, 14, 15, 16] [], 0, 0, 0, by omega, rfl, by omega, by omega, by omega, by omega, by simp, by simp, rfl⟩, ?_⟩
    rintro q c ⟨i, s, g, hi, rfl, hs0, hs1, hg0, hg1, hS, hG, rfl⟩
    refine ⟨fun h5 => ?_, fun h5 => ?_⟩
    · simp at h5
      obtain ⟨n, hn, hd, _⟩ := drop_cons h5
      have hn0 := h4 n (List.mem_of_getElem? hn)
      rw [hd, sumE] at hS
      rw [hd, largeE] at hG
      refine ⟨⟨by omega, by omega⟩, enc n, get_map hn, _, wrap64 (by omega) (by omega), _, wrap64 (by omega) (by omega), fun hz => ?_, fun hz => ?_⟩
      · have hz : 2 * n > room := by simpa using hz
        rw [if_pos hz] at hG
        refine ⟨_, wrap64 (by omega) (by omega), _, wrap64 (by omega) (by omega), ?_⟩
        exact ⟨_, _, Wk.keep [0, 1, 6, 7, 14, 15, 16] [], by omega, i + 1, s + n, g + 1, by omega, rfl, by omega, by omega, by omega, by omega, by omega, by omega, rfl⟩
      · have hz : ¬ 2 * n > room := by simpa using hz
        rw [if_neg hz] at hG
        refine ⟨_, wrap64 (by omega) (by omega), ?_⟩
        exact ⟨_, _, Wk.keep [0, 1, 6, 7, 14, 15, 16] [], by omega, i + 1, s + n, g, by omega, rfl, by omega, by omega, by omega, by omega, by omega, by omega, rfl⟩
    · simp at h5
      have hil : i = l.length := by omega
      subst hil
      simp [sumE] at hS
      simp [largeE] at hG
      subst hS hG
      refine ⟨_, wrap64 (by omega) (by omega), _, wrap64 (by omega) (by omega), by omega, (sumE l + room - 1).tdiv room, wrap64 ?_ ?_, ?_⟩
      · have := Int.tdiv_eq_ediv_of_nonneg (a := sumE l + room - 1) (b := room) (by omega)
        rw [this]; have := Int.ediv_nonneg (a := sumE l + room - 1) (b := room) (by omega) (by omega); omega
      · have := Int.tdiv_eq_ediv_of_nonneg (a := sumE l + room - 1) (b := room) (by omega)
        rw [this]; have := Int.ediv_le_self (b := room) (a := sumE l + room - 1) (by omega); omega
      exact ⟨_, _, rfl, ⟨rfl, rfl⟩, rfl, rfl, trivial⟩
theorem beq_drop {l m : List Int} {i : Nat} {x y : Int} (hx : l[i]? = some x) (hy : m[i]? = some y) (hd : l.drop i = x :: l.drop (i + 1)) (hd' : m.drop i = y :: m.drop (i + 1)) : (l.drop i == m.drop i) = (x == y && (l.drop (i + 1) == m.drop (i + 1))) := by
  rw [hd, hd']; rfl
theorem c24 (l m : List Int) (hl : l.length ≤ 9223372036854775807) : Fn Try.prog 24 [A l, A m] (.bool (l == m)) := by
  refine mk24 rfl ⟨fun h => ?_, fun h => ?_⟩
  · have h : l.length ≠ m.length := by simp at h; omega
    have : (l == m) = false := by simp; rintro rfl; exact h rfl
    rw [this]; exact ⟨rfl, rfl, rfl⟩
  · have h : l.length = m.length := by simp at h; omega
    refine ⟨fun q c => ∃ i : Nat, i ≤ l.length ∧ q = l.length - i ∧ (l.drop i == m.drop i) = (l == m) ∧
      c = ⟨[(0, A l), (1, A m), (12, I l.length), (13, I i)], []⟩, ⟨_, _, Wk.keep [0, 1, 12, 13] [], 0, by omega, rfl, by simp, rfl⟩, ?_⟩
    rintro q c ⟨i, hi, rfl, hI, rfl⟩
    refine ⟨fun h5 => ?_, fun h5 => ?_⟩
    · simp at h5
      obtain ⟨n, hn, hd, _⟩ := drop_cons h5
      obtain ⟨n', hn', hd', _⟩ := drop_cons (l := m) (i := i) (by omega)
      rw [beq_drop hn hn' hd hd'] at hI
      refine ⟨⟨by omega, by omega⟩, enc n, get_map hn, ⟨by omega, by omega⟩, enc n', get_map hn', fun hz => ?_, fun hz => ?_⟩
      · have hz : (n == n') = false := by
          have : ((n != n')) = true := hz
          simpa [bne] using this
        rw [hz] at hI
        rw [← hI]; exact ⟨rfl, rfl, rfl⟩
      · have hz : (n == n') = true := by
          have : ((n != n')) = false := hz
          simpa [bne] using this
        rw [hz, Bool.true_and] at hI
        refine ⟨_, wrap64 (by omega) (by omega), ?_⟩
        exact ⟨_, _, Wk.keep [0, 1, 12, 13] [], by omega, i + 1, by omega, rfl, hI, rfl⟩
    · simp at h5
      have hil : i = l.length := by omega
      subst hil
      have : (l == m) = true := by rw [← hI, List.drop_length, h, List.drop_length]; rfl
      rw [this]; exact ⟨rfl, rfl, rfl⟩
end Go.Abs.L39
