import Derived.Test.YtjpcpnakcapojaaC38y
namespace Go.Abs.L38
open Go Go.Abs Go.Proofs
set_option linter.unusedVariables false
set_option maxRecDepth 20000
/-! ### Compare -/
def cmpI (a b : Int) : Int := if a < b then -1 else if a > b then 1 else 0
def cmpL : List Int → List Int → Int
  | [], [] => 0
  | [], _ :: _ => -1
  | _ :: _, [] => 1
  | a :: l, b :: m => if cmpI a b ≠ 0 then cmpI a b else cmpL l m
theorem c55 (a : Int) : Fn Try.prog 55 [I a] (.bool false) := by
  refine mk55 rfl ?_
  exact ⟨rfl, rfl, by show AV.bool false = AV.bool (a != a); simp⟩
theorem c47 (a b : Int) : Fn Try.prog 47 [I a, I b] (I (cmpI a b)) := by
  refine mk47 rfl ⟨_, c55 a, _, c55 b, fun h => (by cases h), fun _ => ⟨fun h => (by cases h), fun _ => ⟨fun h => ?_, fun h => ⟨fun h2 => ?_, fun h2 => ?_⟩⟩⟩⟩
  · rw [cmpI, if_pos (of_decide_eq_true h)]; exact ⟨rfl, rfl, rfl⟩
  · rw [cmpI, if_neg (of_decide_eq_false h), if_pos (of_decide_eq_true h2)]; exact ⟨rfl, rfl, rfl⟩
  · rw [cmpI, if_neg (of_decide_eq_false h), if_neg (of_decide_eq_false h2)]; exact ⟨rfl, rfl, rfl⟩
theorem c29 (l m : List Int) (hl : l.length ≤ 9223372036854775807) (hm : m.length ≤ 9223372036854775807) : Fn Try.prog 29 [A l, A m] (I (cmpL l m)) := by
  refine mk29 rfl ⟨fun q c => ∃ i : Nat, i ≤ l.length ∧ i ≤ m.length ∧ q = l.length - i ∧ cmpL (l.drop i) (m.drop i) = cmpL l m ∧ c = ⟨[(0, A l), (1, A m), (9, A l), (10, I l.length), (11, I i)], []⟩, ⟨_, _, Wk.keep [0, 1, 9, 10, 11] [], 0, by omega, by omega, rfl, rfl, rfl⟩, ?_⟩
  rintro q c ⟨i, hi, hi2, rfl, hC, rfl⟩
  refine ⟨fun h => ?_, fun h => ?_⟩
  · have h : i < l.length := by have := of_decide_eq_true h; omega
    obtain ⟨a, ha, hd, _⟩ := drop_cons h
    rw [hd] at hC
    refine ⟨⟨by omega, by omega⟩, enc a, get_map ha, fun h2 => ?_, fun h2 => ?_⟩
    · have h2 : i = m.length := by have := of_decide_eq_true h2; omega
      rw [h2, List.drop_length, cmpL] at hC
      rw [← hC]; exact ⟨rfl, rfl, rfl⟩
    · have h2 : i < m.length := by have := of_decide_eq_false h2; omega
      obtain ⟨b, hb, hd2, _⟩ := drop_cons h2
      rw [hd2, cmpL] at hC
      refine ⟨⟨by omega, by omega⟩, enc b, get_map hb, _, c47 a b, fun h3 => ?_, fun h3 => ?_⟩
      · have h3 : cmpI a b ≠ 0 := by simpa using h3
        rw [if_pos h3] at hC
        rw [← hC]; exact ⟨rfl, rfl, rfl⟩
      · have h3 : cmpI a b = 0 := by simpa using h3
        rw [if_neg (by omega)] at hC
        exact ⟨((i + 1 : Nat) : Int), wrapTo (by omega) (by omega) (by omega), _, _, Wk.keep [0, 1, 9, 10, 11] [], by omega, i + 1, h, h2, rfl, hC, rfl⟩
  · have h : i = l.length := by have := of_decide_eq_false h; omega
    subst h
    rw [List.drop_length] at hC
    refine ⟨fun h2 => ?_, fun h2 => ?_⟩
    · have h2 : l.length < m.length := by have := of_decide_eq_true h2; omega
      obtain ⟨b, hb, hd2, _⟩ := drop_cons h2
      rw [hd2, cmpL] at hC
      rw [← hC]; exact ⟨rfl, rfl, rfl⟩
    · have h2 : l.length = m.length := by have := of_decide_eq_false h2; omega
      rw [h2, List.drop_length, cmpL] at hC
      rw [← hC]; exact ⟨rfl, rfl, rfl⟩
end Go.Abs.L38
