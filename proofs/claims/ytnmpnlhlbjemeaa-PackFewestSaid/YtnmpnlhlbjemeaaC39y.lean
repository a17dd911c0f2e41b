import Derived.Test.YtnmpnlhlbjemeaaC39x
namespace Go.Abs.L39
open Go Go.Abs Go.Proofs
set_option linter.unusedVariables false
set_option maxRecDepth 20000
/-! ### Valid -/
inductive Vd (α : Type) where
  | err (e : Int)
  | ok (a : α)
def Vd.code {α : Type} (f : α → Int) : Vd α → Int
  | .err e => e
  | .ok a => f a
def inV (l : List Int) : List Int → Option Int → List Bool → Int → Vd (List Bool × Int)
  | [], _, S, s => .ok (S, s)
  | n :: r, prev, S, s => if n < 0 ∨ n ≥ l.length then .err 2 else if S.getD n.toNat false = true then .err 6 else if prev.any (fun p => decide (n < p)) = true then .err 5 else inV l r (some n) (S.set n.toNat true) (s + l.getD n.toNat 0)
def outV (l : List Int) (room : Int) : List (List Int) → Option Int → List Bool → Vd (List Bool)
  | [], _, S => .ok S
  | b :: r, prev, S => if b = [] then .err 9 else match inV l b prev S 0 with
    | .err e => .err e
    | .ok (S', s) => if s > room then .err 12 else outV l room r b.head? S'
def endV (S : List Bool) : Int := if S.any (false == ·) = true then 10 else 0
def validE (l : List Int) (room : Int) (T : List (List Int)) : Int := if chkE l room ≠ 0 then 1 else (outV l room T none (List.replicate l.length false)).code endV
abbrev O28 (S : List Bool) : List (Nat × OBlk) := [(304, ⟨4, 1, .pure, S.map encB⟩)]
abbrev G28 (l : List Int) (room : Int) (T : List (List Int)) (k : Nat) : List (Nat × AV) := [(0, A l), (1, I room), (2, AA T), (7, .osl 304 1 l.length), (20, AA T), (21, I T.length), (22, I k)]
abbrev H28 (l : List Int) (room : Int) (T : List (List Int)) (k : Nat) (b : List Int) (s : Int) (i : Nat) : List (Nat × AV) := [(0, A l), (1, I room), (2, AA T), (7, .osl 304 1 l.length), (8, I k), (9, A b), (10, I s), (20, AA T), (21, I T.length), (22, I k), (30, A b), (31, I b.length), (32, I i)]
theorem S_row {S : List Bool} {k : Nat} (h : k < S.length) : (S.map encB)[k]? = some [.bool (S.getD k false)] := by
  rw [List.getElem?_map, List.getD_eq_getElem?_getD, List.getElem?_eq_getElem h]; rfl
theorem S_set {S : List Bool} {k : Nat} : (S.map encB).set k [.bool true] = (S.set k true).map encB := by
  rw [List.map_set]; rfl
set_option maxHeartbeats 2000000 in
theorem c28 (l : List Int) (hl : l.length ≤ 9223372036854775807) (room : Int) (T : List (List Int)) (hT : T.length ≤ 9223372036854775807) (hTb : ∀ b ∈ T, b.length ≤ 100000) : Fn Try.prog 28 [A l, I room, AA T] (I (validE l room T)) := by
  refine mk28 rfl ⟨_, c31 l hl room, fun h => ?_, fun h => ?_⟩
  · have h : chkE l room ≠ 0 := by simpa using h
    rw [validE, if_pos h]; exact ⟨rfl, rfl, rfl⟩
  have h : chkE l room = 0 := by simpa using h
  obtain ⟨hr1, hr2, hlen, hsz⟩ := chk_ok h
  have hv : validE l room T = (outV l room T none (List.replicate l.length false)).code endV := by rw [validE, if_neg (by omega)]
  rw [hv]
  refine ⟨⟨rfl, by omega, by show (1 : Int) * _ ≤ _; omega, by omega⟩, ?_⟩
  refine ⟨fun q c => ∃ (k : Nat) (prev : Option Int) (S : List Bool), k ≤ T.length ∧ q = T.length - k ∧ S.length = l.length ∧ (k = 0 → prev = none) ∧ (∀ j, k = j + 1 → ∃ (p : Int) (b : List Int), prev = some p ∧ T[j]? = some (p :: b)) ∧ outV l room (T.drop k) prev S = outV l room T none (List.replicate l.length false) ∧ c = ⟨G28 l room T k, O28 S⟩, ⟨_, _, Wk.keep [0, 1, 2, 7, 20, 21, 22] [304], 0, none, List.replicate l.length false, by omega, rfl, by simp, fun _ => rfl, fun j hj => (by omega), rfl, ?_⟩, ?_⟩
  · have e : (List.replicate l.length false).map encB = List.replicate l.length [.bool false] := by rw [List.map_replicate]; rfl
    show _ = Cfg.mk _ [(304, (⟨4, 1, .pure, (List.replicate l.length false).map encB⟩ : OBlk))]
    rw [e]; rfl
  rintro q c ⟨k, prev, S, hk, rfl, hS, hp0, hp1, hI, rfl⟩
  refine ⟨fun hc => ?_, fun hc => ?_⟩
  · simp at hc
    obtain ⟨b, hb, hd, _⟩ := drop_cons hc
    rw [hd, outV] at hI
    have hbl := hTb b (List.mem_of_getElem? hb)
    refine ⟨⟨by omega, by omega⟩, encT b, get_map hb, fun hz => ?_, fun hz => ?_⟩
    · have hz : b = [] := by
        have hz : ((b.length : Int) == 0) = true := hz
        have : b.length = 0 := by simpa using hz
        exact List.eq_nil_of_length_eq_zero this
      rw [if_pos hz] at hI
      rw [← hI]; exact ⟨rfl, rfl, rfl⟩
    have hz : b ≠ [] := by
      rintro rfl; cases hz
    rw [if_neg hz] at hI
    refine ⟨fun q c => ∃ (i : Nat) (pr : Option Int) (S' : List Bool) (s : Int), i ≤ b.length ∧ q = b.length - i ∧ S'.length = l.length ∧ 0 ≤ s ∧ s ≤ 10000 * i ∧ (i = 0 → pr = prev) ∧ (∀ j, i = j + 1 → ∃ p : Int, pr = some p ∧ b[j]? = some p) ∧ inV l (b.drop i) pr S' s = inV l b prev S 0 ∧ c = ⟨H28 l room T k b s i, O28 S'⟩,
      ⟨_, _, Wk.keep [0, 1, 2, 7, 8, 9, 10, 20, 21, 22, 30, 31, 32] [304], 0, prev, S, 0, by omega, rfl, hS, by omega, by omega, fun _ => rfl, fun j hj => (by omega), rfl, rfl⟩, ?_⟩
    rintro q c ⟨i, pr, S', s, hi, rfl, hS', hs0, hs1, hq0, hq1, hJ, rfl⟩
    refine ⟨fun hc2 => ?_, fun hc2 => ?_⟩
    · simp at hc2
      obtain ⟨n, hn, hd2, _⟩ := drop_cons hc2
      rw [hd2, inV] at hJ
      refine ⟨⟨by omega, by omega⟩, enc n, get_map hn, ?_⟩
      by_cases hn0 : n < 0
      · rw [if_pos (.inl hn0)] at hJ
        rw [← hJ] at hI
        rw [← hI]
        exact ⟨[(2, true)], by simpa using hn0, fun _ => ⟨rfl, rfl, rfl⟩, fun h => (by cases h)⟩
      refine ⟨[(2, false)], by simpa using hn0, fun hz1 => ?_, fun hz1 => ?_⟩
      · have hz1 : n ≥ l.length := by simpa using hz1
        rw [if_pos (.inr hz1)] at hJ
        rw [← hJ] at hI
        rw [← hI]; exact ⟨rfl, rfl, rfl⟩
      have hz1 : ¬ n ≥ l.length := by simpa using hz1
      rw [if_neg (by omega)] at hJ
      have hnl : n.toNat < l.length := by omega
      have hrow := S_row (S := S') (k := n.toNat) (by omega)
      refine ⟨⟨by omega, by omega⟩, _, hrow, fun hz2 => ?_, fun hz2 => ?_⟩
      · have hz2 : S'.getD n.toNat false = true := hz2
        rw [if_pos hz2] at hJ
        rw [← hJ] at hI
        rw [← hI]; exact ⟨rfl, rfl, rfl⟩
      have hz2 : S'.getD n.toNat false = false := hz2
      rw [if_neg (by rw [hz2]; simp)] at hJ
      obtain ⟨z, hz3, _, _⟩ := drop_cons hnl
      have hz0 := hsz z (List.mem_of_getElem? hz3)
      rw [show l.getD n.toNat 0 = z by rw [List.getD_eq_getElem?_getD, hz3]; rfl] at hJ
      by_cases hi0 : i = 0
      · have hpr := hq0 hi0
        by_cases hk0 : k = 0
        · rw [show pr.any (fun p => decide (n < p)) = false by rw [hpr, hp0 hk0]; rfl, if_neg (by simp)] at hJ
          refine ⟨[(2, false), (11, false), (14, true), (18, false)], by simp; omega, rfl, by simp; omega, by simp; omega, fun h => (by cases h), fun _ => ?_⟩
          refine ⟨⟨by omega, by omega⟩, _, hrow, ⟨by omega, by omega⟩, enc z, get_map hz3, _, wrap64 (by omega) (by omega), _, wrap64 (by omega) (by omega), ?_⟩
          refine ⟨_, _, Wk.keep [0, 1, 2, 7, 8, 9, 10, 20, 21, 22, 30, 31, 32] [304], by omega, i + 1, some n, S'.set n.toNat true, s + z, by omega, rfl, by rw [List.length_set]; exact hS', by omega, by omega, fun hx => (by omega), fun j hj => ⟨n, rfl, by rw [show j = i by omega]; exact hn⟩, hJ, ?_⟩
          show _ = Cfg.mk _ [(304, (⟨4, 1, .pure, (S'.set n.toNat true).map encB⟩ : OBlk))]
          rw [← S_set]; rfl
        · obtain ⟨p, b', hp2, hp3⟩ := hp1 (k - 1) (by omega)
          rw [show pr.any (fun p => decide (n < p)) = decide (n < p) by rw [hpr, hp2]; rfl] at hJ
          have hp3' : (T.map encT)[((k : Int) - 1).toNat]? = some (encT (p :: b')) := by
            rw [show ((k : Int) - 1).toNat = k - 1 by omega]; exact get_map hp3
          refine ⟨[(2, false), (11, false), (14, true), (18, true)], by simp; omega, rfl, by simp; omega, by simp; omega, _, wrap64 (by omega) (by omega), ⟨by omega, by omega⟩, encT (p :: b'), hp3', ⟨by omega, by simp⟩, enc p, rfl, fun hz4 => ?_, fun hz4 => ?_⟩
          · have hz4 : n < p := by simpa using hz4
            rw [if_pos (by simpa using hz4)] at hJ
            rw [← hJ] at hI
            rw [← hI]; exact ⟨rfl, rfl, rfl⟩
          · have hz4 : ¬ n < p := by simpa using hz4
            rw [if_neg (by simpa using hz4)] at hJ
            refine ⟨⟨by omega, by omega⟩, _, hrow, ⟨by omega, by omega⟩, enc z, get_map hz3, _, wrap64 (by omega) (by omega), _, wrap64 (by omega) (by omega), ?_⟩
            refine ⟨_, _, Wk.keep [0, 1, 2, 7, 8, 9, 10, 20, 21, 22, 30, 31, 32] [304], by omega, i + 1, some n, S'.set n.toNat true, s + z, by omega, rfl, by rw [List.length_set]; exact hS', by omega, by omega, fun hx => (by omega), fun j hj => ⟨n, rfl, by rw [show j = i by omega]; exact hn⟩, hJ, ?_⟩
            show _ = Cfg.mk _ [(304, (⟨4, 1, .pure, (S'.set n.toNat true).map encB⟩ : OBlk))]
            rw [← S_set]; rfl
      · obtain ⟨p, hp2, hp3⟩ := hq1 (i - 1) (by omega)
        rw [show pr.any (fun p => decide (n < p)) = decide (n < p) by rw [hp2]; rfl] at hJ
        have hp3' : (b.map enc)[((i : Int) - 1).toNat]? = some (enc p) := by
          rw [show ((i : Int) - 1).toNat = i - 1 by omega]; exact get_map hp3
        by_cases hz4 : n < p
        · rw [if_pos (by simpa using hz4)] at hJ
          rw [← hJ] at hI
          rw [← hI]
          refine ⟨[(2, true), (11, true)], by simp; omega, _, wrap64 (by omega) (by omega), ⟨by omega, by omega⟩, enc p, hp3', by simpa using hz4, fun _ => ⟨rfl, rfl, rfl⟩, fun h => (by cases h)⟩
        · rw [if_neg (by simpa using hz4)] at hJ
          refine ⟨[(2, true), (11, false), (14, false), (18, false)], by simp; omega, _, wrap64 (by omega) (by omega), ⟨by omega, by omega⟩, enc p, hp3', by simpa using hz4, by simp; omega, rfl, fun h => (by cases h), fun _ => ?_⟩
          refine ⟨⟨by omega, by omega⟩, _, hrow, ⟨by omega, by omega⟩, enc z, get_map hz3, _, wrap64 (by omega) (by omega), _, wrap64 (by omega) (by omega), ?_⟩
          refine ⟨_, _, Wk.keep [0, 1, 2, 7, 8, 9, 10, 20, 21, 22, 30, 31, 32] [304], by omega, i + 1, some n, S'.set n.toNat true, s + z, by omega, rfl, by rw [List.length_set]; exact hS', by omega, by omega, fun hx => (by omega), fun j hj => ⟨n, rfl, by rw [show j = i by omega]; exact hn⟩, hJ, ?_⟩
          show _ = Cfg.mk _ [(304, (⟨4, 1, .pure, (S'.set n.toNat true).map encB⟩ : OBlk))]
          rw [← S_set]; rfl
    · simp at hc2
      have hib : i = b.length := by omega
      subst hib
      rw [List.drop_length, inV] at hJ
      rw [← hJ] at hI
      refine ⟨fun hz5 => ?_, fun hz5 => ?_⟩
      · have hz5 : s > room := by simpa using hz5
        have hI : (if s > room then .err 12 else outV l room (T.drop (k + 1)) b.head? S' : Vd (List Bool)) = outV l room T none (List.replicate l.length false) := hI
        rw [if_pos hz5] at hI
        rw [← hI]; exact ⟨rfl, rfl, rfl⟩
      · have hz5 : ¬ s > room := by simpa using hz5
        have hI : (if s > room then .err 12 else outV l room (T.drop (k + 1)) b.head? S' : Vd (List Bool)) = outV l room T none (List.replicate l.length false) := hI
        rw [if_neg hz5] at hI
        refine ⟨_, wrap64 (by omega) (by omega), ?_⟩
        refine ⟨_, _, Wk.keep [0, 1, 2, 7, 20, 21, 22] [304], by omega, k + 1, b.head?, S', by omega, rfl, hS', fun hx => (by omega), fun j hj => ?_, hI, rfl⟩
        have : j = k := by omega
        subst this
        cases b with
        | nil => exact absurd rfl hz
        | cons p b' => exact ⟨p, b', rfl, hb⟩
  · have : k = T.length := by simp at hc; omega
    subst this
    rw [List.drop_length, outV] at hI
    rw [← hI]
    have k39 : Fn Try.prog 39 [.rsl 1 l.length ((S.map encB).take l.length), .bool false] (.bool (S.any (false == ·))) := by
      rw [List.take_of_length_le (by rw [List.length_map]; omega), ← hS]
      exact c39 S (by omega) false
    refine ⟨_, k39, fun hz6 => ?_, fun hz6 => ?_⟩
    · have hz6 : S.any (false == ·) = true := hz6
      show ev _ _ _ _ _ _ _
      rw [Vd.code, endV, if_pos hz6]; exact ⟨rfl, rfl, rfl⟩
    · have hz6 : S.any (false == ·) = false := hz6
      rw [Vd.code, endV, if_neg (by rw [hz6]; simp)]; exact ⟨rfl, rfl, rfl⟩
end Go.Abs.L39
