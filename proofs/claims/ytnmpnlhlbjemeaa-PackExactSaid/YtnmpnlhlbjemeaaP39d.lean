import Derived.Test.YtnmpnlhlbjemeaaC2
namespace Go.Abs.L39
open Go Go.Abs Go.Proofs
set_option linter.unusedVariables false
set_option maxRecDepth 20000
/-! ### what Valid accepts -/
abbrev up (b : List Nat) : List Int := b.map fun j : Nat => (j : Int)
def markL : List Bool → List Nat → List Bool
  | S, [] => S
  | S, j :: r => markL (S.set j true) r
theorem markL_len : ∀ (b : List Nat) (S : List Bool), (markL S b).length = S.length
  | [], S => rfl
  | j :: r, S => by rw [markL, markL_len r]; simp
theorem markL_app : ∀ (a b : List Nat) (S : List Bool), markL S (a ++ b) = markL (markL S a) b
  | [], b, S => rfl
  | j :: r, b, S => by rw [List.cons_append, markL, markL, markL_app r]
theorem getD_set {S : List Bool} {i j : Nat} (hi : i < S.length) : (S.set i true).getD j false = (S.getD j false || decide (j = i)) := by
  rw [List.getD_eq_getElem?_getD, List.getD_eq_getElem?_getD, List.getElem?_set]
  by_cases e : i = j
  · subst e; simp [hi]
  · rw [if_neg e]
    have : ¬ j = i := fun h => e h.symm
    simp [this]
theorem markL_get : ∀ (b : List Nat) (S : List Bool) (j : Nat), (∀ i ∈ b, i < S.length) → (markL S b).getD j false = (S.getD j false || decide (j ∈ b))
  | [], S, j, _ => by simp [markL]
  | i :: r, S, j, h => by
    rw [markL, markL_get r _ j (fun k hk => by rw [List.length_set]; exact h k (by simp [hk])), getD_set (h i (by simp)), Bool.or_assoc]
    congr 1
    by_cases e : j = i <;> simp [e]
theorem inV_inv {l : List Int} : ∀ {b : List Int} {prev : Option Int} {S S' : List Bool} {s s' : Int}, S.length = l.length → inV l b prev S s = .ok (S', s') →
    ∃ b' : List Nat, b = up b' ∧ (∀ j ∈ b', j < l.length ∧ S.getD j false = false) ∧ b'.Nodup ∧ S' = markL S b' ∧ s' = s + boxSum l b'
  | [], prev, S, S', s, s', hl, h => by
    unfold inV at h
    injection h with h; injection h with h1 h2
    exact ⟨[], rfl, by simp, List.nodup_nil, h1.symm, by simp [boxSum, h2]⟩
  | n :: r, prev, S, S', s, s', hl, h => by
    unfold inV at h
    split at h
    · cases h
    · split at h
      · cases h
      · split at h
        · cases h
        · rename_i h1 h2 h3
          have h2 : S.getD n.toNat false = false := by simpa using h2
          obtain ⟨b', e, hj, hnd, hS, hs⟩ := inV_inv (by rw [List.length_set]; exact hl) h
          have hn : n.toNat < l.length := by omega
          refine ⟨n.toNat :: b', ?_, fun j hj' => ?_, List.nodup_cons.2 ⟨fun hm => ?_, hnd⟩, ?_, ?_⟩
          · rw [e]; show _ = (n.toNat : Int) :: _
            rw [show ((n.toNat : Nat) : Int) = n by omega]
          · rcases List.mem_cons.1 hj' with rfl | hj'
            · exact ⟨hn, h2⟩
            · have := hj j hj'
              refine ⟨this.1, ?_⟩
              rw [getD_set (by omega)] at this
              have := this.2
              simp only [Bool.or_eq_false_iff] at this
              exact this.1
          · have := (hj _ hm).2
            rw [getD_set (by omega)] at this
            simp at this
          · rw [markL]; exact hS
          · rw [boxSum_cons]; unfold sizeAt; omega
theorem outV_inv {l : List Int} {room : Int} : ∀ {T : List (List Int)} {prev : Option Int} {S S' : List Bool}, S.length = l.length → outV l room T prev S = .ok S' →
    ∃ bs : List (List Nat), T = bs.map up ∧ (∀ b ∈ bs, b ≠ [] ∧ boxSum l b ≤ room) ∧ bs.flatten.Nodup ∧ (∀ j ∈ bs.flatten, j < l.length ∧ S.getD j false = false) ∧ S' = markL S bs.flatten
  | [], prev, S, S', hl, h => by
    unfold outV at h
    injection h with h
    exact ⟨[], rfl, by simp, by simp, by simp, h.symm⟩
  | b :: T, prev, S, S', hl, h => by
    unfold outV at h
    split at h
    · cases h
    · rename_i hne
      split at h
      · cases h
      · rename_i S1 s1 hin
        split at h
        · cases h
        · rename_i hs
          obtain ⟨b', e, hj, hnd, hS, hss⟩ := inV_inv hl hin
          obtain ⟨bs, e2, hb2, hnd2, hj2, hS2⟩ := outV_inv (by rw [hS, markL_len]; exact hl) h
          subst e
          refine ⟨b' :: bs, by rw [e2]; rfl, fun c hc => ?_, ?_, fun j hj' => ?_, ?_⟩
          · rcases List.mem_cons.1 hc with rfl | hc
            · exact ⟨by rintro rfl; exact hne rfl, by omega⟩
            · exact hb2 c hc
          · rw [List.flatten_cons]
            refine List.nodup_append.2 ⟨hnd, hnd2, fun a ha c hc e => ?_⟩
            subst e
            have := (hj2 a hc).2
            rw [hS, markL_get _ _ _ (fun i hi => by rw [hl]; exact (hj i hi).1)] at this
            simp [ha] at this
          · rw [List.flatten_cons] at hj'
            rcases List.mem_append.1 hj' with h' | h'
            · exact hj j h'
            · have := hj2 j h'
              refine ⟨this.1, ?_⟩
              have h3 := this.2
              rw [hS, markL_get _ _ _ (fun i hi => by rw [hl]; exact (hj i hi).1)] at h3
              simp only [Bool.or_eq_false_iff] at h3
              exact h3.1
          · rw [List.flatten_cons, markL_app, ← hS]; exact hS2
theorem endV_all {S : List Bool} (h : endV S = 0) : ∀ j, j < S.length → S.getD j false = true := by
  intro j hj
  unfold endV at h
  split at h
  · cases h
  · rename_i hx
    have hx : S.any (false == ·) = false := by simpa using hx
    rw [List.any_eq_false] at hx
    have := hx S[j] (List.getElem_mem hj)
    rw [List.getD_eq_getElem?_getD, List.getElem?_eq_getElem hj]
    simpa using this
theorem Vd.code_ok {α : Type} {f : α → Int} {v : Vd α} (h : v.code f = 0) : v = .err 0 ∨ ∃ a, v = .ok a ∧ f a = 0 := by
  cases v with
  | err e => simp only [Vd.code] at h; subst h; exact .inl rfl
  | ok a => exact .inr ⟨a, rfl, h⟩
theorem inV_err {l : List Int} : ∀ {b : List Int} {prev : Option Int} {S : List Bool} {s : Int}, inV l b prev S s ≠ .err 0
  | [], _, _, _, h => by unfold inV at h; cases h
  | n :: r, prev, S, s, h => by
    unfold inV at h
    split at h
    · cases h
    · split at h
      · cases h
      · split at h
        · cases h
        · exact inV_err h
theorem outV_err {l : List Int} {room : Int} : ∀ {T : List (List Int)} {prev : Option Int} {S : List Bool}, outV l room T prev S ≠ .err 0
  | [], _, _, h => by unfold outV at h; cases h
  | b :: T, prev, S, h => by
    unfold outV at h
    split at h
    · cases h
    · split at h
      · rename_i e he
        injection h with h
        subst h
        exact inV_err he
      · split at h
        · cases h
        · exact outV_err h
/-- what Valid accepts is a packing -/
theorem valid_packing {l : List Int} {room : Int} {T : List (List Int)} (h : validE l room T = 0) :
    ∃ bs : List (List Nat), T = bs.map up ∧ (∀ b ∈ bs, b ≠ [] ∧ boxSum l b ≤ room) ∧ bs.flatten.Nodup ∧ ∀ j, j ∈ bs.flatten ↔ j < l.length := by
  unfold validE at h
  split at h
  · cases h
  · rcases Vd.code_ok h with h | ⟨S, h1, h2⟩
    · exact absurd h outV_err
    · have hlen : (List.replicate l.length false).length = l.length := by simp
      obtain ⟨bs, e, hb, hnd, hj, hS⟩ := outV_inv hlen h1
      refine ⟨bs, e, hb, hnd, fun j => ⟨fun hm => (hj j hm).1, fun hlt => ?_⟩⟩
      have := endV_all h2 j (by rw [hS, markL_len, hlen]; exact hlt)
      rw [hS, markL_get _ _ _ (fun i hi => by rw [hlen]; exact (hj i hi).1)] at this
      simpa [List.getD_eq_getElem?_getD, List.getElem?_replicate, hlt] using this
/-! ### and the other way -/
theorem inV_ok {l : List Int} : ∀ (b : List Nat) (prev : Option Int) (S : List Bool) (s : Int), S.length = l.length → b.Pairwise (· < ·) → (∀ j ∈ b, j < l.length ∧ S.getD j false = false) → (∀ p, prev = some p → ∀ j ∈ b, p ≤ (j : Int)) →
    inV l (up b) prev S s = .ok (markL S b, s + boxSum l b)
  | [], prev, S, s, _, _, _, _ => by simp [inV, markL, boxSum]
  | j :: r, prev, S, s, hl, hp, hj, hpv => by
    have hj0 := hj j (by simp)
    have hp2 := List.pairwise_cons.1 hp
    have hany : prev.any (fun p => decide ((j : Int) < p)) = false := by
      cases prev with
      | none => rfl
      | some p => have := hpv p rfl j (by simp); simp; omega
    have ht : ((j : Nat) : Int).toNat = j := by simp
    show inV l ((j : Int) :: up r) prev S s = _
    unfold inV
    rw [if_neg (by omega), if_neg (by rw [ht, hj0.2]; simp), if_neg (by rw [hany]; simp), ht]
    rw [inV_ok r (some (j : Int)) _ _ (by rw [List.length_set]; exact hl) hp2.2 (fun i hi => ⟨(hj i (by simp [hi])).1, by
      rw [getD_set (by omega), (hj i (by simp [hi])).2]
      have := hp2.1 i hi
      simp; omega⟩) (fun p hp' i hi => by injection hp' with hp'; have := hp2.1 i hi; omega)]
    rw [markL, boxSum_cons]
    unfold sizeAt
    rw [Int.add_assoc]
theorem outV_ok {l : List Int} {room : Int} : ∀ (bs : List (List Nat)) (prev : Option Int) (S : List Bool), S.length = l.length → (∀ b ∈ bs, b ≠ [] ∧ b.Pairwise (· < ·) ∧ boxSum l b ≤ room) → bs.flatten.Nodup → (∀ j ∈ bs.flatten, j < l.length ∧ S.getD j false = false) →
    bs.Pairwise (fun a b => a.headD 0 < b.headD 0) → (∀ p, prev = some p → ∀ b ∈ bs, p ≤ (b.headD 0 : Int)) → outV l room (bs.map up) prev S = .ok (markL S bs.flatten)
  | [], prev, S, _, _, _, _, _, _ => rfl
  | b :: bs, prev, S, hl, hb, hnd, hj, hh, hpv => by
    obtain ⟨hb1, hb2, hb3⟩ := hb b (by simp)
    rw [List.flatten_cons] at hnd hj
    obtain ⟨hn1, hn2, hn3⟩ := List.nodup_append.1 hnd
    have hh2 := List.pairwise_cons.1 hh
    obtain ⟨j0, r0, rfl⟩ : ∃ j r, b = j :: r := by cases b with | nil => exact absurd rfl hb1 | cons j r => exact ⟨j, r, rfl⟩
    rw [List.map_cons]
    unfold outV
    rw [if_neg (by simp), inV_ok (j0 :: r0) prev S 0 hl hb2 (fun j h => hj j (List.mem_append_left _ h)) (fun p hp j hjm => by
      have h1 := hpv p hp _ (List.mem_cons_self ..)
      rcases List.mem_cons.1 hjm with rfl | hjm
      · exact h1
      · have := (List.pairwise_cons.1 hb2).1 j hjm
        simp at h1; omega)]
    simp only
    rw [if_neg (by omega), outV_ok bs _ _ (by rw [markL_len]; exact hl) (fun c hc => hb c (by simp [hc])) hn2 (fun j hjm => ?_) hh2.2 (fun p hp c hc => ?_)]
    · rw [List.flatten_cons, markL_app]
    · have := hj j (List.mem_append_right _ hjm)
      refine ⟨this.1, ?_⟩
      rw [markL_get _ _ _ (fun i hi => by rw [hl]; exact (hj i (List.mem_append_left _ hi)).1), this.2]
      have : j ∉ j0 :: r0 := fun hm => hn3 j hm j hjm rfl
      simpa using this
    · have h1 := hh2.1 c hc
      have hp : (j0 : Int) = p := by simpa using hp
      have h1 : j0 < c.headD 0 := h1
      omega
theorem valid_of {l : List Int} {room : Int} {bs : List (List Nat)} (hc : chkE l room = 0) (hb : ∀ b ∈ bs, b ≠ [] ∧ b.Pairwise (· < ·) ∧ boxSum l b ≤ room) (hnd : bs.flatten.Nodup) (hall : ∀ j, j ∈ bs.flatten ↔ j < l.length) (hh : bs.Pairwise (fun a b => a.headD 0 < b.headD 0)) :
    validE l room (bs.map up) = 0 := by
  have hlen : (List.replicate l.length false).length = l.length := by simp
  have hrep : ∀ j, (List.replicate l.length false).getD j false = false := by
    intro j
    rw [List.getD_eq_getElem?_getD, List.getElem?_replicate]
    split <;> rfl
  unfold validE
  rw [if_neg (by omega), outV_ok bs none _ hlen hb hnd (fun j hj => ⟨(hall j).1 hj, hrep j⟩) hh (fun p hp => by cases hp)]
  show endV _ = 0
  unfold endV
  rw [if_neg]
  rw [Bool.not_eq_true, List.any_eq_false]
  intro x hx
  obtain ⟨j, hj, rfl⟩ := List.mem_iff_getElem.1 hx
  have hjl : j < l.length := by rw [markL_len, hlen] at hj; exact hj
  have := markL_get bs.flatten (List.replicate l.length false) j (fun i hi => by rw [hlen]; exact (hall i).1 hi)
  rw [List.getD_eq_getElem?_getD, List.getElem?_eq_getElem hj] at this
  simp only [Option.getD_some] at this
  rw [this]
  simp [(hall j).2 hjl]
end Go.Abs.L39
