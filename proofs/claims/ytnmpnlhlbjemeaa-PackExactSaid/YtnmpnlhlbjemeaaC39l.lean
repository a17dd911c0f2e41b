import Derived.Test.YtnmpnlhlbjemeaaC39k
namespace Go.Abs.L39
open Go Go.Abs Go.Proofs
set_option linter.unusedVariables false
set_option maxRecDepth 20000
theorem P15 {E : Env} (hN : E.N = 113) (hp : ∀ b, memN b [2, 4, 6] = false → E.pin b = none) {l : List Int} {room : Int} {least : Nat} {i : Nat} {r : List Int} {T : List (List Int)} {S : List Int} {a : Act} {w : World} {Q : Exit → Act → World → Prop}
    (hs : St E l room least (J33 l room least i) T S a w) (hi : i ≤ 1000) (hc : PutC l room least r (i + 1) T S)
    (hQ : ∀ a' w', St E l room least (J33 l room least i ++ [(102, .bool (putE room least r (i + 1) T S).isSome)]) ((putE room least r (i + 1) T S).getD (T, S)).1 ((putE room least r (i + 1) T S).getD (T, S)).2 a' w' → Q .normal a' w') : (r15 (body Try.f33)).wp Try.prog Q a w := by
  obtain ⟨K, us, gs, hs, hlf⟩ := hs
  refine wp_region ?_
  change wpOps _ _ _ (List.range' 0 3 ++ [3]) _ _
  refine wp_evOpsN (dm := []) tabOK tabOne hN hs fam_ok (fam_apart rfl) ⟨⟨[], []⟩, [], []⟩ 0 3 rfl (Kk := fun c' => c' = _) ⟨((i + 1 : Nat) : Int), wrapTo (by omega) (by omega) (by omega), rfl⟩ ?_
  rintro c1 K1 a1 w1 rfl hs1 hl1
  rw [wpOps_cons]
  refine wpOp_callT rfl rfl (wanted_no' rfl) hs1 (hc us gs) (hlf.left hl1) rfl rfl (noOptL_get rfl) (inPF_lk rfl) hp (by rw [hN]; rfl) ?_
  rintro K2 O2 res v w2 ⟨rfl, us2, gs2, rfl, hl2⟩ _ hs2
  have hs3 := SRK.onlyT hs2 (fam_apart rfl) [0, 1, 2, 3, 4, 5, 6, 8, 102] [2, 1808, 4, 1824, 6]
  exact hQ _ w2 ⟨K2, us2, gs2, hs3, hl2⟩
structure Good (i : Nat) (T : List (List Int)) (S : List Int) : Prop where
  len : T.length ≤ i
  same : S.length = T.length
  inner : ∀ t ∈ T, t.length ≤ i
  sums : ∀ s ∈ S, 0 ≤ s ∧ s ≤ 10000
theorem Good.ext {i k : Nat} {T : List (List Int)} {S t : List Int} {x : Int} (h : Good i T S) (ht : T[k]? = some t) (y : Int) (hx : 0 ≤ x ∧ x ≤ 10000) : Good (i + 1) (T.set k (t ++ [y])) (S.set k x) := by
  refine ⟨by rw [List.length_set]; have := h.len; omega, by rw [List.length_set, List.length_set]; exact h.same, fun s hs => ?_, fun s hs => ?_⟩
  · rcases List.mem_or_eq_of_mem_set hs with hs | rfl
    · have := h.inner s hs; omega
    · have := h.inner t (List.mem_of_getElem? ht); simp; omega
  · rcases List.mem_or_eq_of_mem_set hs with hs | rfl
    · exact h.sums s hs
    · exact hx
theorem Good.new {i : Nat} {T : List (List Int)} {S : List Int} {x : Int} (h : Good i T S) (y : Int) (hx : 0 ≤ x ∧ x ≤ 10000) : Good (i + 1) (T ++ [[y]]) (S ++ [x]) := by
  refine ⟨by simp; exact h.len, by simp; exact h.same, fun s hs => ?_, fun s hs => ?_⟩
  · rcases List.mem_append.1 hs with hs | hs
    · have := h.inner s hs; omega
    · simp at hs; subst hs; simp
  · rcases List.mem_append.1 hs with hs | hs
    · exact h.sums s hs
    · simp at hs; subst hs; exact hx
abbrev Hd (l : List Int) (room least : Int) (i m k : Nat) : List (Nat × AV) := F33 l room least i ++ [(8, .bool false), (15, I m), (16, I k)]
/-- one more column is tried -/
def tryE (room : Int) (least : Nat) (n : Int) (r : List Int) (i : Nat) (T : List (List Int)) (S : List Int) (k : Nat) : Option (List (List Int) × List Int) :=
  if S.getD k 0 + n > room then none else putE room least r (i + 1) (T.set k (T.getD k [] ++ [(i : Int)])) (S.set k (S.getD k 0 + n))
theorem putE_cons (room : Int) (least : Nat) (n : Int) (r : List Int) (i : Nat) (T : List (List Int)) (S : List Int) : putE room least (n :: r) i T S = match (List.range T.length).findSome? (tryE room least n r i T S) with | some x => some x | none => if T.length = least then none else putE room least r (i + 1) (T ++ [[(i : Int)]]) (S ++ [n]) := rfl
/-- a round of the loop: the piece goes into one of the boxes -/
theorem put_round {E : Env} (hN : E.N = 113) (hp : ∀ b, memN b [2, 4, 6] = false → E.pin b = none) {l : List Int} {room : Int} {least : Nat} {i k : Nat} {n : Int} {r : List Int} {T : List (List Int)} {S : List Int} {a : Act} {w : World} {Q : Exit → Act → World → Prop}
    (hl : l.length ≤ 100) (hroom : room ≤ 10000) (hn : l[i]? = some n) (hn0 : 1 ≤ n ∧ n ≤ room) (hg : Good i T S) (hk : k < T.length)
    (ih : ∀ T' S', Good (i + 1) T' S' → PutC l room least r (i + 1) T' S')
    (hs : St E l room least (Hd l room least i T.length k) T S a w)
    (hsome : ∀ x a' w', tryE room least n r i T S k = some x → St E l room least (F33 l room least i ++ [(8, .bool true)]) x.1 x.2 a' w' → Q .ret a' w')
    (hnone : ∀ a' w', tryE room least n r i T S k = none → St E l room least (Hd l room least i T.length k) T S a' w' → (Q .normal a' w' ∧ Q (.exit 1) a' w')) : (loop33 (body Try.f33)).wp Try.prog Q a w := by
  have hil := (List.getElem?_eq_some_iff.1 hn).1
  have hlen := hg.len
  obtain ⟨t, ht⟩ : ∃ t, T[k]? = some t := ⟨T[k], by simp [hk]⟩
  obtain ⟨s, hsk⟩ : ∃ s, S[k]? = some s := ⟨S[k]'(by rw [hg.same]; exact hk), by simp [hg.same, hk]⟩
  have hs0 := hg.sums s (List.mem_of_getElem? hsk)
  have hti := hg.inner t (List.mem_of_getElem? ht)
  have htry : tryE room least n r i T S k = if s + n > room then none else putE room least r (i + 1) (T.set k (t ++ [(i : Int)])) (S.set k (s + n)) := by
    simp only [tryE, List.getD_eq_getElem?_getD, ht, hsk, Option.getD_some]
  obtain ⟨K, us, gs, hs, hlf⟩ := hs
  change (Code.seq _ _).wp _ _ _ _
  refine wp_seq (W33 hN hs fam_ok (fam_apart rfl) (Q := fun e c' => e = .normal ∧ c' = _) rfl ⟨rfl, rfl⟩ ?_)
  rintro e c1 K1 a1 w1 ⟨rfl, rfl⟩ hs1 hl1
  replace hlf := hlf.left hl1
  have hSV : ((S ++ gs).map enc)[k]? = some [I s] := by
    rw [List.getElem?_map, List.getElem?_append_left (by rw [hg.same]; exact hk), hsk]; rfl
  change (Code.seq _ _).wp _ _ _ _
  by_cases hgt : s + n > room
  · rw [if_pos hgt] at htry
    refine wp_seq (W33 hN hs1 fam_ok (fam_apart rfl) (Q := fun e c' => e = .exit 1 ∧ c' = _) rfl ⟨⟨by omega, by omega⟩, [I s], by exact hSV, ⟨by omega, by omega⟩, enc n, get_map hn, _, wrap64 (by omega) (by omega), fun _ => ⟨rfl, rfl⟩, fun h => ?_⟩ ?_)
    · simp at h; omega
    rintro e c2 K2 a2 w2 ⟨rfl, rfl⟩ hs2 hl2
    have hs3 := SRK.onlyT hs2 (fam_apart rfl) [0, 1, 2, 3, 4, 5, 6, 8, 15, 16] [2, 1808, 4, 1824, 6]
    exact (hnone a2 w2 htry ⟨K2, us, gs, hs3, hlf.left hl2⟩).2
  · rw [if_neg hgt] at htry
    refine wp_seq (W33 hN hs1 fam_ok (fam_apart rfl) (Q := fun e c' => e = .normal ∧ c' = _) rfl ⟨⟨by omega, by omega⟩, [I s], by exact hSV, ⟨by omega, by omega⟩, enc n, get_map hn, _, wrap64 (by omega) (by omega), fun h => ?_, fun _ => ⟨rfl, rfl⟩⟩ ?_)
    · simp at h; omega
    rintro e c2 K2 a2 w2 ⟨rfl, rfl⟩ hs2 hl2
    have hs3 := SRK.onlyT hs2 (fam_apart rfl) [0, 1, 2, 3, 4, 5, 6, 8, 9, 15, 16] [2, 1808, 4, 1824, 6]
    change (Code.seq _ _).wp _ _ _ _
    refine wp_seq (P7 (l := l) (room := room) (least := least) hN hp ⟨K2, us, gs, hs3, hlf.left hl2⟩ hg.same ht hsk hn hl (by omega) (by omega) hs0 (by omega) ?_)
    intro a3 w3 hs4
    have hg' : Good (i + 1) (T.set k (t ++ [(i : Int)])) (S.set k (s + n)) := hg.ext ht _ (by omega)
    have e0 : (T.set k (t ++ [(i : Int)])).length = T.length := List.length_set
    rw [← e0] at hs4
    change (Code.seq _ _).wp _ _ _ _
    refine wp_seq (wp_seq (P8 hN hp (m := (T.set k (t ++ [(i : Int)])).length) hs4 (by omega) (ih _ _ hg') ?_))
    intro a4 w4 hs5
    rw [← htry] at hs5
    change (Code.cond _ _ _).wp _ _ _ _
    cases hres : tryE room least n r i T S k with
    | some x =>
      rw [hres] at hs5
      obtain ⟨K5, us5, gs5, hs5, hl5⟩ := hs5
      refine W33 hN hs5 fam_ok (fam_apart rfl) (Q := fun e c' => e = .ret ∧ c' = _) rfl ⟨fun _ => ⟨rfl, rfl⟩, fun h => (by cases h)⟩ ?_
      rintro e c6 K6 a6 w6 ⟨rfl, rfl⟩ hs6 hl6
      have hs7 := SRK.onlyT hs6 (fam_apart rfl) [0, 1, 2, 3, 4, 5, 6, 8] [2, 1808, 4, 1824, 6]
      exact hsome x a6 w6 hres ⟨K6, us5, gs5, hs7, hl5.left hl6⟩
    | none =>
      rw [hres] at hs5
      obtain ⟨K5, us5, gs5, hs5, hl5⟩ := hs5
      refine W33 hN hs5 fam_ok (fam_apart rfl) (Q := fun e c' => e = .normal ∧ c' = _) rfl ⟨fun h => (by cases h), fun _ => ⟨rfl, rfl⟩⟩ ?_
      rintro e c6 K6 a6 w6 ⟨rfl, rfl⟩ hs6 hl6
      have hs7 := SRK.onlyT hs6 (fam_apart rfl) [0, 1, 2, 3, 4, 5, 6, 8, 9, 15, 16] [2, 1808, 4, 1824, 6]
      have hkS : k < S.length := by rw [hg.same]; exact hk
      refine P10 (T := T.set k (t ++ [(i : Int)])) (S := S.set k (s + n)) (t := t) (s := s + n) (z := n) (y := (i : Int)) hN hp ⟨K6, us5, gs5, hs7, hl5.left hl6⟩ hg'.same (by rw [List.getElem?_set_self hk]) (by rw [List.getElem?_set_self hkS]) hn hl (by rw [List.length_set]; omega) (by omega) (by omega) (by omega) ?_
      intro a7 w7 hs8
      have e1 : (T.set k (t ++ [(i : Int)])).set k t = T := by
        rw [List.set_set]
        obtain ⟨h1, h2⟩ := List.getElem?_eq_some_iff.1 ht
        rw [← h2]; simp
      have e2 : (S.set k (s + n)).set k (s + n - n) = S := by
        rw [List.set_set, show s + n - n = s by omega]
        obtain ⟨h1, h2⟩ := List.getElem?_eq_some_iff.1 hsk
        rw [← h2]; simp
      rw [e1, e2, List.length_set] at hs8
      obtain ⟨K8, us8, gs8, hs8, hl8⟩ := hs8
      have hs9 := SRK.onlyT hs8 (fam_apart rfl) [0, 1, 2, 3, 4, 5, 6, 8, 15, 16] [2, 1808, 4, 1824, 6]
      exact (hnone a7 w7 hres ⟨K8, us8, gs8, hs9, hl8⟩).1
end Go.Abs.L39
