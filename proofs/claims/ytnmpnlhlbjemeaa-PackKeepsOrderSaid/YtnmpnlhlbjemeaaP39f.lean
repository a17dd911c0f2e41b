import Derived.Test.YtnmpnlhlbjemeaaP39e
namespace Go.Abs.L39
open Go Go.Abs Go.Proofs
set_option linter.unusedVariables false
set_option maxRecDepth 20000
/-! ### the packing in order -/
theorem set_last {α : Type} (M : List (List α)) (b : List α) (x : α) : (M ++ [b]).set ((M ++ [b]).length - 1) ((M ++ [b]).getD ((M ++ [b]).length - 1) [] ++ [x]) = M ++ [b ++ [x]] := by
  have h : (M ++ [b]).length - 1 = M.length := by simp
  rw [h, List.getD_eq_getElem?_getD, List.getElem?_append_right (Nat.le_refl _), Nat.sub_self, List.set_append_right _ _ (Nat.le_refl _), Nat.sub_self]
  rfl
/-- boxes with the pieces ahead of i, one behind the other -/
structure On (l : List Int) (room : Int) (i : Nat) (N : List (List Nat)) (left : Int) : Prop where
  flat : N.flatten = List.range i
  ne : ∀ b ∈ N, b ≠ []
  sum : ∀ b ∈ N, boxSum l b ≤ room
  last : ∀ M b, N = M ++ [b] → boxSum l b = room - left
  nil : N = [] → left = 0
theorem last_of {α : Type} (N : List α) : N = [] ∨ ∃ M b, N = M ++ [b] := by
  rcases List.eq_nil_or_concat N with h | ⟨M, b, h⟩
  · exact .inl h
  · exact .inr ⟨M, b, by rw [h, List.concat_eq_append]⟩
theorem app_last {α : Type} {M M' : List α} {b b' : α} (h : M ++ [b] = M' ++ [b']) : M = M' ∧ b = b' := by
  have := List.append_inj' h rfl
  exact ⟨this.1, by simpa using this.2⟩
theorem box_one {l : List Int} {i : Nat} {n : Int} (hn : l[i]? = some n) : boxSum l [i] = n := by
  rw [boxSum_cons]; unfold sizeAt; rw [List.getD_eq_getElem?_getD, hn]; simp [boxSum]
theorem box_more {l : List Int} {i : Nat} {n : Int} (hn : l[i]? = some n) (b : List Nat) : boxSum l (b ++ [i]) = boxSum l b + n := by
  rw [boxSum_app, box_one hn]
/-- one piece more -/
def ordN (l : List Int) (i : Nat) (N : List (List Nat)) (new : Bool) : List (List Nat) :=
  let N' := if new then N ++ [[]] else N
  N'.set (N'.length - 1) (N'.getD (N'.length - 1) [] ++ [i])
theorem ordN_new (l : List Int) (i : Nat) (N : List (List Nat)) : ordN l i N true = N ++ [[i]] := by
  unfold ordN
  simp only [if_true]
  rw [set_last]; rfl
theorem ordN_old (l : List Int) (i : Nat) (M : List (List Nat)) (b : List Nat) : ordN l i (M ++ [b]) false = M ++ [b ++ [i]] := by
  unfold ordN
  simp only [Bool.false_eq_true, if_false]
  rw [set_last]
theorem up_step (i : Nat) (N : List (List Nat)) (c : Prop) [Decidable c] : ((if c then N.map up ++ [[]] else N.map up).set ((if c then N.map up ++ [[]] else N.map up).length - 1) ((if c then N.map up ++ [[]] else N.map up).getD ((if c then N.map up ++ [[]] else N.map up).length - 1) [] ++ [(i : Int)])) = (ordN [] i N (decide c)).map up := by
  have e : (if c then N.map up ++ [[]] else N.map up) = (if decide c = true then N ++ [[]] else N).map up := by
    by_cases h : c <;> simp [h]
  rw [e]
  unfold ordN
  generalize (if decide c = true then N ++ [[]] else N) = N'
  rw [List.map_set, List.length_map]
  congr 1
  rw [List.getD_eq_getElem?_getD, List.getD_eq_getElem?_getD, List.getElem?_map]
  cases N'[N'.length - 1]? with
  | none => simp [up]
  | some b => simp [up]
theorem On.step {l : List Int} {room left n : Int} {i : Nat} {N : List (List Nat)} (h : On l room i N left) (hn : l[i]? = some n) (h1 : 1 ≤ n) (h2 : n ≤ room) :
    On l room (i + 1) (ordN [] i N (decide (n > left))) ((if n > left then room else left) - n) := by
  by_cases hc : n > left
  · rw [if_pos hc, show decide (n > left) = true by simpa using hc, ordN_new]
    refine ⟨by rw [List.flatten_append, h.flat, List.range_succ]; simp, fun b hb => ?_, fun b hb => ?_, fun M b e => ?_, fun e => by simp at e⟩
    · rcases List.mem_append.1 hb with hb | hb
      · exact h.ne b hb
      · simp at hb; subst hb; simp
    · rcases List.mem_append.1 hb with hb | hb
      · exact h.sum b hb
      · simp at hb; subst hb; rw [box_one hn]; exact h2
    · obtain ⟨_, rfl⟩ := app_last e
      rw [box_one hn]; omega
  · rw [if_neg hc, show decide (n > left) = false by simpa using hc]
    rcases last_of N with rfl | ⟨M, b, rfl⟩
    · have := h.nil rfl; omega
    · rw [ordN_old]
      have hl := h.last M b rfl
      refine ⟨by
        have := h.flat
        rw [List.flatten_append] at this ⊢
        rw [List.range_succ, ← this]; simp, fun c hb => ?_, fun c hb => ?_, fun M' b' e => ?_, fun e => by simp at e⟩
      · rcases List.mem_append.1 hb with hb | hb
        · exact h.ne c (List.mem_append_left _ hb)
        · simp at hb; subst hb; simp
      · rcases List.mem_append.1 hb with hb | hb
        · exact h.sum c (List.mem_append_left _ hb)
        · simp at hb; subst hb; rw [box_more hn]; omega
      · obtain ⟨_, rfl⟩ := app_last e
        rw [box_more hn]; omega
theorem ordE_up {room left n : Int} {r : List Int} {i : Nat} {N : List (List Nat)} : ordE room (n :: r) i (N.map up) left = ordE room r (i + 1) ((ordN [] i N (decide (n > left))).map up) ((if n > left then room else left) - n) := by
  rw [ordE]
  rw [up_step]
theorem ordE_spec {l : List Int} {room : Int} (hsz : ∀ n ∈ l, 1 ≤ n ∧ n ≤ room) : ∀ (r : List Int) (i : Nat) (N : List (List Nat)) (left : Int), l.drop i = r → i ≤ l.length → On l room i N left → ∃ N' left', ordE room r i (N.map up) left = N'.map up ∧ On l room l.length N' left'
  | [], i, N, left, hr, hi, h => by
    have hie : i = l.length := by
      have := congrArg List.length hr
      rw [List.length_drop, List.length_nil] at this; omega
    subst hie
    exact ⟨N, left, rfl, h⟩
  | n :: r, i, N, left, hr, hi, h => by
    have hil : i < l.length := by
      have := congrArg List.length hr
      rw [List.length_drop, List.length_cons] at this; omega
    obtain ⟨n', hn, hd, _⟩ := drop_cons hil
    rw [hr] at hd
    injection hd with hd1 hd2
    subst hd1
    have hz := hsz n (List.mem_of_getElem? hn)
    rw [ordE_up]
    exact ordE_spec hsz r (i + 1) _ _ hd2.symm (by omega) (h.step hn hz.1 hz.2)
theorem on_nil (l : List Int) (room : Int) : On l room 0 [] 0 := ⟨rfl, by simp, by simp, fun M b h => by simp at h, fun _ => rfl⟩
theorem flat_facts {N : List (List Nat)} {n : Nat} (hf : N.flatten = List.range n) (hne : ∀ b ∈ N, b ≠ []) : (∀ b ∈ N, b.Pairwise (· < ·)) ∧ N.Pairwise (fun a b => a.headD 0 < b.headD 0) := by
  have h : N.flatten.Pairwise (· < ·) := by rw [hf]; exact List.pairwise_lt_range
  rw [List.pairwise_flatten] at h
  refine ⟨h.1, ?_⟩
  have h2 := h.2
  rw [List.pairwise_iff_getElem] at h2 ⊢
  intro x y hx hy hxy
  have := h2 x y hx hy hxy
  have n1 := hne _ (List.getElem_mem hx)
  have n2 := hne _ (List.getElem_mem hy)
  have hd : ∀ b : List Nat, b ≠ [] → b.headD 0 ∈ b := by
    intro b hb
    cases b with
    | nil => exact absurd rfl hb
    | cons a r => simp
  exact this _ (hd _ n1) _ (hd _ n2)
theorem ord_ok {l : List Int} {room : Int} (hc : chkE l room = 0) : validE l room (ordR l room).1 = 0 ∧ (ordR l room).1.flatten = up (List.range l.length) := by
  obtain ⟨hr1, hr2, _, hsz⟩ := chk_ok hc
  unfold ordR
  rw [if_neg (by omega)]
  obtain ⟨N, left, e, h⟩ := ordE_spec hsz l 0 [] 0 rfl (Nat.zero_le _) (on_nil l room)
  show validE l room (ordE room l 0 ([].map up) 0) = 0 ∧ (ordE room l 0 ([].map up) 0).flatten = _
  rw [e]
  obtain ⟨hp, hh⟩ := flat_facts h.flat h.ne
  refine ⟨valid_of hc (fun b hb => ⟨h.ne b hb, hp b hb, h.sum b hb⟩) (by rw [h.flat]; exact List.nodup_range) (fun j => by rw [h.flat, List.mem_range]) hh, ?_⟩
  rw [← h.flat]
  clear e h hp hh
  induction N with
  | nil => rfl
  | cons b N ih => rw [List.map_cons, List.flatten_cons, List.flatten_cons, ih]; simp [up]
/-! ### one that is cut at some places -/
def cutB (cuts : List Int) (i : Nat) : Bool := decide (i = 0) || cuts.any ((i : Int) == ·)
def cutE (cuts : List Int) : Nat → Nat → List (List Int) → List (List Int)
  | 0, _, T => T
  | k + 1, i, T =>
    let T' := if cutB cuts i = true then T ++ [[]] else T
    cutE cuts k (i + 1) (T'.set (T'.length - 1) (T'.getD (T'.length - 1) [] ++ [(i : Int)]))
def cutN (cuts : List Int) : Nat → Nat → List (List Nat) → List (List Nat)
  | 0, _, N => N
  | k + 1, i, N => cutN cuts k (i + 1) (ordN [] i N (cutB cuts i))
theorem cutE_up (cuts : List Int) : ∀ (k i : Nat) (N : List (List Nat)), cutE cuts k i (N.map up) = (cutN cuts k i N).map up
  | 0, i, N => rfl
  | k + 1, i, N => by
    rw [cutE, cutN]
    rw [up_step, cutE_up cuts k]
    congr 2
    cases h : cutB cuts i <;> simp
theorem ordN_len (i : Nat) (N : List (List Nat)) (c : Bool) : (ordN [] i N c).length = N.length + (if c then 1 else 0) := by
  unfold ordN
  cases c <;> simp
/-- boxes grow -/
theorem ordN_grow {l : List Int} {i : Nat} {n : Int} (hn : l[i]? = some n) (h1 : 1 ≤ n) {N : List (List Nat)} {c : Bool} : ∀ b ∈ N, ∃ b' ∈ ordN [] i N c, boxSum l b ≤ boxSum l b' := by
  intro b hb
  cases c with
  | true => rw [ordN_new]; exact ⟨b, List.mem_append_left _ hb, Int.le_refl _⟩
  | false =>
    rcases last_of N with rfl | ⟨M, b0, rfl⟩
    · simp at hb
    · rw [ordN_old]
      rcases List.mem_append.1 hb with hb | hb
      · exact ⟨b, List.mem_append_left _ hb, Int.le_refl _⟩
      · simp at hb; subst hb
        exact ⟨b ++ [i], by simp, by rw [box_more hn]; omega⟩
theorem boxSum_nn {l : List Int} (h : ∀ n ∈ l, 1 ≤ n) : ∀ b, 0 ≤ boxSum l b
  | [] => Int.le_refl _
  | j :: r => by
    have := boxSum_nn h r
    have : 0 ≤ sizeAt l j := by
      unfold sizeAt
      rw [List.getD_eq_getElem?_getD]
      cases hj : l[j]? with
      | none => exact Int.le_refl _
      | some x => have := h x (List.mem_of_getElem? hj); show 0 ≤ x; omega
    rw [boxSum_cons]; omega
theorem cutN_grow {l : List Int} {room : Int} (hsz : ∀ n ∈ l, 1 ≤ n ∧ n ≤ room) (cuts : List Int) : ∀ (k i : Nat) (N : List (List Nat)), i + k ≤ l.length → ∀ b ∈ N, ∃ b' ∈ cutN cuts k i N, boxSum l b ≤ boxSum l b'
  | 0, i, N, _, b, hb => ⟨b, hb, Int.le_refl _⟩
  | k + 1, i, N, hi, b, hb => by
    have hn : l[i]? = some l[i] := by simp
    obtain ⟨b1, h1, h2⟩ := ordN_grow hn (hsz _ (List.mem_of_getElem? hn)).1 (c := cutB cuts i) b hb
    obtain ⟨b2, h3, h4⟩ := cutN_grow hsz cuts k (i + 1) _ (by omega) b1 h1
    exact ⟨b2, h3, by omega⟩
/-- the packing in order has no more boxes, or as many and no less room in the last one -/
def Ahead (l : List Int) (room : Int) (i g : Nat) (left : Int) (N : List (List Nat)) : Prop :=
  (i = 0 ∧ g = 0 ∧ N = [] ∧ left = 0) ∨ (∃ M b, N = M ++ [b] ∧ (g < N.length ∨ (g = N.length ∧ room - left ≤ boxSum l b)))
theorem greedy {l : List Int} {room : Int} (hsz : ∀ n ∈ l, 1 ≤ n ∧ n ≤ room) (cuts : List Int) : ∀ (r : List Int) (i : Nat) (G N : List (List Nat)) (left : Int), l.drop i = r → i ≤ l.length → left ≤ room → Ahead l room i G.length left N → (∀ b ∈ cutN cuts r.length i N, boxSum l b ≤ room) →
    (ordE room r i (G.map up) left).length ≤ (cutN cuts r.length i N).length
  | [], i, G, N, left, hr, hi, hlr, ha, _ => by
    show (G.map up).length ≤ N.length
    rw [List.length_map]
    rcases ha with ⟨_, h1, h2, _⟩ | ⟨M, b, _, h | h⟩
    · omega
    · omega
    · omega
  | n :: r, i, G, N, left, hr, hi, hlr, ha, hb => by
    have hil : i < l.length := by
      have := congrArg List.length hr
      rw [List.length_drop, List.length_cons] at this; omega
    obtain ⟨n', hn, hd, _⟩ := drop_cons hil
    rw [hr] at hd
    injection hd with hd1 hd2
    subst hd1
    have hz := hsz n (List.mem_of_getElem? hn)
    have hrl : r.length = l.length - (i + 1) := by rw [hd2, List.length_drop]
    rw [List.length_cons, cutN] at hb ⊢
    rw [ordE_up]
    have hsum : ∀ b ∈ ordN [] i N (cutB cuts i), boxSum l b ≤ room := fun b hm => by
      obtain ⟨b', h1, h2⟩ := cutN_grow hsz cuts r.length (i + 1) _ (by omega) b hm
      have := hb b' h1; omega
    refine greedy hsz cuts r (i + 1) _ _ _ hd2.symm (by omega) (by split <;> omega) ?_ hb
    rw [ordN_len]
    right
    cases hcut : cutB cuts i with
    | true =>
      rw [ordN_new]
      refine ⟨N, [i], rfl, ?_⟩
      rw [box_one hn, List.length_append]
      rcases ha with ⟨_, h1, h2, h3⟩ | ⟨M, b, _, h⟩
      · subst h2
        right
        have : n > left := by omega
        simp [h1, this]
        omega
      · by_cases hc : n > left
        · have e : decide (n > left) = true := by simpa using hc
          rw [e, if_pos hc]
          simp only [if_true, List.length_singleton]
          rcases h with h | h
          · left; omega
          · right; exact ⟨by omega, by omega⟩
        · have e : decide (n > left) = false := by simpa using hc
          rw [e]
          left
          simp only [Bool.false_eq_true, if_false, List.length_singleton]
          rcases h with h | h <;> omega
    | false =>
      rcases ha with ⟨h0, _⟩ | ⟨M, b, rfl, h⟩
      · subst h0; simp [cutB] at hcut
      · rw [hcut] at hsum
        rw [ordN_old] at hsum ⊢
        have hbs := hsum (b ++ [i]) (by simp)
        rw [box_more hn] at hbs
        refine ⟨M, b ++ [i], rfl, ?_⟩
        rw [box_more hn, List.length_append, List.length_singleton]
        rw [List.length_append, List.length_singleton] at h
        by_cases hc : n > left
        · have e : decide (n > left) = true := by simpa using hc
          rw [e, if_pos hc]
          simp only [if_true]
          rcases h with h | h
          · rcases Nat.lt_or_ge (G.length + 1) (M.length + 1) with h' | h'
            · left; omega
            · right
              have : 0 ≤ boxSum l b := boxSum_nn (fun m hm => (hsz m hm).1) b
              exact ⟨by omega, by omega⟩
          · omega
        · have e : decide (n > left) = false := by simpa using hc
          rw [e, if_neg hc]
          simp only [Bool.false_eq_true, if_false]
          rcases h with h | h
          · left; omega
          · right; exact ⟨by omega, by omega⟩
/-- no packing that keeps the order has fewer boxes -/
theorem order_least {l : List Int} {room : Int} (hc : chkE l room = 0) (cuts : List Int) (hv : validE l room (cutE cuts l.length 0 []) = 0) : (ordR l room).1.length ≤ (cutE cuts l.length 0 []).length := by
  obtain ⟨hr1, hr2, _, hsz⟩ := chk_ok hc
  have e : cutE cuts l.length 0 [] = (cutN cuts l.length 0 []).map up := cutE_up cuts l.length 0 []
  have hb : ∀ b ∈ cutN cuts l.length 0 [], boxSum l b ≤ room := by
    obtain ⟨bs, h1, h2, _⟩ := valid_packing hv
    rw [e] at h1
    have : cutN cuts l.length 0 [] = bs := by
      have hi : ∀ a b : List Nat, up a = up b → a = b := fun a b h => by
        unfold up at h
        exact List.map_inj_right (fun x y h => by exact_mod_cast h) |>.1 h
      exact List.map_inj_right (fun x y h => hi x y h) |>.1 h1
    rw [this]; exact fun b hb => (h2 b hb).2
  have := greedy hsz cuts l 0 [] [] 0 rfl (Nat.zero_le _) (by omega) (.inl ⟨rfl, rfl, rfl, rfl⟩) hb
  rw [e, List.length_map]
  unfold ordR
  rw [if_neg (by omega)]
  exact this
end Go.Abs.L39
