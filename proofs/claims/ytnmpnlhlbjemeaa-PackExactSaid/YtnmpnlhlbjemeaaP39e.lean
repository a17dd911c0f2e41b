import Derived.Test.YtnmpnlhlbjemeaaP39d
import Derived.Test.YtnmpnlhlbjemeaaL39b
namespace Go.Abs.L39
open Go Go.Abs Go.Proofs
set_option linter.unusedVariables false
set_option maxRecDepth 20000
/-! ### what put finds is a packing -/
theorem boxSum_app (l : List Int) : ∀ a b : List Nat, boxSum l (a ++ b) = boxSum l a + boxSum l b
  | [], b => by simp [boxSum]
  | j :: r, b => by rw [List.cons_append, boxSum_cons, boxSum_cons, boxSum_app l r b]; omega
structure Pk (l : List Int) (room : Int) (i : Nat) (N : List (List Nat)) (S : List Int) : Prop where
  perm : N.flatten.Perm (List.range i)
  len : S.length = N.length
  box : ∀ (k : Nat) (b : List Nat), N[k]? = some b → b ≠ [] ∧ b.Pairwise (· < ·) ∧ S[k]? = some (boxSum l b) ∧ boxSum l b ≤ room
  heads : N.Pairwise (fun a b => a.headD 0 < b.headD 0)
theorem Pk.mem {l : List Int} {room : Int} {i : Nat} {N : List (List Nat)} {S : List Int} (h : Pk l room i N S) {j : Nat} : j ∈ N.flatten ↔ j < i := by
  rw [h.perm.mem_iff, List.mem_range]
theorem flatten_set_perm {N : List (List Nat)} {k i : Nat} {b : List Nat} (h : N[k]? = some b) : (N.set k (b ++ [i])).flatten.Perm (N.flatten ++ [i]) := by
  induction N generalizing k with
  | nil => simp at h
  | cons a N ih =>
    cases k with
    | zero =>
      simp at h; subst h
      rw [List.set_cons_zero, List.flatten_cons, List.flatten_cons, List.append_assoc, List.append_assoc]
      exact List.Perm.append_left _ List.perm_append_comm
    | succ k =>
      rw [List.set_cons_succ, List.flatten_cons, List.flatten_cons, List.append_assoc]
      exact List.Perm.append_left _ (ih (by simpa using h))
theorem headD_app {b : List Nat} (h : b ≠ []) (i : Nat) : (b ++ [i]).headD 0 = b.headD 0 := by
  cases b with
  | nil => exact absurd rfl h
  | cons x r => rfl
theorem Pk.ext {l : List Int} {room n : Int} {i k : Nat} {N : List (List Nat)} {S : List Int} {b : List Nat} (h : Pk l room i N S) (hn : l[i]? = some n) (hk : N[k]? = some b) (hr : boxSum l b + n ≤ room) : Pk l room (i + 1) (N.set k (b ++ [i])) (S.set k (boxSum l b + n)) := by
  obtain ⟨hb1, hb2, hb3, hb4⟩ := h.box k b hk
  have hkl := (List.getElem?_eq_some_iff.1 hk).1
  have hsz : sizeAt l i = n := by unfold sizeAt; rw [List.getD_eq_getElem?_getD, hn]; rfl
  have hsum : boxSum l (b ++ [i]) = boxSum l b + n := by rw [boxSum_app, boxSum_cons, hsz]; simp [boxSum]
  refine ⟨?_, by rw [List.length_set, List.length_set]; exact h.len, fun j c hc => ?_, ?_⟩
  · rw [List.range_succ]
    exact (flatten_set_perm hk).trans (h.perm.append_right _)
  · rw [List.getElem?_set] at hc
    rw [List.getElem?_set]
    split at hc
    · rename_i e
      injection hc with hc
      subst hc
      rw [if_pos e, if_pos (by rw [h.len]; exact hkl), hsum]
      refine ⟨by simp, List.pairwise_append.2 ⟨hb2, by simp, fun x hx y hy => ?_⟩, rfl, by omega⟩
      simp at hy; subst hy
      exact h.mem.1 (List.mem_flatten.2 ⟨b, List.mem_of_getElem? hk, hx⟩)
    · rename_i e
      rw [if_neg e]
      exact h.box j c hc
  · rw [List.pairwise_iff_getElem]
    have hp := List.pairwise_iff_getElem.1 h.heads
    have hg : ∀ j (hj : j < (N.set k (b ++ [i])).length), ((N.set k (b ++ [i]))[j]).headD 0 = (N[j]'(by simpa using hj)).headD 0 := by
      intro j hj
      rw [List.getElem_set]
      split
      · rename_i e; subst e
        rw [headD_app hb1]
        congr 1
        exact (List.getElem?_eq_some_iff.1 hk).2.symm
      · rfl
    intro x y hx hy hxy
    rw [hg x hx, hg y hy]
    exact hp x y _ _ hxy
theorem Pk.new {l : List Int} {room n : Int} {i : Nat} {N : List (List Nat)} {S : List Int} (h : Pk l room i N S) (hn : l[i]? = some n) (hr : n ≤ room) : Pk l room (i + 1) (N ++ [[i]]) (S ++ [n]) := by
  have hsz : sizeAt l i = n := by unfold sizeAt; rw [List.getD_eq_getElem?_getD, hn]; rfl
  have hsum : boxSum l [i] = n := by rw [boxSum_cons, hsz]; simp [boxSum]
  refine ⟨?_, by simp [h.len], fun j c hc => ?_, ?_⟩
  · rw [List.range_succ, List.flatten_append]
    simpa using h.perm.append_right [i]
  · rcases Nat.lt_or_ge j N.length with hlt | hge
    · rw [List.getElem?_append_left hlt] at hc
      rw [List.getElem?_append_left (by rw [h.len]; exact hlt)]
      exact h.box j c hc
    · rw [List.getElem?_append_right hge] at hc
      rw [List.getElem?_append_right (by rw [h.len]; exact hge), h.len]
      cases hx : j - N.length with
      | zero =>
        rw [hx] at hc
        simp at hc; subst hc
        rw [hsum]
        exact ⟨by simp, by simp, rfl, hr⟩
      | succ x => rw [hx] at hc; simp at hc
  · refine List.pairwise_append.2 ⟨h.heads, by simp, fun x hx y hy => ?_⟩
    simp at hy; subst hy
    show x.headD 0 < i
    obtain ⟨k, hk⟩ := List.getElem?_of_mem hx
    have hb1 := (h.box k x hk).1
    cases x with
    | nil => exact absurd rfl hb1
    | cons a r => exact h.mem.1 (List.mem_flatten.2 ⟨a :: r, hx, by simp⟩)
theorem up_app (b : List Nat) (i : Nat) : up (b ++ [i]) = up b ++ [(i : Int)] := by simp [up]
theorem put_sound {l : List Int} {room : Int} {least : Nat} (hsz : ∀ n ∈ l, 1 ≤ n ∧ n ≤ room) : ∀ (r : List Int) (i : Nat) (N : List (List Nat)) (S : List Int) (x : List (List Int) × List Int), l.drop i = r → i ≤ l.length → Pk l room i N S → N.length ≤ least → putE room least r i (N.map up) S = some x →
    ∃ N' S', x = (N'.map up, S') ∧ Pk l room l.length N' S' ∧ N'.length ≤ least
  | [], i, N, S, x, hr, hi, hp, hle, h => by
    have hie : i = l.length := by
      have := congrArg List.length hr
      rw [List.length_drop, List.length_nil] at this; omega
    subst hie
    unfold putE at h
    injection h with h
    exact ⟨N, S, h.symm, hp, hle⟩
  | n :: r, i, N, S, x, hr, hi, hp, hle, h => by
    have hil : i < l.length := by
      have := congrArg List.length hr
      rw [List.length_drop, List.length_cons] at this; omega
    obtain ⟨n', hn, hd, _⟩ := drop_cons hil
    rw [hr] at hd
    injection hd with hd1 hd2
    subst hd1
    have hnr := (hsz n (List.mem_of_getElem? hn)).2
    rw [putE_cons] at h
    split at h
    · rename_i y hy
      injection h with h
      subst h
      obtain ⟨k, hk, hk2⟩ := List.exists_of_findSome?_eq_some hy
      have hkl : k < N.length := by simpa using hk
      obtain ⟨b, hb⟩ : ∃ b, N[k]? = some b := ⟨N[k], by simp [hkl]⟩
      obtain ⟨_, _, hb3, _⟩ := hp.box k b hb
      unfold tryE at hk2
      rw [show S.getD k 0 = boxSum l b by rw [List.getD_eq_getElem?_getD, hb3]; rfl, show (N.map up).getD k [] = up b by rw [List.getD_eq_getElem?_getD, List.getElem?_map, hb]; rfl] at hk2
      split at hk2
      · cases hk2
      · rename_i hle2
        rw [← up_app, ← List.map_set] at hk2
        exact put_sound hsz r (i + 1) _ _ y hd2.symm (by omega) (hp.ext hn hb (by omega)) (by rw [List.length_set]; exact hle) hk2
    · split at h
      · cases h
      · rename_i hne
        rw [List.length_map] at hne
        rw [show (N.map up ++ [[(i : Int)]]) = (N ++ [[i]]).map up by simp [up]] at h
        exact put_sound hsz r (i + 1) _ _ x hd2.symm (by omega) (hp.new hn hnr) (by rw [List.length_append]; simp; omega) h
theorem pk_nil (l : List Int) (room : Int) : Pk l room 0 [] [] := ⟨by simp, rfl, fun k b h => by simp at h, List.Pairwise.nil⟩
/-! ### the simple bound -/
def wsum (f : Nat → Int) : List Nat → Int
  | [] => 0
  | j :: r => f j + wsum f r
theorem wsum_app (f : Nat → Int) : ∀ a b : List Nat, wsum f (a ++ b) = wsum f a + wsum f b
  | [], b => by simp [wsum]
  | j :: r, b => by rw [List.cons_append, wsum, wsum, wsum_app f r b]; omega
theorem wsum_perm (f : Nat → Int) {a b : List Nat} (h : a.Perm b) : wsum f a = wsum f b := by
  induction h with
  | nil => rfl
  | cons x _ ih => rw [wsum, wsum, ih]
  | swap x y l => simp only [wsum]; omega
  | trans _ _ h1 h2 => exact h1.trans h2
theorem wsum_range_shift (f : Nat → Int) : ∀ n, wsum f (List.range (n + 1)) = f 0 + wsum (fun j => f (j + 1)) (List.range n) := by
  intro n
  rw [List.range_succ_eq_map, wsum]
  congr 1
  induction List.range n with
  | nil => rfl
  | cons a t ih => rw [List.map_cons, wsum, wsum, ih]
theorem boxSum_wsum (l : List Int) : ∀ js, boxSum l js = wsum (sizeAt l) js
  | [] => rfl
  | j :: r => by rw [boxSum_cons, wsum, boxSum_wsum l r]
theorem sumE_wsum : ∀ l : List Int, sumE l = wsum (sizeAt l) (List.range l.length)
  | [] => rfl
  | n :: r => by
    rw [List.length_cons, wsum_range_shift, sumE, sumE_wsum r]
    rfl
theorem largeE_wsum (room : Int) : ∀ l : List Int, largeE room l = wsum (fun j => if 2 * sizeAt l j > room then 1 else 0) (List.range l.length)
  | [] => rfl
  | n :: r => by
    rw [List.length_cons, wsum_range_shift, largeE, largeE_wsum room r]
    rfl
theorem wsum_flatten (f : Nat → Int) (c : Int) : ∀ bs : List (List Nat), (∀ b ∈ bs, wsum f b ≤ c) → wsum f bs.flatten ≤ bs.length * c
  | [], _ => by simp [wsum]
  | b :: bs, h => by
    have h1 := wsum_flatten f c bs fun b' hb => h b' (by simp [hb])
    have h2 := h b (by simp)
    rw [List.flatten_cons, wsum_app, List.length_cons]
    have : ((bs.length + 1 : Nat) : Int) * c = bs.length * c + c := by rw [Int.natCast_add, Int.add_mul]; simp
    omega
theorem large_box {l : List Int} {room : Int} (hsz : ∀ n ∈ l, 1 ≤ n) : ∀ b : List Nat, (∀ j ∈ b, j < l.length) → (room + 1) * wsum (fun j => if 2 * sizeAt l j > room then 1 else 0) b ≤ 2 * boxSum l b
  | [], _ => by simp [wsum, boxSum]
  | j :: r, h => by
    have ih := large_box (room := room) hsz r fun i hi => h i (by simp [hi])
    have h1 := hsz _ (List.mem_of_getElem? (sizeAt_of (h j (by simp))))
    rw [wsum, boxSum_cons, Int.mul_add]
    split <;> omega
theorem bound_le {l : List Int} {room : Int} (hc : chkE l room = 0) {bs : List (List Nat)} (hb : ∀ b ∈ bs, boxSum l b ≤ room) (hp : bs.flatten.Perm (List.range l.length)) : bndE l room ≤ bs.length := by
  obtain ⟨hr1, hr2, _, hsz⟩ := chk_ok hc
  have hmem : ∀ b ∈ bs, ∀ j ∈ b, j < l.length := fun b hb j hj => by
    have := hp.mem_iff.1 (List.mem_flatten.2 ⟨b, hb, hj⟩)
    simpa using this
  have hs : sumE l ≤ bs.length * room := by
    rw [sumE_wsum, ← wsum_perm _ hp]
    exact wsum_flatten _ room bs fun b h => by rw [← boxSum_wsum]; exact hb b h
  have hl : largeE room l ≤ bs.length * 1 := by
    rw [largeE_wsum, ← wsum_perm _ hp]
    refine wsum_flatten _ 1 bs fun b h => ?_
    have h1 := large_box (room := room) (fun n hn => (hsz n hn).1) b (hmem b h)
    have h2 := hb b h
    generalize wsum _ b = w at *
    rcases Int.lt_or_le w 2 with h3 | h3
    · omega
    · have : (room + 1) * 2 ≤ (room + 1) * w := Int.mul_le_mul_of_nonneg_left h3 (by omega)
      omega
  have hs0 : 0 ≤ sumE l := by
    rw [sumE_wsum, ← boxSum_wsum]
    exact boxSum_nonneg ⟨hr1, hr2, hsz⟩ (by simp)
  unfold bndE
  rw [if_neg (by omega)]
  have hq : (sumE l + room - 1).tdiv room ≤ bs.length := by
    rw [Int.tdiv_eq_ediv_of_nonneg (by omega)]
    refine Int.lt_add_one_iff.1 (Int.ediv_lt_of_lt_mul (by omega) ?_)
    rw [Int.add_mul]; omega
  unfold maxI
  split <;> omega
/-- what the exact packing is -/
theorem exact_facts {l : List Int} {room : Int} (h : (exR l room).2 = 0) : fewE l room = 0 ∧ validE l room (exR l room).1 = 0 ∧ (exR l room).1.length = leastE l room ∧ bndE l room ≤ leastE l room ∧ ∀ t ∈ (exR l room).1, t.length ≤ l.length := by
  unfold exR exactE at h ⊢
  by_cases hf : fewE l room ≠ 0
  · rw [if_pos hf] at h; exact absurd h hf
  have hf : fewE l room = 0 := by omega
  rw [if_neg (by omega)] at h ⊢
  obtain ⟨hc, hr1, hr2, hlen, hsz⟩ := few_ok hf
  split at h
  · rename_i x hx
    obtain ⟨N, S, rfl, hp, hle⟩ := put_sound hsz l 0 [] [] x rfl (Nat.zero_le _) (pk_nil l room) (Nat.zero_le _) hx
    have hnd : N.flatten.Nodup := hp.perm.nodup_iff.2 List.nodup_range
    have hbox : ∀ b ∈ N, b ≠ [] ∧ b.Pairwise (· < ·) ∧ boxSum l b ≤ room := by
      intro b hb
      obtain ⟨k, hk⟩ := List.getElem?_of_mem hb
      obtain ⟨a1, a2, _, a3⟩ := hp.box k b hk
      exact ⟨a1, a2, a3⟩
    have hopt := least_opt hf (fun b hb => ⟨(hbox b hb).1, (hbox b hb).2.2⟩) hnd fun j => hp.mem
    have hN : N.length = leastE l room := by omega
    refine ⟨hf, valid_of hc hbox hnd (fun j => hp.mem) hp.heads, by simpa using hN, ?_, fun t ht => ?_⟩
    · rw [← hN]; exact bound_le hc (fun b hb => (hbox b hb).2.2) hp.perm
    · simp at ht
      obtain ⟨b, hb, rfl⟩ := ht
      have h1 : b.length ≤ N.flatten.length := by
        obtain ⟨s, t, e⟩ := List.append_of_mem hb
        rw [e]; simp; omega
      rw [hp.perm.length_eq, List.length_range] at h1
      simpa using h1
  · cases h
theorem exact_err {l : List Int} {room : Int} (h : (exR l room).2 ≠ 0) : (exR l room).1 = [] := by
  unfold exR exactE at h ⊢
  split
  · rfl
  · rename_i hf
    rw [if_neg hf] at h
    split
    · rename_i x hx; rw [hx] at h; exact absurd rfl h
    · rfl
/-- no packing has fewer boxes -/
theorem valid_least {l : List Int} {room : Int} {T : List (List Int)} (hf : fewE l room = 0) (h : validE l room T = 0) : leastE l room ≤ T.length := by
  obtain ⟨bs, rfl, hb, hnd, hall⟩ := valid_packing h
  rw [List.length_map]
  exact least_opt hf hb hnd hall
end Go.Abs.L39
