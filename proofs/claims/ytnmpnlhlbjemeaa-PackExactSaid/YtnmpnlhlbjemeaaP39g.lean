import Derived.Test.YtnmpnlhlbjemeaaL39n
namespace Go.Abs.L39
open Go Go.Abs Go.Proofs
set_option linter.unusedVariables false
set_option maxRecDepth 20000
/-! ### the table's packing -/
abbrev wload (l : List Int) (f : Nat → Nat) (b : Nat) (js : List Nat) : Int := wsum (fun j => if f j = b then sizeAt l j else 0) js
theorem wsum_congr {f g : Nat → Int} : ∀ {js : List Nat}, (∀ j ∈ js, f j = g j) → wsum f js = wsum g js
  | [], _ => rfl
  | j :: r, h => by rw [wsum, wsum, h j (by simp), wsum_congr fun i hi => h i (by simp [hi])]
theorem wsum_zero {f : Nat → Int} : ∀ {js : List Nat}, (∀ j ∈ js, f j = 0) → wsum f js = 0
  | [], _ => rfl
  | j :: r, h => by rw [wsum, h j (by simp), wsum_zero fun i hi => h i (by simp [hi])]; rfl
theorem tv_packs {l : List Int} {room : Int} (h : OKl l room) : ∀ k, k < 2 ^ l.length → ∃ (js : List Nat) (f : Nat → Nat) (m : Nat), js.Nodup ∧ (∀ j, j ∈ js ↔ k.testBit j = true) ∧ tv l room k / 10001 = m ∧ (∀ j ∈ js, f j < m) ∧ (∀ b, wload l f b js ≤ room) ∧ (1 ≤ m → wload l f (m - 1) js = tv l room k % 10001) := by
  intro k
  induction k using Nat.strongRecOn with
  | ind k ih =>
    intro hk
    by_cases h0 : k = 0
    · subst h0
      refine ⟨[], fun _ => 0, 0, List.nodup_nil, by simp, by rw [tv_zero]; rfl, by simp, fun b => ?_, by omega⟩
      have := h.room1
      show (0 : Int) ≤ room
      omega
    obtain ⟨i, n, hi, hb, e⟩ := h.mem hk h0
    have hle := bit_le hb
    have hp := Nat.two_pow_pos i
    obtain ⟨js, f, m, h1, h2, h3, h4, h5, h6⟩ := ih (k - 2 ^ i) (by omega) (by omega)
    have hn := h.sz n (List.mem_of_getElem? hi)
    have hr2 := h.room2
    have hsz : sizeAt l i = n := by unfold sizeAt; rw [List.getD_eq_getElem?_getD, hi]; rfl
    have hni : i ∉ js := fun hm => by have := (h2 i).1 hm; rw [sub_bit_self hb] at this; cases this
    have hne : ∀ j ∈ js, j ≠ i := fun j hj e => hni (e ▸ hj)
    have hx := h.nonneg (k - 2 ^ i)
    have hmem : ∀ j, j ∈ i :: js ↔ k.testBit j = true := by
      intro j
      rw [List.mem_cons, h2 j]
      by_cases e : j = i
      · subst e; simp [hb]
      · rw [sub_bit_ne hb e]; simp [e]
    have key : ∀ (c b : Nat), wload l (fun j => if j = i then c else f j) b (i :: js) = (if c = b then n else 0) + wload l f b js := by
      intro c b
      show wsum _ _ = _
      rw [wsum]
      congr 1
      · simp [hsz]
      · exact wsum_congr fun j hj => by simp [hne j hj]
    have hz : ∀ b, m ≤ b → wload l f b js = 0 := fun b hb => wsum_zero fun j hj => by
      have := h4 j hj
      rw [if_neg (by omega)]
    rw [put1_eq hx] at e
    split at e
    · rename_i hc
      refine ⟨i :: js, fun j => if j = i then m else f j, m + 1, List.nodup_cons.2 ⟨hni, h1⟩, hmem, by omega, fun j hj => ?_, fun b => ?_, fun _ => ?_⟩
      · rcases List.mem_cons.1 hj with rfl | hj
        · simp
        · have := h4 j hj
          have := hne j hj
          simp [this]; omega
      · rw [key]
        by_cases e2 : m = b
        · subst e2; rw [if_pos rfl, hz m (Nat.le_refl _)]; omega
        · rw [if_neg e2]; have := h5 b; omega
      · rw [key, Nat.add_sub_cancel, if_pos rfl, hz m (Nat.le_refl _)]; omega
    · rename_i hc
      have hm1 : 1 ≤ m := by omega
      have h6 := h6 hm1
      refine ⟨i :: js, fun j => if j = i then m - 1 else f j, m, List.nodup_cons.2 ⟨hni, h1⟩, hmem, by omega, fun j hj => ?_, fun b => ?_, fun _ => ?_⟩
      · rcases List.mem_cons.1 hj with rfl | hj
        · simp; omega
        · have := h4 j hj
          have := hne j hj
          simp [this]; omega
      · rw [key]
        by_cases e2 : m - 1 = b
        · subst e2; rw [if_pos rfl, h6]; omega
        · rw [if_neg e2]; have := h5 b; omega
      · rw [key, if_pos rfl, h6]; omega
def loadL : List Nat → List Int → Nat → Int
  | g :: gs, n :: r, b => (if g = b then n else 0) + loadL gs r b
  | _, _, _ => 0
theorem loadL_wsum : ∀ (l : List Int) (f : Nat → Nat) (b : Nat), loadL ((List.range l.length).map f) l b = wload l f b (List.range l.length)
  | [], f, b => rfl
  | n :: r, f, b => by
    rw [List.length_cons]
    show _ = wsum _ _
    rw [wsum_range_shift, List.range_succ_eq_map, List.map_cons, loadL, List.map_map]
    congr 1
    exact loadL_wsum r (f ∘ Nat.succ) b
/-- the pieces that remain can be packed -/
def Feas (room : Int) (least : Nat) (r : List Int) (S : List Int) : Prop :=
  ∃ g : List Nat, g.length = r.length ∧ (∀ c ∈ g, c < least) ∧ ∀ b, b < least → S.getD b 0 + loadL g r b ≤ room
theorem feas_all {l : List Int} {room : Int} (hf : fewE l room = 0) : Feas room (leastE l room) l [] := by
  have h := few_okl hf
  have hp := Nat.two_pow_pos l.length
  obtain ⟨js, f, m, h1, h2, h3, h4, h5, _⟩ := tv_packs h (2 ^ l.length - 1) (by omega)
  have hm : m = leastE l room := by have := least_eq hf; omega
  subst hm
  have hj : ∀ j, j ∈ js ↔ j < l.length := fun j => by rw [h2, Nat.testBit_two_pow_sub_one]; simp
  have hperm : js.Perm (List.range l.length) := (List.perm_ext_iff_of_nodup h1 List.nodup_range).2 fun j => by rw [hj, List.mem_range]
  refine ⟨(List.range l.length).map f, by simp, fun c hc => ?_, fun b hb => ?_⟩
  · obtain ⟨j, hj', rfl⟩ := List.mem_map.1 hc
    exact h4 j ((hj j).2 (List.mem_range.1 hj'))
  · have e : wload l f b (List.range l.length) = wload l f b js := (wsum_perm _ hperm).symm
    rw [loadL_wsum, e]
    have := h5 b
    simpa using this
theorem loadL_nonneg : ∀ (g : List Nat) (r : List Int) (b : Nat), (∀ n ∈ r, 1 ≤ n) → 0 ≤ loadL g r b
  | [], _, _, _ => Int.le_refl _
  | _ :: _, [], _, _ => Int.le_refl _
  | g :: gs, n :: r, b, h => by
    rw [loadL]
    have := loadL_nonneg gs r b fun m hm => h m (by simp [hm])
    have := h n (by simp)
    split <;> omega
def swp (b t c : Nat) : Nat := if c = b then t else if c = t then b else c
theorem loadL_swp (b t : Nat) : ∀ (g : List Nat) (r : List Int) (c : Nat), loadL (g.map (swp b t)) r c = loadL g r (swp b t c)
  | [], _, _ => rfl
  | _ :: _, [], _ => rfl
  | g :: gs, n :: r, c => by
    rw [List.map_cons, loadL, loadL, loadL_swp b t gs r c]
    congr 1
    have : (swp b t g = c) ↔ (g = swp b t c) := by
      unfold swp
      repeat' split
      all_goals omega
    by_cases h : swp b t g = c
    · rw [if_pos h, if_pos (this.1 h)]
    · rw [if_neg h, if_neg (fun h' => h (this.2 h'))]
theorem findSome_ne {α β : Type} {f : α → Option β} {l : List α} {a : α} (ha : a ∈ l) (h : f a ≠ none) : l.findSome? f ≠ none := by
  intro e
  rw [List.findSome?_eq_none_iff] at e
  exact h (e a ha)
theorem getD_setS {S : List Int} {i j : Nat} {x : Int} (hi : i < S.length) : (S.set i x).getD j 0 = if j = i then x else S.getD j 0 := by
  rw [List.getD_eq_getElem?_getD, List.getD_eq_getElem?_getD, List.getElem?_set]
  by_cases e : i = j
  · subst e; simp [hi]
  · rw [if_neg e, if_neg (fun h => e h.symm)]
theorem put_complete {room : Int} {least : Nat} : ∀ (r : List Int) (i : Nat) (T : List (List Int)) (S : List Int), (∀ n ∈ r, 1 ≤ n) → S.length = T.length → T.length ≤ least → Feas room least r S → putE room least r i T S ≠ none
  | [], i, T, S, _, _, _, _ => by unfold putE; simp
  | n :: r, i, T, S, hn, hl, hle, ⟨g, hg1, hg2, hg3⟩ => by
    obtain ⟨b, g', rfl⟩ : ∃ b g', g = b :: g' := by
      cases g with
      | nil => cases hg1
      | cons b g' => exact ⟨b, g', rfl⟩
    have hr : ∀ m ∈ r, 1 ≤ m := fun m hm => hn m (by simp [hm])
    have hbl := hg2 b (by simp)
    have hg1' : g'.length = r.length := by simpa using hg1
    have hg2' : ∀ c ∈ g', c < least := fun c hc => hg2 c (by simp [hc])
    rw [putE_cons]
    by_cases hb : b < T.length
    · have h1 := hg3 b hbl
      rw [loadL, if_pos rfl] at h1
      have h2 := loadL_nonneg g' r b hr
      have : tryE room least n r i T S b ≠ none := by
        unfold tryE
        rw [if_neg (by omega)]
        refine put_complete r (i + 1) _ _ hr (by rw [List.length_set, List.length_set]; exact hl) (by rw [List.length_set]; exact hle) ⟨g', hg1', hg2', fun c hc => ?_⟩
        have h3 := hg3 c hc
        rw [loadL] at h3
        rw [getD_setS (by omega)]
        by_cases e : c = b
        · subst e; rw [if_pos rfl] at h3 ⊢; omega
        · rw [if_neg e]; rw [if_neg (fun h => e h.symm)] at h3; omega
      have hs := findSome_ne (f := tryE room least n r i T S) (List.mem_range.2 hb) this
      split
      · simp
      · rename_i h; exact absurd h hs
    · split
      · simp
      · rw [if_neg (by omega)]
        refine put_complete r (i + 1) _ _ hr (by simp [hl]) (by rw [List.length_append]; simp; omega) ⟨g'.map (swp b T.length), by simpa using hg1', fun c hc => ?_, fun c hc => ?_⟩
        · obtain ⟨d, hd, rfl⟩ := List.mem_map.1 hc
          have := hg2' d hd
          unfold swp
          repeat' split
          all_goals omega
        · rw [loadL_swp]
          have h0 : ∀ j, S.length ≤ j → S.getD j 0 = 0 := fun j hj => by rw [List.getD_eq_getElem?_getD, List.getElem?_eq_none hj]; rfl
          have hx : ∀ j, (S ++ [n]).getD j 0 = if j = T.length then n else S.getD j 0 := by
            intro j
            rw [List.getD_eq_getElem?_getD, List.getD_eq_getElem?_getD]
            rcases Nat.lt_trichotomy j S.length with h | h | h
            · rw [List.getElem?_append_left h, if_neg (by omega)]
            · rw [List.getElem?_append_right (by omega), if_pos (by omega), h, Nat.sub_self]; rfl
            · rw [List.getElem?_eq_none (by simp; omega), if_neg (by omega), List.getElem?_eq_none (by omega)]
          rw [hx]
          have h3 := hg3 (swp b T.length c) (by unfold swp; repeat' split
                                                all_goals omega)
          rw [loadL] at h3
          by_cases e : c = T.length
          · subst e
            rw [if_pos rfl]
            have e2 : swp b T.length T.length = b := by unfold swp; split <;> simp_all
            rw [e2] at h3 ⊢
            rw [if_pos rfl, h0 b (by omega)] at h3
            omega
          · rw [if_neg e]
            by_cases e3 : c = b
            · subst e3
              have e2 : swp c T.length c = T.length := by unfold swp; simp
              rw [e2] at h3 ⊢
              rw [if_neg e, h0 T.length (by omega)] at h3
              rw [h0 c (by omega)]
              omega
            · have e2 : swp b T.length c = c := by unfold swp; simp [e, e3]
              rw [e2] at h3 ⊢
              rw [if_neg (fun h => e3 h.symm)] at h3
              omega
/-! ### put and the reference's search find the same -/
theorem outE_app (k : Int) : ∀ (a : List Int) (i : Nat) (T : List (List Int)), outE (a ++ [k]) i T = (outE a i T).set k.toNat ((outE a i T).getD k.toNat [] ++ [((i + a.length : Nat) : Int)])
  | [], i, T => rfl
  | x :: a, i, T => by
    rw [List.cons_append, outE, outE, outE_app k a, List.length_cons, show i + 1 + a.length = i + (a.length + 1) by omega]
theorem findSome_map {α β γ : Type} {f : α → Option β} {f' : α → Option γ} {δ : Type} {g : β → δ} {g' : γ → δ} : ∀ {l : List α}, (∀ a ∈ l, (f a).map g = (f' a).map g') → (l.findSome? f).map g = (l.findSome? f').map g'
  | [], _ => rfl
  | a :: l, h => by
    have h0 := h a (by simp)
    have ih := findSome_map (l := l) fun x hx => h x (by simp [hx])
    rw [List.findSome?_cons, List.findSome?_cons]
    cases h1 : f a <;> cases h2 : f' a <;> rw [h1, h2] at h0
    · exact ih
    · cases h0
    · cases h0
    · exact h0
def fill (least : Nat) (T : List (List Int)) : List (List Int) := T ++ List.replicate (least - T.length) []
theorem fill_set {least k : Nat} {T : List (List Int)} {t : List Int} (h : k < T.length) : fill least (T.set k t) = (fill least T).set k t := by
  unfold fill
  rw [List.set_append_left _ _ h, List.length_set]
theorem fill_get {least k : Nat} {T : List (List Int)} (h : k < T.length) : (fill least T).getD k [] = T.getD k [] := by
  unfold fill
  rw [List.getD_eq_getElem?_getD, List.getD_eq_getElem?_getD, List.getElem?_append_left h]
theorem fill_new {least : Nat} {T : List (List Int)} {x : Int} (h : T.length < least) : fill least (T ++ [[x]]) = (fill least T).set T.length ((fill least T).getD T.length [] ++ [x]) := by
  unfold fill
  rw [show least - T.length = (least - (T.length + 1)) + 1 by omega, List.replicate_succ, List.getD_eq_getElem?_getD, List.getElem?_append_right (Nat.le_refl _), Nat.sub_self, List.set_append_right _ _ (Nat.le_refl _), Nat.sub_self, List.length_append, List.append_assoc]
  rfl
theorem put_src {room : Int} {least : Nat} : ∀ (r : List Int) (T : List (List Int)) (S of : List Int), S.length = T.length → T.length ≤ least → outE of 0 (List.replicate least []) = fill least T →
    (putE room least r of.length T S).map (fun x => fill least x.1) = (srcE room least r (S.map fun s => room - s) of).map (fun o => outE o 0 (List.replicate least []))
  | [], T, S, of, _, _, h => by
    unfold putE srcE
    simp [h]
  | n :: r, T, S, of, hl, hle, h => by
    have hlen : (S.map fun s => room - s).length = T.length := by rw [List.length_map]; exact hl
    have hone : ∀ k ∈ List.range T.length, (tryE room least n r of.length T S k).map (fun x => fill least x.1) = (tryS room (srcE room least r) n (S.map fun s => room - s) of k).map (fun o => outE o 0 (List.replicate least [])) := by
      intro k hk
      have hk : k < T.length := List.mem_range.1 hk
      obtain ⟨s, hs⟩ : ∃ s, S[k]? = some s := ⟨S[k]'(by omega), by simp [hl, hk]⟩
      have e1 : S.getD k 0 = s := by rw [List.getD_eq_getElem?_getD, hs]; rfl
      have e2 : (S.map fun s => room - s).getD k 0 = room - s := by rw [List.getD_eq_getElem?_getD, List.getElem?_map, hs]; rfl
      unfold tryE tryS
      rw [hlen, e1, e2]
      by_cases hgt : s + n > room
      · rw [if_pos hgt, if_pos ⟨hk, by omega⟩]; rfl
      · rw [if_neg hgt, if_neg (by omega), if_neg (by omega), e2]
        have ih := put_src (room := room) (least := least) r (T.set k (T.getD k [] ++ [(of.length : Int)])) (S.set k (s + n)) (of ++ [(k : Int)]) (by rw [List.length_set, List.length_set]; exact hl) (by rw [List.length_set]; exact hle) (by
          rw [outE_app, h, Int.toNat_natCast, fill_set hk, fill_get hk, Nat.zero_add])
        rw [List.length_append, List.length_singleton] at ih
        rw [ih, List.map_set, show room - s - n = room - (s + n) by omega]
    have hf := findSome_map hone
    rw [putE_cons, srcE, hlen]
    by_cases hfull : T.length = least
    · rw [show min (T.length + 1) least = T.length by omega, ← hf]
      cases (List.range T.length).findSome? (tryE room least n r of.length T S) with
      | some x => rfl
      | none => rw [if_pos hfull]
    · rw [show min (T.length + 1) least = T.length + 1 by omega, List.range_succ, List.findSome?_append]
      have ih := put_src (room := room) (least := least) r (T ++ [[(of.length : Int)]]) (S ++ [n]) (of ++ [(T.length : Int)]) (by simp [hl]) (by rw [List.length_append]; simp; omega) (by
        rw [outE_app, h, Int.toNat_natCast, fill_new (by omega), Nat.zero_add])
      rw [List.length_append, List.length_singleton] at ih
      have hlast : ([T.length].findSome? (tryS room (srcE room least r) n (S.map fun s => room - s) of)) = srcE room least r ((S ++ [n]).map fun s => room - s) (of ++ [(T.length : Int)]) := by
        have hD : ((S.map fun s => room - s) ++ [room]).getD T.length 0 = room := by
          rw [List.getD_eq_getElem?_getD, List.getElem?_append_right (by rw [hlen]; exact Nat.le_refl _), hlen, Nat.sub_self]; rfl
        have hS : ((S.map fun s => room - s) ++ [room]).set T.length (room - n) = (S ++ [n]).map fun s => room - s := by
          rw [List.set_append_right _ _ (by rw [hlen]; exact Nat.le_refl _), hlen, Nat.sub_self, List.map_append]; rfl
        rw [List.findSome?_cons]
        have : tryS room (srcE room least r) n (S.map fun s => room - s) of T.length = srcE room least r ((S ++ [n]).map fun s => room - s) (of ++ [(T.length : Int)]) := by
          unfold tryS
          rw [hlen, if_neg (by omega), if_pos rfl, hD, hS]
        rw [this]
        cases srcE room least r ((S ++ [n]).map fun s => room - s) (of ++ [(T.length : Int)]) <;> rfl
      rw [hlast]
      cases h1 : (List.range T.length).findSome? (tryE room least n r of.length T S) with
      | some x =>
        rw [h1] at hf
        cases h2 : (List.range T.length).findSome? (tryS room (srcE room least r) n (S.map fun s => room - s) of) with
        | some y => rw [h2] at hf; exact hf
        | none => rw [h2] at hf; cases hf
      | none =>
        rw [h1] at hf
        cases h2 : (List.range T.length).findSome? (tryS room (srcE room least r) n (S.map fun s => room - s) of) with
        | some y => rw [h2] at hf; cases hf
        | none => rw [if_neg hfull]; exact ih
/-- the reference's list of boxes -/
theorem src_facts {room : Int} {most : Nat} : ∀ (r left of o : List Int), srcE room most r left of = some o → (∀ k ∈ of, 0 ≤ k ∧ k < most) → o.length = of.length + r.length ∧ ∀ k ∈ o, 0 ≤ k ∧ k < most
  | [], left, of, o, h, hk => by
    unfold srcE at h
    injection h with h; subst h
    exact ⟨rfl, hk⟩
  | n :: r, left, of, o, h, hk => by
    unfold srcE at h
    obtain ⟨k, hm, h1⟩ := List.exists_of_findSome?_eq_some h
    have hm := List.mem_range.1 hm
    unfold tryS at h1
    split at h1
    · cases h1
    · have := src_facts r _ _ o h1 (fun x hx => by
        rcases List.mem_append.1 hx with hx | hx
        · exact hk x hx
        · simp at hx; subst hx; omega)
      rw [List.length_append, List.length_singleton] at this
      exact ⟨by rw [this.1, List.length_cons]; omega, this.2⟩
/-- what the reference's Exact answers -/
def ofE (l : List Int) (room : Int) : List Int := (srcE room (leastE l room) l [] []).getD []
theorem exact_ref {l : List Int} {room : Int} (hf : fewE l room = 0) : (exR l room).2 = 0 ∧ (exR l room).1 = outE (ofE l room) 0 (List.replicate (leastE l room) []) ∧ (ofE l room).length ≤ l.length ∧ ∀ k ∈ ofE l room, 0 ≤ k ∧ k < leastE l room := by
  obtain ⟨hc, hr1, hr2, hlen, hsz⟩ := few_ok hf
  have hcomp := put_complete (room := room) (least := leastE l room) l 0 [] [] (fun n hn => (hsz n hn).1) rfl (Nat.zero_le _) (feas_all hf)
  have hps := put_src (room := room) (least := leastE l room) l [] [] [] rfl (Nat.zero_le _) rfl
  obtain ⟨x, hx⟩ := Option.ne_none_iff_exists'.1 hcomp
  have hx' : putE room (leastE l room) l ([] : List Int).length [] [] = some x := hx
  have e0 : (exR l room) = (x.1, 0) := by unfold exR exactE; rw [if_neg (by omega), hx]
  have he : (exR l room).2 = 0 := by rw [e0]
  obtain ⟨_, _, hX, _, _⟩ := exact_facts he
  rw [hx'] at hps
  cases ho : srcE room (leastE l room) l [] [] with
  | none => rw [show ([] : List Int).map (fun s => room - s) = [] from rfl, ho] at hps; cases hps
  | some o =>
    rw [show ([] : List Int).map (fun s => room - s) = [] from rfl, ho] at hps
    have hps : fill (leastE l room) x.1 = outE o 0 (List.replicate (leastE l room) []) := by injection hps
    have hfl : fill (leastE l room) x.1 = x.1 := by
      rw [e0] at hX
      unfold fill
      rw [show x.1.length = leastE l room from hX, Nat.sub_self]
      simp
    obtain ⟨f1, f2⟩ := src_facts l [] [] o ho (by simp)
    have eo : ofE l room = o := by unfold ofE; rw [ho]; rfl
    refine ⟨he, by rw [e0, eo, ← hps, hfl], by rw [eo, f1]; simp, by rw [eo]; exact f2⟩
end Go.Abs.L39
