namespace Go.Abs.Hung
set_option linter.unusedVariables false
/-! ### the model: rows are assigned one after the other by shortest ways that alternate -/
theorem gset {α : Type} {l : List α} {i j : Nat} {x d : α} (h : i < l.length) : (l.set i x).getD j d = if j = i then x else l.getD j d := by
  rw [List.getD_eq_getElem?_getD, List.getD_eq_getElem?_getD, List.getElem?_set]
  by_cases e : i = j
  · subst e; simp [h]
  · rw [if_neg e, if_neg (fun h => e h.symm)]
/-- the columns are looked at from k on -/
def scan (a : Nat → Nat → Int) (used : List Bool) (u v : List Int) (r here : Nat) : Nat → Nat → List Int → List Nat → Int → Nat → List Int × List Nat × Int × Nat
  | 0, _, L, W, d, x => (L, W, d, x)
  | q + 1, k, L, W, d, x =>
    if used.getD k false = true then scan a used u v r here q (k + 1) L W d x
    else
      let c := a (r - 1) (k - 1) - u.getD r 0 - v.getD k 0
      let L' := if c < L.getD k 0 then L.set k c else L
      let W' := if c < L.getD k 0 then W.set k here else W
      if L'.getD k 0 < d then scan a used u v r here q (k + 1) L' W' (L'.getD k 0) k
      else scan a used u v r here q (k + 1) L' W' d x
/-- potentials are turned by d -/
def upd (row : List Nat) (used : List Bool) (d : Int) : Nat → Nat → List Int → List Int → List Int → List Int × List Int × List Int
  | 0, _, u, v, L => (u, v, L)
  | q + 1, k, u, v, L =>
    if used.getD k false = true then upd row used d q (k + 1) (u.set (row.getD k 0) (u.getD (row.getD k 0) 0 + d)) (v.set k (v.getD k 0 - d)) L
    else upd row used d q (k + 1) u v (L.set k (L.getD k 0 - d))
structure St where
  u : List Int
  v : List Int
  L : List Int
  W : List Nat
  used : List Bool
  here : Nat
/-- one more column is reached -/
def step (a : Nat → Nat → Int) (m : Nat) (INF : Int) (row : List Nat) (s : St) : St :=
  let used := s.used.set s.here true
  let r := row.getD s.here 0
  let y := scan a used s.u s.v r s.here m 1 s.L s.W INF 0
  let z := upd row used y.2.2.1 (m + 1) 0 s.u s.v y.1
  ⟨z.1, z.2.1, z.2.2, y.2.1, used, y.2.2.2⟩
def inner (a : Nat → Nat → Int) (m : Nat) (INF : Int) (row : List Nat) : Nat → St → Option St
  | 0, _ => none
  | f + 1, s => if row.getD s.here 0 = 0 then some s else inner a m INF row f (step a m INF row s)
def aug : Nat → List Nat → List Nat → Nat → Option (List Nat)
  | 0, _, _, _ => none
  | f + 1, row, W, here => if here = 0 then some row else aug f (row.set here (row.getD (W.getD here 0) 0)) W (W.getD here 0)
structure Ph where
  u : List Int
  v : List Int
  row : List Nat
  W : List Nat
def phase (a : Nat → Nat → Int) (m : Nat) (INF : Int) (W0 : List Nat) (p : Nat) (s : Ph) : Option Ph :=
  match inner a m INF (s.row.set 0 p) (m + 2) ⟨s.u, s.v, List.replicate (m + 1) INF, W0, List.replicate (m + 1) false, 0⟩ with
  | none => none
  | some t => match aug (m + 2) (s.row.set 0 p) t.W t.here with
    | none => none
    | some row => some ⟨t.u, t.v, row, t.W⟩
/-! ### what a look at the columns finds -/
theorem scan_spec (a : Nat → Nat → Int) (used : List Bool) (u v : List Int) (r here : Nat) : ∀ (q k : Nat) (L : List Int) (W : List Nat) (d : Int) (x : Nat), k + q ≤ L.length → k + q ≤ W.length →
    let y := scan a used u v r here q k L W d x
    y.1.length = L.length ∧ y.2.1.length = W.length ∧
    (∀ j, (j < k ∨ k + q ≤ j ∨ used.getD j false = true) → y.1.getD j 0 = L.getD j 0 ∧ y.2.1.getD j 0 = W.getD j 0) ∧
    (∀ j, k ≤ j → j < k + q → used.getD j false = false → y.1.getD j 0 = (if a (r - 1) (j - 1) - u.getD r 0 - v.getD j 0 < L.getD j 0 then a (r - 1) (j - 1) - u.getD r 0 - v.getD j 0 else L.getD j 0) ∧ y.2.1.getD j 0 = (if a (r - 1) (j - 1) - u.getD r 0 - v.getD j 0 < L.getD j 0 then here else W.getD j 0) ∧ y.2.2.1 ≤ y.1.getD j 0) ∧
    y.2.2.1 ≤ d ∧ ((y.2.2.1 = d ∧ y.2.2.2 = x) ∨ (k ≤ y.2.2.2 ∧ y.2.2.2 < k + q ∧ used.getD y.2.2.2 false = false ∧ y.2.2.1 = y.1.getD y.2.2.2 0))
  | 0, k, L, W, d, x, _, _ => by
    refine ⟨rfl, rfl, fun j _ => ⟨rfl, rfl⟩, fun j h1 h2 => by omega, Int.le_refl _, .inl ⟨rfl, rfl⟩⟩
  | q + 1, k, L, W, d, x, hL, hW => by
    simp only [scan]
    by_cases hu : used.getD k false = true
    · rw [if_pos hu]
      obtain ⟨h1, h2, h3, h4, h5, h6⟩ := scan_spec a used u v r here q (k + 1) L W d x (by omega) (by omega)
      refine ⟨h1, h2, fun j hj => h3 j (hj.imp (fun h => by omega) (fun h => h.imp (fun h => by omega) id)), fun j hj1 hj2 hj3 => ?_, h5, ?_⟩
      · have : j ≠ k := by rintro rfl; rw [hu] at hj3; cases hj3
        exact h4 j (by omega) (by omega) hj3
      · rcases h6 with h6 | ⟨a1, a2, a3⟩
        · exact .inl h6
        · exact .inr ⟨by omega, by omega, a3⟩
    · rw [if_neg hu]
      have hu : used.getD k false = false := by simpa using hu
      generalize hc : a (r - 1) (k - 1) - u.getD r 0 - v.getD k 0 = c
      have hkL : k < L.length := by omega
      have hkW : k < W.length := by omega
      have lenL : (if c < L.getD k 0 then L.set k c else L).length = L.length := by split <;> simp
      have lenW : (if c < L.getD k 0 then W.set k here else W).length = W.length := by split <;> simp
      have gL : ∀ j, (if c < L.getD k 0 then L.set k c else L).getD j 0 = if j = k then (if c < L.getD k 0 then c else L.getD k 0) else L.getD j 0 := by
        intro j
        by_cases h : c < L.getD k 0
        · rw [if_pos h, if_pos h, gset hkL]
        · rw [if_neg h, if_neg h]
          split
          · rename_i e; rw [e]
          · rfl
      have gW : ∀ j, (if c < L.getD k 0 then W.set k here else W).getD j 0 = if j = k then (if c < L.getD k 0 then here else W.getD k 0) else W.getD j 0 := by
        intro j
        by_cases h : c < L.getD k 0
        · rw [if_pos h, if_pos h, gset hkW]
        · rw [if_neg h, if_neg h]
          split
          · rename_i e; rw [e]
          · rfl
      generalize (if c < L.getD k 0 then L.set k c else L) = L' at *
      generalize (if c < L.getD k 0 then W.set k here else W) = W' at *
      have fin : ∀ (d' : Int) (x' : Nat), d' ≤ d → d' ≤ L'.getD k 0 → ((d' = d ∧ x' = x) ∨ (x' = k ∧ d' = L'.getD k 0)) →
          let y := scan a used u v r here q (k + 1) L' W' d' x'
          y.1.length = L.length ∧ y.2.1.length = W.length ∧
          (∀ j, (j < k ∨ k + (q + 1) ≤ j ∨ used.getD j false = true) → y.1.getD j 0 = L.getD j 0 ∧ y.2.1.getD j 0 = W.getD j 0) ∧
          (∀ j, k ≤ j → j < k + (q + 1) → used.getD j false = false → y.1.getD j 0 = (if a (r - 1) (j - 1) - u.getD r 0 - v.getD j 0 < L.getD j 0 then a (r - 1) (j - 1) - u.getD r 0 - v.getD j 0 else L.getD j 0) ∧ y.2.1.getD j 0 = (if a (r - 1) (j - 1) - u.getD r 0 - v.getD j 0 < L.getD j 0 then here else W.getD j 0) ∧ y.2.2.1 ≤ y.1.getD j 0) ∧
          y.2.2.1 ≤ d ∧ ((y.2.2.1 = d ∧ y.2.2.2 = x) ∨ (k ≤ y.2.2.2 ∧ y.2.2.2 < k + (q + 1) ∧ used.getD y.2.2.2 false = false ∧ y.2.2.1 = y.1.getD y.2.2.2 0)) := by
        intro d' x' hd1 hd2 hx
        obtain ⟨h1, h2, h3, h4, h5, h6⟩ := scan_spec a used u v r here q (k + 1) L' W' d' x' (by omega) (by omega)
        have hk := h3 k (.inl (by omega))
        refine ⟨by omega, by omega, fun j hj => ?_, fun j hj1 hj2 hj3 => ?_, by omega, ?_⟩
        · have hne : j ≠ k := by
            rintro rfl
            rcases hj with hj | hj | hj
            · omega
            · omega
            · rw [hu] at hj; cases hj
          have := h3 j (hj.imp (fun h => by omega) (fun h => h.imp (fun h => by omega) id))
          rw [this.1, this.2, gL, gW, if_neg hne, if_neg hne]
          exact ⟨rfl, rfl⟩
        · by_cases e : j = k
          · subst e
            rw [hk.1, hk.2, gL, gW, if_pos rfl, if_pos rfl, hc]
            refine ⟨rfl, rfl, ?_⟩
            have := gL j
            rw [if_pos rfl] at this
            rw [← this]; omega
          · have := h4 j (by omega) (by omega) hj3
            rw [gL, if_neg e, gW, if_neg e] at this
            exact this
        · rcases h6 with ⟨b1, b2⟩ | ⟨b1, b2, b3, b4⟩
          · rcases hx with ⟨c1, c2⟩ | ⟨c1, c2⟩
            · exact .inl ⟨by omega, by omega⟩
            · right
              subst c1
              rw [b2, hk.1]
              exact ⟨by omega, by omega, hu, by omega⟩
          · exact .inr ⟨by omega, by omega, b3, b4⟩
      split
      · rename_i hlt
        exact fin _ _ (by omega) (Int.le_refl _) (.inr ⟨rfl, rfl⟩)
      · rename_i hge
        exact fin _ _ (Int.le_refl _) (by omega) (.inl ⟨rfl, rfl⟩)
/-- what the turn of the potentials does -/
theorem upd_spec (row : List Nat) (used : List Bool) (d : Int) : ∀ (q k : Nat) (u v L : List Int), k + q ≤ v.length → k + q ≤ L.length → (∀ j, row.getD j 0 < u.length) → (∀ i j, used.getD i false = true → used.getD j false = true → row.getD i 0 = row.getD j 0 → i = j) →
    let z := upd row used d q k u v L
    z.1.length = u.length ∧ z.2.1.length = v.length ∧ z.2.2.length = L.length ∧
    (∀ j, k ≤ j → j < k + q → used.getD j false = true → z.1.getD (row.getD j 0) 0 = u.getD (row.getD j 0) 0 + d) ∧
    (∀ i, (∀ j, k ≤ j → j < k + q → used.getD j false = true → row.getD j 0 ≠ i) → z.1.getD i 0 = u.getD i 0) ∧
    (∀ j, z.2.1.getD j 0 = if k ≤ j ∧ j < k + q ∧ used.getD j false = true then v.getD j 0 - d else v.getD j 0) ∧
    (∀ j, z.2.2.getD j 0 = if k ≤ j ∧ j < k + q ∧ used.getD j false = false then L.getD j 0 - d else L.getD j 0)
  | 0, k, u, v, L, _, _, _, _ => by
    refine ⟨rfl, rfl, rfl, fun j h1 h2 => by omega, fun i _ => rfl, fun j => ?_, fun j => ?_⟩
    · rw [if_neg (by omega)]; rfl
    · rw [if_neg (by omega)]; rfl
  | q + 1, k, u, v, L, hv, hL, hr, hinj => by
    simp only [upd]
    by_cases hu : used.getD k false = true
    · rw [if_pos hu]
      obtain ⟨h1, h2, h3, h4, h5, h6, h7⟩ := upd_spec row used d q (k + 1) (u.set (row.getD k 0) (u.getD (row.getD k 0) 0 + d)) (v.set k (v.getD k 0 - d)) L (by simp; omega) (by omega) (by simpa using hr) hinj
      refine ⟨by simpa using h1, by simpa using h2, h3, fun j hj1 hj2 hj3 => ?_, fun i hi => ?_, fun j => ?_, fun j => ?_⟩
      · by_cases e : j = k
        · subst e
          rw [h5 _ (fun i hi1 hi2 hi3 he => by have := hinj i j hi3 hu he; omega), gset (hr j), if_pos rfl]
        · rw [h4 j (by omega) (by omega) hj3, gset (hr k), if_neg (fun he => e (hinj j k hj3 hu he))]
      · rw [h5 i (fun j hj1 hj2 hj3 => hi j (by omega) (by omega) hj3), gset (hr k), if_neg (fun he => hi k (Nat.le_refl _) (by omega) hu he.symm)]
      · rw [h6 j, gset (by omega)]
        by_cases e : j = k
        · subst e; rw [if_neg (by omega), if_pos rfl, if_pos ⟨Nat.le_refl _, by omega, hu⟩]
        · rw [if_neg e]
          by_cases c : k ≤ j ∧ j < k + (q + 1) ∧ used.getD j false = true
          · rw [if_pos c, if_pos ⟨by omega, by omega, c.2.2⟩]
          · rw [if_neg c, if_neg (fun h => c ⟨by omega, by omega, h.2.2⟩)]
      · rw [h7 j]
        by_cases c : k ≤ j ∧ j < k + (q + 1) ∧ used.getD j false = false
        · have : j ≠ k := by rintro rfl; rw [hu] at c; exact absurd c.2.2 (by simp)
          rw [if_pos c, if_pos ⟨by omega, by omega, c.2.2⟩]
        · rw [if_neg c, if_neg (fun h => c ⟨by omega, by omega, h.2.2⟩)]
    · rw [if_neg hu]
      have hu : used.getD k false = false := by simpa using hu
      obtain ⟨h1, h2, h3, h4, h5, h6, h7⟩ := upd_spec row used d q (k + 1) u v (L.set k (L.getD k 0 - d)) (by omega) (by simp; omega) hr hinj
      refine ⟨h1, h2, by simpa using h3, fun j hj1 hj2 hj3 => ?_, fun i hi => ?_, fun j => ?_, fun j => ?_⟩
      · have : j ≠ k := by rintro rfl; rw [hu] at hj3; cases hj3
        exact h4 j (by omega) (by omega) hj3
      · exact h5 i (fun j hj1 hj2 hj3 => hi j (by omega) (by omega) hj3)
      · rw [h6 j]
        by_cases c : k ≤ j ∧ j < k + (q + 1) ∧ used.getD j false = true
        · have : j ≠ k := by rintro rfl; rw [hu] at c; exact absurd c.2.2 (by simp)
          rw [if_pos c, if_pos ⟨by omega, by omega, c.2.2⟩]
        · rw [if_neg c, if_neg (fun h => c ⟨by omega, by omega, h.2.2⟩)]
      · rw [h7 j, gset (by omega)]
        by_cases e : j = k
        · subst e; rw [if_neg (by omega), if_pos rfl, if_pos ⟨Nat.le_refl _, by omega, hu⟩]
        · rw [if_neg e]
          by_cases c : k ≤ j ∧ j < k + (q + 1) ∧ used.getD j false = false
          · rw [if_pos c, if_pos ⟨by omega, by omega, c.2.2⟩]
          · rw [if_neg c, if_neg (fun h => c ⟨by omega, by omega, h.2.2⟩)]
end Go.Abs.Hung
namespace Go.Abs.Hung
set_option linter.unusedVariables false
theorem nodup_len : ∀ (b : Nat) (l : List Nat), l.Nodup → (∀ x ∈ l, x < b) → l.length ≤ b
  | 0, l, _, h => by
    cases l with
    | nil => simp
    | cons x r => have := h x (by simp); omega
  | b + 1, l, hn, h => by
    have h1 := nodup_len b (l.erase b) (hn.erase b) (fun x hx => by
      have := hn.mem_erase_iff.1 hx
      have := h x this.2
      omega)
    by_cases hb : b ∈ l
    · rw [List.length_erase_of_mem hb] at h1; omega
    · rw [List.erase_of_not_mem hb] at h1; omega
/-- the rows of columns while row p is assigned -/
structure RowOK (n m p : Nat) (row : List Nat) : Prop where
  lr : row.length = m + 1
  r0 : row.getD 0 0 = p
  hp : 1 ≤ p ∧ p ≤ n
  hnm : n ≤ m
  rle : ∀ j, 1 ≤ j → row.getD j 0 < p
  rinj : ∀ i j, row.getD i 0 = row.getD j 0 → row.getD i 0 ≠ 0 → i = j
  rall : ∀ r, 1 ≤ r → r < p → ∃ j, 1 ≤ j ∧ j ≤ m ∧ row.getD j 0 = r
theorem RowOK.le {n m p : Nat} {row : List Nat} (h : RowOK n m p row) (j : Nat) : row.getD j 0 ≤ p := by
  by_cases e : j = 0
  · subst e; rw [h.r0]; exact Nat.le_refl _
  · have := h.rle j (by omega); omega
theorem RowOK.free {n m p : Nat} {row : List Nat} (h : RowOK n m p row) : ∃ j, 1 ≤ j ∧ j ≤ m ∧ row.getD j 0 = 0 := by
  refine Classical.byContradiction fun hno => ?_
  have hnz : ∀ j, 1 ≤ j → j ≤ m → row.getD j 0 ≠ 0 := fun j h1 h2 h3 => hno ⟨j, h1, h2, h3⟩
  have hnd : ((List.range m).map fun j => row.getD (j + 1) 0 - 1).Nodup := by
    rw [List.Nodup, List.pairwise_map]
    refine List.Pairwise.imp_of_mem ?_ (List.nodup_range (n := m))
    intro i j hi hj hij e
    have hi := List.mem_range.1 hi
    have hj := List.mem_range.1 hj
    have := hnz (i + 1) (by omega) (by omega)
    have := hnz (j + 1) (by omega) (by omega)
    have := h.rinj (i + 1) (j + 1) (by omega) (by omega)
    omega
  have := nodup_len (p - 1) _ hnd (fun x hx => by
    obtain ⟨j, hj, rfl⟩ := List.mem_map.1 hx
    have hj := List.mem_range.1 hj
    have := hnz (j + 1) (by omega) (by omega)
    have := h.rle (j + 1) (by omega)
    omega)
  rw [List.length_map, List.length_range] at this
  have := h.hp; have := h.hnm
  omega
/-- row i and column j fit each other -/
def Tight (a : Nat → Nat → Int) (u v : List Int) (i j : Nat) : Prop := u.getD i 0 + v.getD j 0 = a (i - 1) (j - 1)
def Path (a : Nat → Nat → Int) (u v : List Int) (row W : List Nat) : List Nat → Prop
  | [] => True
  | c :: r => (r = [] → c = 0) ∧ (r ≠ [] → 1 ≤ c ∧ W.getD c 0 ∈ r ∧ Tight a u v (row.getD (W.getD c 0) 0) c) ∧ Path a u v row W r
structure Inv (a : Nat → Nat → Int) (n m p : Nat) (row : List Nat) (A B INF : Int) (s : St) (ord : List Nat) (D : Int) : Prop where
  lu : s.u.length = n + 1
  lv : s.v.length = m + 1
  lL : s.L.length = m + 1
  lW : s.W.length = m + 1
  lus : s.used.length = m + 1
  feas : ∀ i j, 1 ≤ i → i ≤ n → 1 ≤ j → j ≤ m → s.u.getD i 0 + s.v.getD j 0 ≤ a (i - 1) (j - 1)
  tight : ∀ j, 1 ≤ j → j ≤ m → row.getD j 0 ≠ 0 → Tight a s.u s.v (row.getD j 0) j
  free : ∀ j, 1 ≤ j → j ≤ m → row.getD j 0 = 0 → s.v.getD j 0 = 0
  hu : ∀ i, 0 ≤ s.u.getD i 0 ∧ s.u.getD i 0 ≤ B + D
  hu0 : ∀ i, p < i → s.u.getD i 0 = 0
  hv : ∀ j, s.v.getD j 0 ≤ 0 ∧ -(B + D) ≤ s.v.getD j 0
  hD : 0 ≤ D ∧ D ≤ A
  ordU : ∀ j, s.used.getD j false = true ↔ j ∈ ord
  ordN : ord.Nodup
  ordM : ∀ j ∈ ord, j ≤ m ∧ row.getD j 0 ≠ 0
  path : Path a s.u s.v row s.W ord
  hhere : s.here ≤ m ∧ s.here ∉ ord
  h0 : ord = [] → s.here = 0 ∧ D = 0 ∧ ∀ j, j ≤ m → s.L.getD j 0 = INF
  h1 : ord ≠ [] → 1 ≤ s.here ∧ s.L.getD s.here 0 = 0
  slack : ∀ j, 1 ≤ j → j ≤ m → j ∉ ord → ∀ c ∈ ord, s.L.getD j 0 ≤ a (row.getD c 0 - 1) (j - 1) - s.u.getD (row.getD c 0) 0 - s.v.getD j 0
  att : ord ≠ [] → ∀ j, 1 ≤ j → j ≤ m → j ∉ ord → s.W.getD j 0 ∈ ord ∧ s.L.getD j 0 = a (row.getD (s.W.getD j 0) 0 - 1) (j - 1) - s.u.getD (row.getD (s.W.getD j 0) 0) 0 - s.v.getD j 0
  freeL : ord ≠ [] → ∀ j, 1 ≤ j → j ≤ m → row.getD j 0 = 0 → s.L.getD j 0 + D ≤ A
  lower : ∀ j, 1 ≤ j → j ≤ m → j ∉ ord → 0 ≤ s.L.getD j 0 ∧ s.L.getD j 0 ≤ INF
  hW : ∀ j, s.W.getD j 0 ≤ m
theorem path_mono {a : Nat → Nat → Int} {u v u' v' : List Int} {row row' W W' : List Nat} : ∀ {ord : List Nat}, (∀ c ∈ ord, W'.getD c 0 = W.getD c 0) → (∀ c ∈ ord, ∀ b ∈ ord, Tight a u v (row.getD b 0) c → Tight a u' v' (row'.getD b 0) c) → Path a u v row W ord → Path a u' v' row' W' ord
  | [], _, _, _ => trivial
  | c :: r, h1, h2, ⟨p1, p2, p3⟩ => by
    refine ⟨p1, fun hr => ?_, path_mono (fun d hd => h1 d (by simp [hd])) (fun d hd b hb => h2 d (by simp [hd]) b (by simp [hb])) p3⟩
    obtain ⟨q1, q2, q3⟩ := p2 hr
    rw [h1 c (by simp)]
    exact ⟨q1, q2, h2 c (by simp) _ (List.mem_cons_of_mem _ q2) q3⟩
theorem step_inv {a : Nat → Nat → Int} {n m p : Nat} {row : List Nat} {A B INF : Int} {s : St} {ord : List Nat} {D : Int} (ha : ∀ i j, 0 ≤ a i j ∧ a i j ≤ A) (hB : 0 ≤ B) (hI : A + (B + A) < INF) (R : RowOK n m p row) (h : Inv a n m p row A B INF s ord D) (hr : row.getD s.here 0 ≠ 0) :
    ∃ D', Inv a n m p row A B INF (step a m INF row s) (s.here :: ord) D' := by
  obtain ⟨hh1, hh2⟩ := h.hhere
  have hhp := R.hp
  have hnm := R.hnm
  have hrn : 1 ≤ row.getD s.here 0 ∧ row.getD s.here 0 ≤ n := by have := R.le s.here; omega
  have hus : ∀ j, (s.used.set s.here true).getD j false = if j = s.here then true else s.used.getD j false := fun j => gset (by rw [h.lus]; omega)
  have hU : ∀ j, (s.used.set s.here true).getD j false = true ↔ j ∈ s.here :: ord := by
    intro j
    rw [hus, List.mem_cons]
    by_cases e : j = s.here
    · simp [e]
    · rw [if_neg e, h.ordU]; simp [e]
  have hUf : ∀ j, (s.used.set s.here true).getD j false = false ↔ j ∉ s.here :: ord := by
    intro j
    rw [← hU]; simp
  have hM : ∀ j ∈ s.here :: ord, j ≤ m ∧ row.getD j 0 ≠ 0 := by
    intro j hj
    rcases List.mem_cons.1 hj with rfl | hj
    · exact ⟨hh1, hr⟩
    · exact h.ordM j hj
  have hcb : ∀ j, 1 ≤ j → j ≤ m → 0 ≤ a (row.getD s.here 0 - 1) (j - 1) - s.u.getD (row.getD s.here 0) 0 - s.v.getD j 0 ∧ a (row.getD s.here 0 - 1) (j - 1) - s.u.getD (row.getD s.here 0) 0 - s.v.getD j 0 < INF := by
    intro j h1 h2
    have := h.feas (row.getD s.here 0) j hrn.1 hrn.2 h1 h2
    have := (ha (row.getD s.here 0 - 1) (j - 1)).2
    have := h.hu (row.getD s.here 0)
    have := h.hv j
    have := h.hD
    omega
  obtain ⟨y1, y2, y3, y4, y5, y6⟩ := scan_spec a (s.used.set s.here true) s.u s.v (row.getD s.here 0) s.here m 1 s.L s.W INF 0 (by rw [h.lL]; omega) (by rw [h.lW]; omega)
  have hstep : step a m INF row s = (let y := scan a (s.used.set s.here true) s.u s.v (row.getD s.here 0) s.here m 1 s.L s.W INF 0
    let z := upd row (s.used.set s.here true) y.2.2.1 (m + 1) 0 s.u s.v y.1
    ⟨z.1, z.2.1, z.2.2, y.2.1, s.used.set s.here true, y.2.2.2⟩) := rfl
  rw [hstep]
  generalize scan a (s.used.set s.here true) s.u s.v (row.getD s.here 0) s.here m 1 s.L s.W INF 0 = y at *
  obtain ⟨L1, W1, δ, x⟩ := y
  simp only at y1 y2 y3 y4 y5 y6 ⊢
  have y3' : ∀ j, j ∈ s.here :: ord → L1.getD j 0 = s.L.getD j 0 ∧ W1.getD j 0 = s.W.getD j 0 := fun j hj => y3 j (.inr (.inr ((hU j).2 hj)))
  have y4' : ∀ j, 1 ≤ j → j ≤ m → j ∉ s.here :: ord → _ := fun j h1 h2 h3 => y4 j h1 (by omega) ((hUf j).2 h3)
  -- a free column
  obtain ⟨f, hf1, hf2, hf3⟩ := R.free
  have hfo : f ∉ s.here :: ord := fun hf => (hM f hf).2 hf3
  have hA0 : 0 ≤ A := by have := ha 0 0; omega
  have hfc : L1.getD f 0 + D ≤ A ∧ δ ≤ L1.getD f 0 := by
    obtain ⟨q1, _, q3⟩ := y4' f hf1 hf2 hfo
    refine ⟨?_, q3⟩
    rw [q1, h.free f hf1 hf2 hf3]
    have := (ha (row.getD s.here 0 - 1) (f - 1)).2
    have := h.hu (row.getD s.here 0)
    by_cases ho : ord = []
    · have := (h.h0 ho).2.1
      have := (h.h0 ho).2.2 f hf2
      split <;> omega
    · have := h.freeL ho f hf1 hf2 hf3
      split <;> omega
  have hδA : δ < INF := by have := h.hD; omega
  obtain ⟨hx1, hx2, hx3, hx4⟩ : 1 ≤ x ∧ x < 1 + m ∧ (s.used.set s.here true).getD x false = false ∧ δ = L1.getD x 0 := by
    rcases y6 with ⟨e, _⟩ | y6
    · omega
    · exact y6
  have hxo := (hUf x).1 hx3
  -- what L1 says
  have L1s : ∀ j, 1 ≤ j → j ≤ m → j ∉ s.here :: ord → ∀ c ∈ s.here :: ord, L1.getD j 0 ≤ a (row.getD c 0 - 1) (j - 1) - s.u.getD (row.getD c 0) 0 - s.v.getD j 0 := by
    intro j h1 h2 h3 c hc
    obtain ⟨q1, _, _⟩ := y4' j h1 h2 h3
    rcases List.mem_cons.1 hc with rfl | hc
    · rw [q1]; split <;> omega
    · have := h.slack j h1 h2 (fun e => h3 (List.mem_cons_of_mem _ e)) c hc
      rw [q1]; split <;> omega
  have L1a : ∀ j, 1 ≤ j → j ≤ m → j ∉ s.here :: ord → W1.getD j 0 ∈ s.here :: ord ∧ L1.getD j 0 = a (row.getD (W1.getD j 0) 0 - 1) (j - 1) - s.u.getD (row.getD (W1.getD j 0) 0) 0 - s.v.getD j 0 := by
    intro j h1 h2 h3
    obtain ⟨q1, q2, _⟩ := y4' j h1 h2 h3
    rw [q1, q2]
    by_cases hc : a (row.getD s.here 0 - 1) (j - 1) - s.u.getD (row.getD s.here 0) 0 - s.v.getD j 0 < s.L.getD j 0
    · rw [if_pos hc, if_pos hc]
      exact ⟨by simp, rfl⟩
    · rw [if_neg hc, if_neg hc]
      by_cases ho : ord = []
      · have := (h.h0 ho).2.2 j h2
        have := (hcb j h1 h2).2
        omega
      · obtain ⟨r1, r2⟩ := h.att ho j h1 h2 (fun e => h3 (List.mem_cons_of_mem _ e))
        exact ⟨List.mem_cons_of_mem _ r1, r2⟩
  have L10 : ∀ j, 1 ≤ j → j ≤ m → j ∉ s.here :: ord → 0 ≤ L1.getD j 0 ∧ L1.getD j 0 ≤ INF := by
    intro j h1 h2 h3
    obtain ⟨q1, _, _⟩ := y4' j h1 h2 h3
    have := h.lower j h1 h2 (fun e => h3 (List.mem_cons_of_mem _ e))
    have := hcb j h1 h2
    rw [q1]; split <;> omega
  have hδ0 : 0 ≤ δ := by rw [hx4]; exact (L10 x hx1 (by omega) hxo).1
  have hinj : ∀ i j, (s.used.set s.here true).getD i false = true → (s.used.set s.here true).getD j false = true → row.getD i 0 = row.getD j 0 → i = j := fun i j hi _ e => R.rinj i j e (hM i ((hU i).1 hi)).2
  obtain ⟨z1, z2, z3, z4, z5, z6, z7⟩ := upd_spec row (s.used.set s.here true) δ (m + 1) 0 s.u s.v L1 (by rw [h.lv]; omega) (by rw [y1, h.lL]; omega) (fun j => by rw [h.lu]; have := R.le j; omega) hinj
  generalize upd row (s.used.set s.here true) δ (m + 1) 0 s.u s.v L1 = z at *
  obtain ⟨u', v', L'⟩ := z
  simp only at z1 z2 z3 z4 z5 z6 z7 ⊢
  have zu : ∀ c ∈ s.here :: ord, u'.getD (row.getD c 0) 0 = s.u.getD (row.getD c 0) 0 + δ := fun c hc => z4 c (Nat.zero_le _) (by have := (hM c hc).1; omega) ((hU c).2 hc)
  have zn : ∀ i, (∀ c ∈ s.here :: ord, row.getD c 0 ≠ i) → u'.getD i 0 = s.u.getD i 0 := fun i hi => z5 i fun j _ _ hj => hi j ((hU j).1 hj)
  have zv : ∀ c ∈ s.here :: ord, v'.getD c 0 = s.v.getD c 0 - δ := fun c hc => by
    rw [z6, if_pos ⟨Nat.zero_le _, by have := (hM c hc).1; omega, (hU c).2 hc⟩]
  have zvn : ∀ j, j ∉ s.here :: ord → v'.getD j 0 = s.v.getD j 0 := fun j hj => by
    rw [z6, if_neg (fun e => hj ((hU j).1 e.2.2))]
  have zL : ∀ j, j ≤ m → j ∉ s.here :: ord → L'.getD j 0 = L1.getD j 0 - δ := fun j hj1 hj => by
    rw [z7, if_pos ⟨Nat.zero_le _, by omega, (hUf j).2 hj⟩]
  have zul : ∀ i, s.u.getD i 0 ≤ u'.getD i 0 ∧ u'.getD i 0 ≤ s.u.getD i 0 + δ := by
    intro i
    by_cases e : ∃ c ∈ s.here :: ord, row.getD c 0 = i
    · obtain ⟨c, hc, rfl⟩ := e
      rw [zu c hc]; omega
    · rw [zn i (fun c hc he => e ⟨c, hc, he⟩)]; omega
  have zvl : ∀ j, s.v.getD j 0 - δ ≤ v'.getD j 0 ∧ v'.getD j 0 ≤ s.v.getD j 0 := by
    intro j
    by_cases e : j ∈ s.here :: ord
    · rw [zv j e]; omega
    · rw [zvn j e]; omega
  have tkeep : ∀ c ∈ s.here :: ord, ∀ b ∈ s.here :: ord, Tight a s.u s.v (row.getD b 0) c → Tight a u' v' (row.getD b 0) c := by
    intro c hc b hb ht
    unfold Tight at ht ⊢
    rw [zu b hb, zv c hc]; omega
  have hDA : 0 ≤ D + δ ∧ D + δ ≤ A := by have := h.hD; omega
  refine ⟨D + δ, ⟨by rw [z1]; exact h.lu, by rw [z2]; exact h.lv, by rw [z3, y1]; exact h.lL, by rw [y2]; exact h.lW, by rw [List.length_set]; exact h.lus, fun i j i1 i2 j1 j2 => ?_, fun j j1 j2 hj => ?_, fun j j1 j2 hj => ?_, fun i => ?_, fun i hi => ?_, fun j => ?_, hDA, hU, List.nodup_cons.2 ⟨hh2, h.ordN⟩, hM, ⟨fun ho => (h.h0 ho).1, fun ho => ?_, ?_⟩, ⟨show x ≤ m by omega, hxo⟩, fun e => (by cases e), fun _ => ⟨hx1, ?_⟩, fun j j1 j2 hj c hc => ?_, fun _ j j1 j2 hj => ?_, fun _ j j1 j2 hj => ?_, fun j j1 j2 hj => ?_, fun j => ?_⟩⟩
  all_goals try dsimp only
  · -- feasible
    have hfe := h.feas i j i1 i2 j1 j2
    have := zul i
    have := zvl j
    by_cases e : ∃ c ∈ s.here :: ord, row.getD c 0 = i
    · obtain ⟨c, hc, rfl⟩ := e
      by_cases hj : j ∈ s.here :: ord
      · rw [zu c hc, zv j hj]; omega
      · have h1 := L1s j j1 j2 hj c hc
        have h2 := (y4' j j1 j2 hj).2.2
        rw [zu c hc, zvn j hj]; omega
    · rw [zn i (fun c hc he => e ⟨c, hc, he⟩)]; omega
  · -- tight
    have ht := h.tight j j1 j2 hj
    by_cases e : j ∈ s.here :: ord
    · exact tkeep j e j e ht
    · unfold Tight at ht ⊢
      rw [zvn j e, zn (row.getD j 0) (fun c hc he => e (by rw [← R.rinj c j he (hM c hc).2]; exact hc))]
      exact ht
  · rw [zvn j (fun hc => (hM j hc).2 hj)]; exact h.free j j1 j2 hj
  · have := zul i; have := h.hu i; omega
  · rw [zn i (fun c hc he => by have := R.le c; omega)]; exact h.hu0 i hi
  · have := zvl j; have := h.hv j; omega
  · -- the path's head
    obtain ⟨b1, b2⟩ := h.h1 ho
    obtain ⟨c1, c2⟩ := h.att ho s.here b1 hh1 hh2
    rw [(y3' s.here (by simp)).2]
    refine ⟨b1, c1, tkeep s.here (by simp) _ (List.mem_cons_of_mem _ c1) ?_⟩
    unfold Tight
    omega
  · exact path_mono (fun c hc => (y3' c (List.mem_cons_of_mem _ hc)).2) (fun c hc b hb => tkeep c (List.mem_cons_of_mem _ hc) b (List.mem_cons_of_mem _ hb)) h.path
  · rw [zL x (by omega) hxo]; omega
  · rw [zL j j2 hj, zu c hc, zvn j hj]
    have := L1s j j1 j2 hj c hc
    omega
  · obtain ⟨q1, q2⟩ := L1a j j1 j2 hj
    refine ⟨q1, ?_⟩
    rw [zL j j2 hj, zu _ q1, zvn j hj]; omega
  · have hjo : j ∉ s.here :: ord := fun hc => (hM j hc).2 hj
    rw [zL j j2 hjo]
    obtain ⟨q1, _, _⟩ := y4' j j1 j2 hjo
    have := (ha (row.getD s.here 0 - 1) (j - 1)).2
    have := h.hu (row.getD s.here 0)
    have hfr := h.free j j1 j2 hj
    rw [hfr] at q1
    by_cases ho : ord = []
    · have := (h.h0 ho).2.1
      have := (h.h0 ho).2.2 j j2
      rw [q1]
      split <;> omega
    · have := h.freeL ho j j1 j2 hj
      rw [q1]
      split <;> omega
  · rw [zL j j2 hj]
    have h1 := L10 j j1 j2 hj
    have h2 := (y4' j j1 j2 hj).2.2
    omega
  · by_cases hj : 1 ≤ j ∧ j ≤ m ∧ j ∉ s.here :: ord
    · exact (hM _ (L1a j hj.1 hj.2.1 hj.2.2).1).1
    · have : W1.getD j 0 = s.W.getD j 0 := (y3 j (by
        by_cases h1 : j < 1
        · exact .inl h1
        · by_cases h2 : 1 + m ≤ j
          · exact .inr (.inl h2)
          · exact .inr (.inr ((hU j).2 (Classical.byContradiction fun e => hj ⟨by omega, by omega, e⟩))))).2
      rw [this]; exact h.hW j
end Go.Abs.Hung
namespace Go.Abs.Hung
set_option linter.unusedVariables false
theorem Inv.ordLen {a : Nat → Nat → Int} {n m p : Nat} {row : List Nat} {A B INF : Int} {s : St} {ord : List Nat} {D : Int} (h : Inv a n m p row A B INF s ord D) : ord.length ≤ m + 1 :=
  nodup_len (m + 1) ord h.ordN fun x hx => by have := (h.ordM x hx).1; omega
theorem inner_ok {a : Nat → Nat → Int} {n m p : Nat} {row : List Nat} {A B INF : Int} (ha : ∀ i j, 0 ≤ a i j ∧ a i j ≤ A) (hB : 0 ≤ B) (hI : A + (B + A) < INF) (R : RowOK n m p row) : ∀ (f : Nat) (s : St) (ord : List Nat) (D : Int), Inv a n m p row A B INF s ord D → m + 2 ≤ f + ord.length →
    ∃ t ord' D', inner a m INF row f s = some t ∧ Inv a n m p row A B INF t ord' D' ∧ row.getD t.here 0 = 0
  | 0, s, ord, D, h, hf => by have := h.ordLen; omega
  | f + 1, s, ord, D, h, hf => by
    unfold inner
    by_cases hr : row.getD s.here 0 = 0
    · rw [if_pos hr]; exact ⟨s, ord, D, rfl, h, hr⟩
    · rw [if_neg hr]
      obtain ⟨D', h'⟩ := step_inv ha hB hI R h hr
      exact inner_ok ha hB hI R f _ _ _ h' (by rw [List.length_cons]; omega)
/-- while the way is turned: column h is to be given another row -/
structure Aug (a : Nat → Nat → Int) (n m p : Nat) (u v : List Int) (row W : List Nat) (h : Nat) (ord : List Nat) : Prop where
  lr : row.length = m + 1
  lW : W.length = m + 1
  hh : h ≤ m ∧ h ∉ ord
  ordN : ord.Nodup
  ordM : ∀ j ∈ ord, j ≤ m ∧ row.getD j 0 ≠ 0
  head : 1 ≤ h → W.getD h 0 ∈ ord ∧ Tight a u v (row.getD (W.getD h 0) 0) h
  path : Path a u v row W ord
  tight : ∀ j, 1 ≤ j → j ≤ m → j ≠ h → row.getD j 0 ≠ 0 → Tight a u v (row.getD j 0) j
  inj : ∀ i j, i ≠ h → j ≠ h → row.getD i 0 = row.getD j 0 → row.getD i 0 ≠ 0 → i = j
  all : ∀ r, 1 ≤ r → r ≤ p → ∃ j, j ≤ m ∧ j ≠ h ∧ row.getD j 0 = r
  le : ∀ j, j ≠ h → row.getD j 0 ≤ p
  free : ∀ j, 1 ≤ j → j ≤ m → j ≠ h → row.getD j 0 = 0 → v.getD j 0 = 0
theorem path_from {a : Nat → Nat → Int} {u v : List Int} {row W : List Nat} {w : Nat} : ∀ {ord : List Nat}, Path a u v row W ord → ord.Nodup → w ∈ ord → ∃ r, r.length < ord.length ∧ Path a u v row W (w :: r) ∧ (w :: r).Nodup ∧ ∀ j ∈ w :: r, j ∈ ord
  | [], _, _, h => by cases h
  | c :: r, hp, hn, h => by
    rcases List.mem_cons.1 h with rfl | h
    · exact ⟨r, by simp, hp, hn, fun j hj => hj⟩
    · obtain ⟨r', h1, h2, h3, h4⟩ := path_from hp.2.2 (List.nodup_cons.1 hn).2 h
      exact ⟨r', by rw [List.length_cons]; omega, h2, h3, fun j hj => List.mem_cons_of_mem _ (h4 j hj)⟩
/-- one step of the turn -/
theorem aug_step {a : Nat → Nat → Int} {n m p : Nat} {u v : List Int} {row W : List Nat} {h : Nat} {ord : List Nat} (H : Aug a n m p u v row W h ord) (h0 : h ≠ 0) :
    ∃ r, r.length < ord.length ∧ Aug a n m p u v (row.set h (row.getD (W.getD h 0) 0)) W (W.getD h 0) r := by
  obtain ⟨hw, ht⟩ := H.head (by omega)
  obtain ⟨hh1, hh2⟩ := H.hh
  have hl : h < row.length := by rw [H.lr]; omega
  generalize hwe : W.getD h 0 = w at *
  have hwh : w ≠ h := fun e => hh2 (e ▸ hw)
  obtain ⟨r, r1, r2, r3, r4⟩ := path_from H.path H.ordN hw
  have hr3 := List.nodup_cons.1 r3
  have hrh : ∀ j ∈ w :: r, j ≠ h := fun j hj e => hh2 (e ▸ r4 j hj)
  have hg : ∀ j, (row.set h (row.getD w 0)).getD j 0 = if j = h then row.getD w 0 else row.getD j 0 := fun j => gset hl
  refine ⟨r, r1, ⟨by rw [List.length_set]; exact H.lr, H.lW, ⟨(H.ordM w hw).1, hr3.1⟩, hr3.2, fun j hj => ?_, fun h1 => ?_, ?_, fun j j1 j2 j3 j4 => ?_, fun i j i1 j1 e e0 => ?_, fun q q1 q2 => ?_, fun j hj => ?_, fun j j1 j2 j3 j4 => ?_⟩⟩
  · rw [hg, if_neg (hrh j (List.mem_cons_of_mem _ hj))]
    exact H.ordM j (r4 j (List.mem_cons_of_mem _ hj))
  · have hrne : r ≠ [] := fun e => by have := r2.1 e; omega
    obtain ⟨_, q2, q3⟩ := r2.2.1 hrne
    rw [hg, if_neg (hrh _ (List.mem_cons_of_mem _ q2))]
    exact ⟨q2, q3⟩
  · exact path_mono (fun c _ => rfl) (fun c hc b hb ht => by rw [hg, if_neg (hrh b (List.mem_cons_of_mem _ hb))]; exact ht) r2.2.2
  · rw [hg] at j4 ⊢
    by_cases e : j = h
    · subst e; rw [if_pos rfl]; exact ht
    · rw [if_neg e] at j4 ⊢; exact H.tight j j1 j2 e j4
  · rw [hg, hg] at e
    rw [hg] at e0
    by_cases ei : i = h
    · by_cases ej : j = h
      · rw [ei, ej]
      · rw [if_pos ei, if_neg ej] at e
        rw [if_pos ei] at e0
        exact absurd (H.inj w j hwh ej e e0).symm j1
    · rw [if_neg ei] at e e0
      by_cases ej : j = h
      · rw [if_pos ej] at e
        exact absurd (H.inj i w ei hwh e e0) i1
      · rw [if_neg ej] at e
        exact H.inj i j ei ej e e0
  · obtain ⟨j, j1, j2, j3⟩ := H.all q q1 q2
    by_cases e : j = w
    · exact ⟨h, hh1, fun e' => hwh e'.symm, by rw [hg, if_pos rfl, ← e]; exact j3⟩
    · exact ⟨j, j1, e, by rw [hg, if_neg j2]; exact j3⟩
  · rw [hg]
    split
    · exact H.le w hwh
    · rename_i e; exact H.le j e
  · rw [hg] at j4
    by_cases e : j = h
    · rw [if_pos e] at j4; exact absurd j4 (H.ordM w hw).2
    · rw [if_neg e] at j4; exact H.free j j1 j2 e j4
theorem aug_ok {a : Nat → Nat → Int} {n m p : Nat} {u v : List Int} {W : List Nat} : ∀ (f : Nat) (row : List Nat) (h : Nat) (ord : List Nat), Aug a n m p u v row W h ord → ord.length < f → ∃ row', aug f row W h = some row' ∧ ∃ ord', Aug a n m p u v row' W 0 ord'
  | 0, row, h, ord, _, hf => by omega
  | f + 1, row, h, ord, H, hf => by
    unfold aug
    by_cases h0 : h = 0
    · subst h0
      exact ⟨row, by rw [if_pos rfl], ord, H⟩
    · rw [if_neg h0]
      obtain ⟨r, h1, h2⟩ := aug_step H h0
      exact aug_ok f _ _ r h2 (by omega)
/-- rows up to p are assigned -/
structure Mt (a : Nat → Nat → Int) (n m p : Nat) (A : Int) (s : Ph) : Prop where
  lu : s.u.length = n + 1
  lv : s.v.length = m + 1
  lr : s.row.length = m + 1
  lW : s.W.length = m + 1
  feas : ∀ i j, 1 ≤ i → i ≤ n → 1 ≤ j → j ≤ m → s.u.getD i 0 + s.v.getD j 0 ≤ a (i - 1) (j - 1)
  tight : ∀ j, 1 ≤ j → j ≤ m → s.row.getD j 0 ≠ 0 → Tight a s.u s.v (s.row.getD j 0) j
  free : ∀ j, 1 ≤ j → j ≤ m → s.row.getD j 0 = 0 → s.v.getD j 0 = 0
  inj : ∀ i j, 1 ≤ i → 1 ≤ j → s.row.getD i 0 = s.row.getD j 0 → s.row.getD i 0 ≠ 0 → i = j
  all : ∀ r, 1 ≤ r → r ≤ p → ∃ j, 1 ≤ j ∧ j ≤ m ∧ s.row.getD j 0 = r
  le : ∀ j, 1 ≤ j → s.row.getD j 0 ≤ p
  hu : ∀ i, 0 ≤ s.u.getD i 0 ∧ s.u.getD i 0 ≤ p * A
  hu0 : ∀ i, p < i → s.u.getD i 0 = 0
  hv : ∀ j, s.v.getD j 0 ≤ 0 ∧ -(p * A) ≤ s.v.getD j 0
  hW : ∀ j, s.W.getD j 0 ≤ m
theorem rep_getD {α : Type} (n j : Nat) (x : α) : (List.replicate n x).getD j x = x := by
  rw [List.getD_eq_getElem?_getD, List.getElem?_replicate]; split <;> rfl
theorem rep_getD' {α : Type} {n j : Nat} (x d : α) (h : j < n) : (List.replicate n x).getD j d = x := by
  rw [List.getD_eq_getElem?_getD, List.getElem?_replicate, if_pos h]; rfl
/-- the start of a phase -/
theorem Mt.start {a : Nat → Nat → Int} {n m p : Nat} {A INF : Int} {s : Ph} {W0 : List Nat} (hA : 0 ≤ A) (hI0 : 0 ≤ INF) (h : Mt a n m p A s) (hp : p < n) (hnm : n ≤ m) (hW0 : W0.length = m + 1 ∧ ∀ j, W0.getD j 0 ≤ m) :
    RowOK n m (p + 1) (s.row.set 0 (p + 1)) ∧ Inv a n m (p + 1) (s.row.set 0 (p + 1)) A (p * A) INF ⟨s.u, s.v, List.replicate (m + 1) INF, W0, List.replicate (m + 1) false, 0⟩ [] 0 := by
  have hl : 0 < s.row.length := by rw [h.lr]; omega
  have hg : ∀ j, (s.row.set 0 (p + 1)).getD j 0 = if j = 0 then p + 1 else s.row.getD j 0 := fun j => gset hl
  have hg1 : ∀ j, 1 ≤ j → (s.row.set 0 (p + 1)).getD j 0 = s.row.getD j 0 := fun j hj => by rw [hg, if_neg (by omega)]
  refine ⟨⟨by rw [List.length_set]; exact h.lr, by rw [hg, if_pos rfl], ⟨by omega, by omega⟩, hnm, fun j hj => by rw [hg1 j hj]; have := h.le j hj; omega, fun i j e e0 => ?_, fun r r1 r2 => ?_⟩, ?_⟩
  · rw [hg] at e e0
    rw [hg] at e
    by_cases i0 : i = 0
    · by_cases j0 : j = 0
      · omega
      · rw [if_pos i0, if_neg j0] at e
        have := h.le j (by omega)
        omega
    · rw [if_neg i0] at e e0
      by_cases j0 : j = 0
      · rw [if_pos j0] at e
        have := h.le i (by omega)
        omega
      · rw [if_neg j0] at e
        exact h.inj i j (by omega) (by omega) e e0
  · obtain ⟨j, j1, j2, j3⟩ := h.all r r1 (by omega)
    exact ⟨j, j1, j2, by rw [hg1 j j1]; exact j3⟩
  · refine ⟨h.lu, h.lv, by simp, hW0.1, by simp, h.feas, fun j j1 j2 j3 => ?_, fun j j1 j2 j3 => ?_, fun i => ?_, fun i hi => h.hu0 i (by omega), fun j => ?_, ⟨Int.le_refl _, hA⟩, fun j => ?_, List.nodup_nil, by simp, trivial, ⟨Nat.zero_le _, by simp⟩, fun _ => ⟨rfl, rfl, fun j hj => rep_getD' _ _ (by omega)⟩, fun e => absurd rfl e, fun j _ _ _ c hc => (by cases hc), fun e => absurd rfl e, fun e => absurd rfl e, fun j j1 j2 j3 => ?_, hW0.2⟩
    · rw [hg1 j j1] at j3 ⊢; exact h.tight j j1 j2 j3
    · rw [hg1 j j1] at j3; exact h.free j j1 j2 j3
    · have := h.hu i; dsimp only; omega
    · have := h.hv j; dsimp only; omega
    · rw [rep_getD]; simp
    · dsimp only; rw [rep_getD' _ _ (by omega)]; exact ⟨hI0, Int.le_refl _⟩
/-- the end of the search: the way can be turned -/
theorem Inv.toAug {a : Nat → Nat → Int} {n m p : Nat} {row : List Nat} {A B INF : Int} {s : St} {ord : List Nat} {D : Int} (R : RowOK n m p row) (h : Inv a n m p row A B INF s ord D) (hr : row.getD s.here 0 = 0) : Aug a n m p s.u s.v row s.W s.here ord ∧ s.here ≠ 0 := by
  have h0 : s.here ≠ 0 := by
    intro e
    rw [e, R.r0] at hr
    have := R.hp; omega
  have ho : ord ≠ [] := fun e => h0 (h.h0 e).1
  refine ⟨⟨R.lr, h.lW, h.hhere, h.ordN, h.ordM, fun h1 => ?_, h.path, fun j j1 j2 _ j3 => h.tight j j1 j2 j3, fun i j _ _ => R.rinj i j, fun r r1 r2 => ?_, fun j _ => R.le j, fun j j1 j2 _ j3 => h.free j j1 j2 j3⟩, h0⟩
  · obtain ⟨b1, b2⟩ := h.h1 ho
    obtain ⟨c1, c2⟩ := h.att ho s.here b1 h.hhere.1 h.hhere.2
    refine ⟨c1, ?_⟩
    unfold Tight; omega
  · by_cases e : r = p
    · subst e; exact ⟨0, Nat.zero_le _, fun e => h0 e.symm, R.r0⟩
    · obtain ⟨j, j1, j2, j3⟩ := R.rall r r1 (by omega)
      exact ⟨j, j2, fun e => by subst e; omega, j3⟩
theorem Aug.toMt {a : Nat → Nat → Int} {n m p : Nat} {row row' : List Nat} {A INF : Int} {s : St} {ord ord' : List Nat} {D : Int} (hA : 0 ≤ A) (h : Inv a n m (p + 1) row A (p * A) INF s ord D) (H : Aug a n m (p + 1) s.u s.v row' s.W 0 ord') : Mt a n m (p + 1) A ⟨s.u, s.v, row', s.W⟩ := by
  have hpa : ((p + 1 : Nat) : Int) * A = p * A + A := by rw [Int.natCast_add, Int.add_mul]; simp
  refine ⟨h.lu, h.lv, H.lr, h.lW, h.feas, fun j j1 j2 j3 => H.tight j j1 j2 (by omega) j3, fun j j1 j2 j3 => H.free j j1 j2 (by omega) j3, fun i j i1 j1 => H.inj i j (by omega) (by omega), fun r r1 r2 => ?_, fun j j1 => H.le j (by omega), fun i => ?_, h.hu0, fun j => ?_, h.hW⟩
  · obtain ⟨j, j1, j2, j3⟩ := H.all r r1 r2
    exact ⟨j, by omega, j1, j3⟩
  · have := h.hu i; have := h.hD
    dsimp only
    rw [hpa]; omega
  · have := h.hv j; have := h.hD
    dsimp only
    rw [hpa]; omega
theorem phase_ok {a : Nat → Nat → Int} {n m p : Nat} {A INF : Int} {s : Ph} {W0 : List Nat} (ha : ∀ i j, 0 ≤ a i j ∧ a i j ≤ A) (hI : A + (p * A + A) < INF) (h : Mt a n m p A s) (hp : p < n) (hnm : n ≤ m) (hW0 : W0.length = m + 1 ∧ ∀ j, W0.getD j 0 ≤ m) :
    ∃ t, phase a m INF W0 (p + 1) s = some t ∧ Mt a n m (p + 1) A t := by
  have hA : 0 ≤ A := by have := ha 0 0; omega
  have hpA : 0 ≤ (p : Int) * A := Int.mul_nonneg (by omega) hA
  obtain ⟨R, hs⟩ := h.start (INF := INF) hA (by omega) hp hnm hW0
  obtain ⟨t, ord, D, e1, ht, hr⟩ := inner_ok ha hpA hI R (m + 2) _ [] 0 hs (by simp)
  obtain ⟨H, h0⟩ := ht.toAug R hr
  obtain ⟨row', e2, ord', H'⟩ := aug_ok (m + 2) _ _ ord H (by have := ht.ordLen; omega)
  exact ⟨⟨t.u, t.v, row', t.W⟩, by unfold phase; rw [e1]; simp only; rw [e2], H'.toMt hA ht⟩
end Go.Abs.Hung
namespace Go.Abs.Hung
set_option linter.unusedVariables false
def phases (a : Nat → Nat → Int) (m : Nat) (INF : Int) (keep : Bool) : Nat → Nat → Ph → Option Ph
  | 0, _, s => some s
  | q + 1, p, s => match phase a m INF (if keep = true then s.W else List.replicate (m + 1) 0) (p + 1) s with
    | none => none
    | some t => phases a m INF keep q (p + 1) t
def start (n m : Nat) : Ph := ⟨List.replicate (n + 1) 0, List.replicate (m + 1) 0, List.replicate (m + 1) 0, List.replicate (m + 1) 0⟩
theorem start_ok {a : Nat → Nat → Int} {n m : Nat} {A : Int} (ha : ∀ i j, 0 ≤ a i j ∧ a i j ≤ A) : Mt a n m 0 A (start n m) := by
  unfold start
  refine ⟨by simp, by simp, by simp, by simp, fun i j _ _ _ _ => ?_, fun j _ _ h => ?_, fun j _ _ _ => rep_getD _ _ _, fun i j _ _ _ h => ?_, fun r h1 h2 => by omega, fun j _ => ?_, fun i => ?_, fun i _ => rep_getD _ _ _, fun j => ?_, fun j => ?_⟩
  · dsimp only; rw [rep_getD, rep_getD]; have := ha (i - 1) (j - 1); omega
  · exact absurd (rep_getD _ _ _) h
  · exact absurd (rep_getD _ _ _) h
  · dsimp only; rw [rep_getD]; exact Nat.le_refl _
  · dsimp only; rw [rep_getD]; simp
  · dsimp only; rw [rep_getD]; simp
  · dsimp only; rw [rep_getD]; exact Nat.zero_le _
theorem phases_ok {a : Nat → Nat → Int} {n m : Nat} {A INF : Int} {keep : Bool} (ha : ∀ i j, 0 ≤ a i j ∧ a i j ≤ A) (hI : A + (n * A + A) < INF) (hnm : n ≤ m) : ∀ (q p : Nat) (s : Ph), Mt a n m p A s → p + q = n → ∃ t, phases a m INF keep q p s = some t ∧ Mt a n m n A t
  | 0, p, s, h, e => ⟨s, rfl, by have e : p = n := e; subst e; exact h⟩
  | q + 1, p, s, h, e => by
    have hA : 0 ≤ A := by have := ha 0 0; omega
    have hpA : (p : Int) * A ≤ n * A := Int.mul_le_mul_of_nonneg_right (by omega) hA
    obtain ⟨t, h1, h2⟩ := phase_ok (INF := INF) (W0 := if keep = true then s.W else List.replicate (m + 1) 0) ha (by omega) h (by omega) hnm (by
      split
      · exact ⟨h.lW, h.hW⟩
      · exact ⟨by simp, fun j => by rw [rep_getD]; exact Nat.zero_le _⟩)
    obtain ⟨t', h3, h4⟩ := phases_ok (keep := keep) ha hI hnm q (p + 1) t h2 (by omega)
    exact ⟨t', by unfold phases; rw [h1]; exact h3, h4⟩
/-! ### sums -/
def sm (f : Nat → Int) : List Nat → Int
  | [] => 0
  | j :: r => f j + sm f r
theorem sm_app (f : Nat → Int) : ∀ a b : List Nat, sm f (a ++ b) = sm f a + sm f b
  | [], b => by simp [sm]
  | j :: r, b => by rw [List.cons_append, sm, sm, sm_app f r b]; omega
theorem sm_perm (f : Nat → Int) {a b : List Nat} (h : a.Perm b) : sm f a = sm f b := by
  induction h with
  | nil => rfl
  | cons x _ ih => rw [sm, sm, ih]
  | swap x y l => simp only [sm]; omega
  | trans _ _ h1 h2 => exact h1.trans h2
theorem sm_map (f : Nat → Int) (g : Nat → Nat) : ∀ l : List Nat, sm f (l.map g) = sm (fun j => f (g j)) l
  | [] => rfl
  | j :: r => by rw [List.map_cons, sm, sm, sm_map f g r]
theorem sm_congr {f g : Nat → Int} : ∀ {l : List Nat}, (∀ j ∈ l, f j = g j) → sm f l = sm g l
  | [], _ => rfl
  | j :: r, h => by rw [sm, sm, h j (by simp), sm_congr fun i hi => h i (by simp [hi])]
theorem sm_le {f g : Nat → Int} : ∀ {l : List Nat}, (∀ j ∈ l, f j ≤ g j) → sm f l ≤ sm g l
  | [], _ => Int.le_refl _
  | j :: r, h => by
    have h1 := h j (by simp)
    have h2 := sm_le (l := r) fun i hi => h i (by simp [hi])
    rw [sm, sm]; omega
theorem sm_add (f g : Nat → Int) : ∀ l : List Nat, sm (fun j => f j + g j) l = sm f l + sm g l
  | [] => rfl
  | j :: r => by rw [sm, sm, sm, sm_add f g r]; omega
theorem sm_filter (f : Nat → Int) (p : Nat → Bool) : ∀ l : List Nat, sm f (l.filter p) = sm (fun j => if p j = true then f j else 0) l
  | [] => rfl
  | j :: r => by
    rw [sm, ← sm_filter f p r]
    by_cases h : p j = true
    · rw [List.filter_cons_of_pos h, sm, if_pos h]
    · rw [List.filter_cons_of_neg h, if_neg h]; omega
/-- an assignment: each row a column of its own -/
structure Asg (n m : Nat) (g : Nat → Nat) : Prop where
  lt : ∀ i, i < n → g i < m
  inj : ∀ i j, i < n → j < n → g i = g j → i = j
def costA (a : Nat → Nat → Int) (n : Nat) (g : Nat → Nat) : Int := sm (fun i => a i (g i)) (List.range n)
/-- what the columns that have rows cost -/
def costM (a : Nat → Nat → Int) (m : Nat) (row : List Nat) : Int := sm (fun k => if row.getD (k + 1) 0 = 0 then 0 else a (row.getD (k + 1) 0 - 1) k) (List.range m)
theorem Asg.perm {n m : Nat} {g : Nat → Nat} (h : Asg n m g) : ((List.range m).filter fun k => decide (k ∈ (List.range n).map g)).Perm ((List.range n).map g) := by
  have hnd : ((List.range n).map g).Nodup := by
    rw [List.Nodup, List.pairwise_map]
    refine List.Pairwise.imp_of_mem ?_ (List.nodup_range (n := n))
    intro i j hi hj hij e
    exact hij (h.inj i j (List.mem_range.1 hi) (List.mem_range.1 hj) e)
  refine (List.perm_ext_iff_of_nodup (List.nodup_range.filter _) hnd).2 fun k => ?_
  rw [List.mem_filter]
  constructor
  · intro hk; simpa using hk.2
  · intro hk
    refine ⟨?_, by simpa using hk⟩
    obtain ⟨i, hi, rfl⟩ := List.mem_map.1 hk
    exact List.mem_range.2 (h.lt i (List.mem_range.1 hi))
/-- duals bound each assignment -/
theorem weak_dual {a : Nat → Nat → Int} {n m : Nat} {u v : Nat → Int} {g : Nat → Nat} (hg : Asg n m g) (hf : ∀ i, i < n → u i + v (g i) ≤ a i (g i)) (hv : ∀ j, j < m → v j ≤ 0) : sm u (List.range n) + sm v (List.range m) ≤ costA a n g := by
  have h1 : sm (fun i => u i + v (g i)) (List.range n) ≤ costA a n g := sm_le fun i hi => hf i (List.mem_range.1 hi)
  rw [sm_add] at h1
  have h2 : sm v (List.range m) ≤ sm (fun i => v (g i)) (List.range n) := by
    rw [← sm_map v g, ← sm_perm v hg.perm, sm_filter]
    refine sm_le fun j hj => ?_
    have := hv j (List.mem_range.1 hj)
    split <;> omega
  omega
/-- the assignment that the columns' rows make -/
theorem Mt.asg {a : Nat → Nat → Int} {n m : Nat} {A : Int} {s : Ph} (h : Mt a n m n A s) : ∃ g, Asg n m g ∧ (∀ i, i < n → s.row.getD (g i + 1) 0 = i + 1) ∧ (∀ k, k < m → s.row.getD (k + 1) 0 ≠ 0 → g (s.row.getD (k + 1) 0 - 1) = k) ∧ costM a m s.row = costA a n g ∧ costA a n g = sm (fun i => s.u.getD (i + 1) 0) (List.range n) + sm (fun j => s.v.getD (j + 1) 0) (List.range m) := by
  have hall : ∀ i, ∃ k, i < n → k < m ∧ s.row.getD (k + 1) 0 = i + 1 := by
    intro i
    by_cases hi : i < n
    · obtain ⟨j, j1, j2, j3⟩ := h.all (i + 1) (by omega) (by omega)
      exact ⟨j - 1, fun _ => ⟨by omega, by rw [show j - 1 + 1 = j by omega]; exact j3⟩⟩
    · exact ⟨0, fun h => absurd h hi⟩
  obtain ⟨g, hg⟩ := Classical.axiomOfChoice hall
  have hA : Asg n m g := ⟨fun i hi => (hg i hi).1, fun i j hi hj e => by
    have h1 := (hg i hi).2
    have h2 := (hg j hj).2
    rw [e] at h1
    omega⟩
  have hgk : ∀ k, k < m → s.row.getD (k + 1) 0 ≠ 0 → g (s.row.getD (k + 1) 0 - 1) = k := by
    intro k hk hne
    have hle := h.le (k + 1) (by omega)
    have h1 := hg (s.row.getD (k + 1) 0 - 1) (by omega)
    have := h.inj (g (s.row.getD (k + 1) 0 - 1) + 1) (k + 1) (by omega) (by omega) (by omega) (by omega)
    omega
  have hmem : ∀ k, k < m → (decide (k ∈ (List.range n).map g) = true ↔ s.row.getD (k + 1) 0 ≠ 0) := by
    intro k hk
    rw [decide_eq_true_iff, List.mem_map]
    constructor
    · rintro ⟨i, hi, rfl⟩
      have := (hg i (List.mem_range.1 hi)).2
      omega
    · intro hne
      have := h.le (k + 1) (by omega)
      exact ⟨s.row.getD (k + 1) 0 - 1, List.mem_range.2 (by omega), hgk k hk hne⟩
  have hsum : ∀ f : Nat → Int, sm (fun k => if s.row.getD (k + 1) 0 = 0 then 0 else f k) (List.range m) = sm (fun i => f (g i)) (List.range n) := by
    intro f
    rw [← sm_map f g, ← sm_perm f hA.perm, sm_filter]
    refine sm_congr fun k hk => ?_
    have := hmem k (List.mem_range.1 hk)
    by_cases e : s.row.getD (k + 1) 0 = 0
    · rw [if_pos e, if_neg (fun h' => (this.1 h') e)]
    · rw [if_neg e, if_pos (this.2 e)]
  refine ⟨g, hA, fun i hi => (hg i hi).2, hgk, ?_, ?_⟩
  · unfold costM costA
    rw [hsum (fun k => a (s.row.getD (k + 1) 0 - 1) k)]
    refine sm_congr fun i hi => ?_
    rw [(hg i (List.mem_range.1 hi)).2]; rfl
  · have h1 : costA a n g = sm (fun i => s.u.getD (i + 1) 0 + s.v.getD (g i + 1) 0) (List.range n) := by
      unfold costA
      refine sm_congr fun i hi => ?_
      have hi := List.mem_range.1 hi
      have h2 := (hg i hi).1
      have h3 := (hg i hi).2
      have ht := h.tight (g i + 1) (by omega) (by omega) (by omega)
      unfold Tight at ht
      rw [h3] at ht
      exact ht.symm
    rw [h1, sm_add, ← hsum (fun k => s.v.getD (k + 1) 0)]
    congr 1
    refine sm_congr fun k hk => ?_
    split
    · rename_i e; exact (h.free (k + 1) (by omega) (by have := List.mem_range.1 hk; omega) e).symm
    · rfl
theorem Mt.least {a : Nat → Nat → Int} {n m : Nat} {A : Int} {s : Ph} (h : Mt a n m n A s) {g : Nat → Nat} (hg : Asg n m g) : costM a m s.row ≤ costA a n g := by
  obtain ⟨g0, _, _, _, e1, e2⟩ := h.asg
  rw [e1, e2]
  exact weak_dual hg (fun i hi => h.feas (i + 1) (g i + 1) (by omega) (by omega) (by omega) (by have := hg.lt i hi; omega)) (fun j _ => (h.hv (j + 1)).1)
end Go.Abs.Hung
namespace Go.Abs.Hung
set_option linter.unusedVariables false
theorem path_zero {a : Nat → Nat → Int} {u v : List Int} {row W : List Nat} : ∀ {ord : List Nat}, Path a u v row W ord → ord ≠ [] → 0 ∈ ord
  | [], _, h => absurd rfl h
  | c :: r, hp, _ => by
    by_cases hr : r = []
    · rw [hp.1 hr]; simp
    · exact List.mem_cons_of_mem _ (path_zero hp.2.2 hr)
theorem step_facts {a : Nat → Nat → Int} {n m p : Nat} {row : List Nat} {A B INF : Int} {s : St} {ord : List Nat} {D : Int} (ha : ∀ i j, 0 ≤ a i j ∧ a i j ≤ A) (hB : 0 ≤ B) (hI : A + (B + A) < INF) (R : RowOK n m p row) (h : Inv a n m p row A B INF s ord D) (hr : row.getD s.here 0 ≠ 0) :
    let y := scan a (s.used.set s.here true) s.u s.v (row.getD s.here 0) s.here m 1 s.L s.W INF 0
    (1 ≤ row.getD s.here 0 ∧ row.getD s.here 0 ≤ n) ∧ y.1.length = m + 1 ∧ y.2.1.length = m + 1 ∧ (0 ≤ y.2.2.1 ∧ y.2.2.1 ≤ A) ∧ y.2.2.2 ≤ m ∧ (∀ j, 1 ≤ j → j ≤ m → (s.used.set s.here true).getD j false = false → 0 ≤ y.1.getD j 0 ∧ y.1.getD j 0 ≤ INF) ∧ (s.used.set s.here true).getD 0 false = true := by
  obtain ⟨hh1, hh2⟩ := h.hhere
  have hhp := R.hp
  have hnm := R.hnm
  have hrn : 1 ≤ row.getD s.here 0 ∧ row.getD s.here 0 ≤ n := by have := R.le s.here; omega
  have hus : ∀ j, (s.used.set s.here true).getD j false = if j = s.here then true else s.used.getD j false := fun j => gset (by rw [h.lus]; omega)
  have hU : ∀ j, (s.used.set s.here true).getD j false = true ↔ j ∈ s.here :: ord := by
    intro j
    rw [hus, List.mem_cons]
    by_cases e : j = s.here
    · simp [e]
    · rw [if_neg e, h.ordU]; simp [e]
  have hUf : ∀ j, (s.used.set s.here true).getD j false = false ↔ j ∉ s.here :: ord := by
    intro j
    rw [← hU]; simp
  have hM : ∀ j ∈ s.here :: ord, j ≤ m ∧ row.getD j 0 ≠ 0 := by
    intro j hj
    rcases List.mem_cons.1 hj with rfl | hj
    · exact ⟨hh1, hr⟩
    · exact h.ordM j hj
  have hcb : ∀ j, 1 ≤ j → j ≤ m → 0 ≤ a (row.getD s.here 0 - 1) (j - 1) - s.u.getD (row.getD s.here 0) 0 - s.v.getD j 0 ∧ a (row.getD s.here 0 - 1) (j - 1) - s.u.getD (row.getD s.here 0) 0 - s.v.getD j 0 < INF := by
    intro j h1 h2
    have := h.feas (row.getD s.here 0) j hrn.1 hrn.2 h1 h2
    have := (ha (row.getD s.here 0 - 1) (j - 1)).2
    have := h.hu (row.getD s.here 0)
    have := h.hv j
    have := h.hD
    omega
  obtain ⟨y1, y2, y3, y4, y5, y6⟩ := scan_spec a (s.used.set s.here true) s.u s.v (row.getD s.here 0) s.here m 1 s.L s.W INF 0 (by rw [h.lL]; omega) (by rw [h.lW]; omega)
  generalize scan a (s.used.set s.here true) s.u s.v (row.getD s.here 0) s.here m 1 s.L s.W INF 0 = y at *
  obtain ⟨L1, W1, δ, x⟩ := y
  simp only at y1 y2 y3 y4 y5 y6 ⊢
  have y3' : ∀ j, j ∈ s.here :: ord → L1.getD j 0 = s.L.getD j 0 ∧ W1.getD j 0 = s.W.getD j 0 := fun j hj => y3 j (.inr (.inr ((hU j).2 hj)))
  have y4' : ∀ j, 1 ≤ j → j ≤ m → j ∉ s.here :: ord → _ := fun j h1 h2 h3 => y4 j h1 (by omega) ((hUf j).2 h3)
  -- a free column
  obtain ⟨f, hf1, hf2, hf3⟩ := R.free
  have hfo : f ∉ s.here :: ord := fun hf => (hM f hf).2 hf3
  have hA0 : 0 ≤ A := by have := ha 0 0; omega
  have hfc : L1.getD f 0 + D ≤ A ∧ δ ≤ L1.getD f 0 := by
    obtain ⟨q1, _, q3⟩ := y4' f hf1 hf2 hfo
    refine ⟨?_, q3⟩
    rw [q1, h.free f hf1 hf2 hf3]
    have := (ha (row.getD s.here 0 - 1) (f - 1)).2
    have := h.hu (row.getD s.here 0)
    by_cases ho : ord = []
    · have := (h.h0 ho).2.1
      have := (h.h0 ho).2.2 f hf2
      split <;> omega
    · have := h.freeL ho f hf1 hf2 hf3
      split <;> omega
  have hδA : δ < INF := by have := h.hD; omega
  obtain ⟨hx1, hx2, hx3, hx4⟩ : 1 ≤ x ∧ x < 1 + m ∧ (s.used.set s.here true).getD x false = false ∧ δ = L1.getD x 0 := by
    rcases y6 with ⟨e, _⟩ | y6
    · omega
    · exact y6
  have hxo := (hUf x).1 hx3
  -- what L1 says
  have L1s : ∀ j, 1 ≤ j → j ≤ m → j ∉ s.here :: ord → ∀ c ∈ s.here :: ord, L1.getD j 0 ≤ a (row.getD c 0 - 1) (j - 1) - s.u.getD (row.getD c 0) 0 - s.v.getD j 0 := by
    intro j h1 h2 h3 c hc
    obtain ⟨q1, _, _⟩ := y4' j h1 h2 h3
    rcases List.mem_cons.1 hc with rfl | hc
    · rw [q1]; split <;> omega
    · have := h.slack j h1 h2 (fun e => h3 (List.mem_cons_of_mem _ e)) c hc
      rw [q1]; split <;> omega
  have L1a : ∀ j, 1 ≤ j → j ≤ m → j ∉ s.here :: ord → W1.getD j 0 ∈ s.here :: ord ∧ L1.getD j 0 = a (row.getD (W1.getD j 0) 0 - 1) (j - 1) - s.u.getD (row.getD (W1.getD j 0) 0) 0 - s.v.getD j 0 := by
    intro j h1 h2 h3
    obtain ⟨q1, q2, _⟩ := y4' j h1 h2 h3
    rw [q1, q2]
    by_cases hc : a (row.getD s.here 0 - 1) (j - 1) - s.u.getD (row.getD s.here 0) 0 - s.v.getD j 0 < s.L.getD j 0
    · rw [if_pos hc, if_pos hc]
      exact ⟨by simp, rfl⟩
    · rw [if_neg hc, if_neg hc]
      by_cases ho : ord = []
      · have := (h.h0 ho).2.2 j h2
        have := (hcb j h1 h2).2
        omega
      · obtain ⟨r1, r2⟩ := h.att ho j h1 h2 (fun e => h3 (List.mem_cons_of_mem _ e))
        exact ⟨List.mem_cons_of_mem _ r1, r2⟩
  have L10 : ∀ j, 1 ≤ j → j ≤ m → j ∉ s.here :: ord → 0 ≤ L1.getD j 0 ∧ L1.getD j 0 ≤ INF := by
    intro j h1 h2 h3
    obtain ⟨q1, _, _⟩ := y4' j h1 h2 h3
    have := h.lower j h1 h2 (fun e => h3 (List.mem_cons_of_mem _ e))
    have := hcb j h1 h2
    rw [q1]; split <;> omega
  have hδ0 : 0 ≤ δ := by rw [hx4]; exact (L10 x hx1 (by omega) hxo).1
  refine ⟨hrn, by rw [y1]; exact h.lL, by rw [y2]; exact h.lW, ⟨hδ0, by have := h.hD; omega⟩, by omega, fun j j1 j2 j3 => L10 j j1 j2 ((hUf j).1 j3), ?_⟩
  rw [hU]
  by_cases ho : ord = []
  · rw [(h.h0 ho).1]; simp
  · exact List.mem_cons_of_mem _ (path_zero h.path ho)
end Go.Abs.Hung
