import Derived.Test.YtopkphjjodfdlaaL33c
namespace Go.Abs.L33
open Go Go.Abs Go.Proofs
set_option linter.unusedVariables false
set_option maxRecDepth 20000
theorem amend_cases (l : List Agr) (id day : Int) (a : Agr) : ((amendE l id day a).1 = [] ∧ (amendE l id day a).2 ≠ 0) ∨
    ∃ (i : Nat) (b z : Agr), checkE l = 0 ∧ l.length < 64 ∧ idxF (fun x : Agr => x.id == id) 0 l = i ∧ l[i]? = some b ∧ l[l.length - 1]? = some z ∧ amendBad b a day = false ∧ z.id < a.id ∧
      amendE l id day a = (l.set i { b with hi := day } ++ [amendNew b a day], 0) := by
  unfold amendE
  split
  · exact .inl ⟨rfl, by decide⟩
  · rename_i hc
    split
    · exact .inl ⟨rfl, by decide⟩
    · rename_i hi
      rcases idxF_spec (fun x : Agr => x.id == id) l 0 with ⟨h1, _⟩ | ⟨i, b, hb, _, hi', _⟩
      · omega
      · rw [Nat.zero_add] at hi'
        have hil : i < l.length := (List.getElem?_eq_some_iff.1 hb).1
        obtain ⟨z, hz⟩ : ∃ z, l[l.length - 1]? = some z := ⟨l[l.length - 1], by simp⟩
        simp only [hi', Int.toNat_natCast, hb, hz]
        unfold amendAt
        split
        · exact .inl ⟨rfl, by decide⟩
        · rename_i hbad
          split
          · exact .inl ⟨rfl, by decide⟩
          · split
            · exact .inl ⟨rfl, by decide⟩
            · exact .inr ⟨i, b, z, by simpa using hc, by omega, rfl, hb, hz ▸ rfl, by simpa using hbad, by omega, rfl⟩
theorem chk_of : ∀ {l : List Agr} {p : Option Agr}, (∀ q, p = some q → ∀ a ∈ l, q.id < a.id) → List.Pairwise (fun a b : Agr => a.id < b.id) l → (∀ a ∈ l, formedB a = true) → chk p l = 0
  | [], p, _, _, _ => rfl
  | a :: r, p, h1, h2, h3 => by
    obtain ⟨k1, k2⟩ := List.pairwise_cons.1 h2
    have ih := chk_of (l := r) (p := some a) (fun q e b hb => by injection e with e; subst e; exact k1 b hb) k2 fun b hb => h3 b (by simp [hb])
    simp only [chk, h3 a (by simp), Bool.true_eq_false, if_false]
    cases p with
    | none => exact ih
    | some q =>
      have := h1 q rfl a (by simp)
      simp only
      rw [if_neg (by omega)]
      exact ih
theorem check_of {l : List Agr} (hl : l.length ≤ 64) (h2 : List.Pairwise (fun a b : Agr => a.id < b.id) l) (h3 : ∀ a ∈ l, formedB a = true) : checkE l = 0 := by
  rw [checkE_le hl]
  exact chk_of (by simp) h2 h3
theorem pw_set {l : List Agr} {i : Nat} {b b' : Agr} (hb : l[i]? = some b) (he : b'.id = b.id) (h : List.Pairwise (fun a b : Agr => a.id < b.id) l) : List.Pairwise (fun a b : Agr => a.id < b.id) (l.set i b') := by
  rw [List.pairwise_iff_getElem] at h ⊢
  intro j k hj hk hjk
  simp only [List.length_set] at hj hk
  obtain ⟨hi, hbi⟩ := List.getElem?_eq_some_iff.1 hb
  have := h j k hj hk hjk
  simp only [List.getElem_set]
  split
  · rename_i e; subst e
    split
    · omega
    · rw [he, ← hbi]; exact this
  · split
    · rename_i e; subst e; rw [he, ← hbi]; exact this
    · exact this
theorem last_max {l : List Agr} {z : Agr} (h : List.Pairwise (fun a b : Agr => a.id < b.id) l) (hz : l[l.length - 1]? = some z) : ∀ a ∈ l, a.id ≤ z.id := by
  intro a ha
  obtain ⟨j, hj, rfl⟩ := List.getElem_of_mem ha
  obtain ⟨hi, rfl⟩ := List.getElem?_eq_some_iff.1 hz
  by_cases e : j = l.length - 1
  · subst e; omega
  · have := List.pairwise_iff_getElem.1 h j (l.length - 1) hj hi (by omega)
    omega
theorem mem_set_cases {l : List Agr} {i : Nat} {b' a : Agr} (h : a ∈ l.set i b') : a ∈ l ∨ a = b' := List.mem_or_eq_of_mem_set h
theorem filter_set {α : Type} {p : α → Bool} : ∀ {l : List α} {i : Nat} {b b' : α}, l[i]? = some b → p b' = p b → ((l.set i b').filter p).length = (l.filter p).length ∧ (p b = false → (l.set i b').filter p = l.filter p)
  | [], i, b, b', h, _ => by simp at h
  | a :: r, 0, b, b', h, hp => by
    simp at h
    subst h
    simp only [List.set_cons_zero, List.filter_cons, hp]
    constructor
    · split <;> simp
    · intro h; simp [h]
  | a :: r, i + 1, b, b', h, hp => by
    obtain ⟨h1, h2⟩ := filter_set (l := r) (i := i) (by simpa using h) hp
    simp only [List.set_cons_succ, List.filter_cons]
    constructor
    · split <;> simp [h1]
    · intro h; rw [h2 h]
theorem l7 (l : List Agr) (hl : l.length ≤ 9223372036854775807) (id d x k : Int) (a : Agr) : Fn Try.prog 7 [A l, .agg [I id, I d, I x, I k], .agg (encA a)] (.bool true) := by
  refine mk7 rfl ⟨_, c10, fun h => (by cases h), fun _ => ⟨_, c27 l hl (fun b => b.id == id) 28 [I id] (fun a _ => c28 a id), _, c11 l, fun h => ⟨rfl, rfl, rfl⟩, fun h => ?_⟩⟩
  have hlen : l.length ≤ 20 := by simp at h; omega
  clear h
  have h24 := c24 l id d a
  rcases amend_cases l id d a with ⟨e1, e2⟩ | ⟨i, b, z, hc, hl64, hi, hb, hz, hbad, hza, he⟩
  · rw [e1] at h24
    refine ⟨_, c15 l (by omega), true, _, h24, true, fun h => ⟨rfl, rfl, rfl⟩, fun h => ?_⟩
    simp at h
    exact absurd h e2
  · simp only [he] at h24
    obtain ⟨hs, hf⟩ := check_sorted hc
    have hil : i < l.length := (List.getElem?_eq_some_iff.1 hb).1
    have hbm : b ∈ l := List.mem_of_getElem? hb
    have hfb := formed_iff.1 (hf b hbm)
    simp [amendBad] at hbad
    have hmax := last_max hs hz
    have hf1 : formedB { b with hi := d } = true := by rw [formed_iff]; simp only; omega
    have hf2 : formedB (amendNew b a d) = true := by rw [formed_iff]; simp only [amendNew]; omega
    generalize hm : l.set i { b with hi := d } ++ [amendNew b a d] = m at h24
    have hml : m.length = l.length + 1 := by rw [← hm]; simp
    have hcm : checkE m = 0 := by
      refine check_of (by omega) ?_ ?_
      · rw [← hm, List.pairwise_append]
        refine ⟨pw_set hb rfl hs, by simp, fun u hu v hv => ?_⟩
        simp only [List.mem_singleton] at hv
        subst hv
        rcases mem_set_cases hu with hu | rfl
        · have := hmax u hu; simp only [amendNew]; omega
        · have := hmax b hbm; simp only [amendNew]; omega
      · intro u hu
        rw [← hm, List.mem_append, List.mem_singleton] at hu
        rcases hu with hu | rfl
        · rcases mem_set_cases hu with hu | rfl
          · exact hf u hu
          · exact hf1
        · exact hf2
    have h14 := c14 m
    rw [hcm] at h14
    have hg1 := grounds_len l x k
    have hg2 := grounds_len m x k
    refine ⟨_, c15 l (by omega), true, _, h24, true, fun h => (by cases h), fun _ => ?_⟩
    refine ⟨_, c15 l (by omega), _, fnA (c22 l x k), _, c15 m (by omega), _, fnA (c22 m x k), ?_⟩
    rw [hi]
    refine ⟨[(2, false)], by simp, _, c15 m (by omega), _, fnA h14, _, wrap64 (by omega) (by omega), fun h => ?_, fun h => ?_⟩
    · exfalso
      simp at h
      omega
    · clear h
      refine ⟨[], ⟨by omega, by omega⟩, encA b, get_map' hb rfl, fun h => ?_, fun h => ?_⟩
      · simp at h
        refine ⟨[], _, fnGG (c21 _ _ (by omega)), rfl, rfl, ?_⟩
        show AV.bool true = AV.bool (decide (groundsE l x k = groundsE m x k) || (decide (k < d) && (((groundsE l x k).length : Int) == (groundsE m x k).length)))
        have hgl : groundsE l x k = (l.filter (closesB · x k)).map groundE := by rw [groundsE, if_neg (by simp [hc])]
        have hnew : closesB (amendNew b a d) x k = false := by
          cases hcl : closesB (amendNew b a d) x k with
          | false => rfl
          | true =>
            rw [closes_iff] at hcl
            simp only [amendNew] at hcl
            rcases h with h | h
            · omega
            · exact absurd hcl.2.1.symm h
        have hgm : groundsE m x k = ((l.set i { b with hi := d }).filter (closesB · x k)).map groundE := by
          rw [groundsE, if_neg (by simp [hcm]), ← hm, List.filter_append]
          simp [hnew]
        have hsame : closesB { b with hi := d } x k = closesB b x k := by
          rw [Bool.eq_iff_iff, closes_iff, closes_iff]
          simp only
          rcases h with h | h
          · constructor
            · rintro ⟨h1, h2, h3, h4, h5⟩; exact ⟨hf b hbm, h2, h3, by omega, h5⟩
            · rintro ⟨h1, h2, h3, h4, h5⟩; exact ⟨hf1, h2, h3, by omega, h5⟩
          · constructor
            · rintro ⟨h1, h2, _⟩; exact absurd h2.symm h
            · rintro ⟨h1, h2, _⟩; exact absurd h2.symm h
        obtain ⟨k1, k2⟩ := filter_set (p := (closesB · x k)) hb hsame
        rcases h with h | h
        · rw [hgl, hgm]
          simp only [List.length_map, k1, h]
          simp
        · have hbf : closesB b x k = false := by
            cases hcl : closesB b x k with
            | false => rfl
            | true => rw [closes_iff] at hcl; exact absurd hcl.2.1.symm h
          rw [hgl, hgm, k2 hbf]
          simp
      · simp at h
        refine ⟨_, fnG (c29 _ (by omega) (fun g => g.src == a.id) 30 (encA a) (fun g _ => c30 g a)), [], ⟨by omega, by omega⟩, encA b, get_map' hb rfl, rfl, rfl, ?_⟩
        show AV.bool true = AV.bool (decide (idxF (fun g : Gr => g.src == a.id) 0 (groundsE m x k) ≥ 0) == (decide (k < b.hi) && decide (k < a.til)))
        rw [idxF_any]
        have key : (groundsE m x k).any (fun g => g.src == a.id) = (decide (k < b.hi) && decide (k < a.til)) := by
          rw [Bool.eq_iff_iff, List.any_eq_true, groundsE, if_neg (by simp [hcm]), ← hm]
          simp only [List.mem_map, List.mem_filter, List.mem_append, List.mem_singleton, beq_iff_eq, Bool.and_eq_true, decide_eq_true_eq]
          constructor
          · rintro ⟨g, ⟨u, ⟨hu, hcu⟩, rfl⟩, hg⟩
            have hg : u.id = a.id := hg
            rcases hu with hu | rfl
            · rcases mem_set_cases hu with hu | rfl
              · have := hmax u hu; omega
              · have := hmax b hbm
                have hg : b.id = a.id := hg
                omega
            · rw [closes_iff] at hcu
              simp only [amendNew] at hcu
              exact ⟨hcu.2.2.2.1, hcu.2.2.2.2⟩
          · rintro ⟨h1, h2⟩
            refine ⟨_, ⟨amendNew b a d, ⟨.inr rfl, ?_⟩, rfl⟩, rfl⟩
            rw [closes_iff]
            exact ⟨hf2, by simp only [amendNew]; omega, by simp only [amendNew]; omega, h1, h2⟩
        rw [key]
        simp
end Go.Abs.L33
