import Derived.Test.YtknbomaidhlnlaaC42g
namespace Go.Abs.L42
open Go Go.Abs Go.Proofs
set_option linter.unusedVariables false
set_option maxRecDepth 20000
theorem openE_len (l : List Req) (x : Int) : (openE l x).length ≤ 256 := by
  unfold openE
  split
  · simp
  · rename_i h
    have hl := check_len (l := l) (by simpa using h)
    have := List.length_filter_le (fun r => openB r && (r.rd == x)) l
    simp only [List.length_map]
    omega
theorem l9 (l : List Req) (hl : l.length ≤ 9223372036854775807) (x y z : Int) : Fn Try.prog 9 [A l, .agg [I x, I y, I z]] (.bool true) := by
  refine mk9 rfl ⟨_, c10, fun h => (by cases h), fun _ => ⟨_, c11 l, fun h => ⟨rfl, rfl, rfl⟩, fun h => ?_⟩⟩
  have hlen : l.length ≤ 40 := by simp at h; omega
  have ho := openE_len l z
  refine ⟨_, c13 l (by omega), true, _, c19 l hl x, _, c29 l x, _, c13 l (by omega), true, _, c18 l y, _, c30 l y, [], _, c13 l (by omega), true, _, c32 l z, true, _, c33 l z, true, _, c31 _ _ (by omega), rfl, rfl, ?_⟩
  show AV.bool true = AV.bool (((nextQ l x).1 == (nextQ l x).1) && ((nextQ l x).2 == (nextQ l x).2) && ((positionE l y).1 == (positionE l y).1) && ((positionE l y).2 == (positionE l y).2) && decide (openE l z = openE l z))
  simp
theorem cnt0 {p : Nat → Req → Bool} : ∀ {l : List Req} {k : Nat}, cnt p k l = 0 ↔ ∀ (j : Nat) r, l[j]? = some r → p (k + j) r = false
  | [], k => by simp [cnt]
  | r :: rest, k => by
    have ih := cnt0 (p := p) (l := rest) (k := k + 1)
    have hb := cnt_bd p rest (k + 1)
    simp only [cnt]
    constructor
    · intro h j x hx
      cases j with
      | zero =>
        simp at hx; subst hx
        cases hp : p k r with
        | false => rfl
        | true => rw [if_pos hp] at h; omega
      | succ j =>
        have h' : cnt p (k + 1) rest = 0 := by split at h <;> omega
        have := ih.1 h' j x (by simpa using hx)
        rw [show k + (j + 1) = k + 1 + j by omega]; exact this
    · intro h
      have h0 := h 0 r (by simp)
      simp only [Nat.add_zero] at h0
      rw [if_neg (by simp [h0])]
      have := ih.2 fun j x hx => by
        have := h (j + 1) x (by simpa using hx)
        rw [show k + (j + 1) = k + 1 + j by omega] at this; exact this
      omega
theorem index_of {l : List Req} (h : checkE l = 0) {i : Nat} {r : Req} (hr : l[i]? = some r) : indexE l r.id = i := by
  rcases idxF_spec (fun x : Req => x.id == r.id) l 0 with ⟨_, h2⟩ | ⟨j, a, h1, h2, h3, _⟩
  · have := h2 r (List.mem_of_getElem? hr)
    simp at this
  · have := ids_inj h h1 hr (by simpa using h2)
    subst this
    unfold indexE; rw [h3]; simp
theorem position_of {l : List Req} (h : checkE l = 0) {i : Nat} {r : Req} (hr : l[i]? = some r) (hst : r.st = 1) : positionE l r.id = (cnt (posP i r) 0 l, 0) := by
  rw [positionE, if_neg (by simp [h]), index_of h hr, if_neg (by omega)]
  simp only [Int.toNat_natCast, hr, hst]
  simp
theorem fair {l : List Req} (h : checkE l = 0) {i : Nat} {r : Req} (hr : l[i]? = some r) (hst : r.st = 1) : (cnt (posP i r) 0 l == 0) = canLend l i := by
  rw [Bool.eq_iff_iff]
  simp only [beq_iff_eq, canLend, hr]
  rw [cnt0]
  simp only [Nat.zero_add]
  unfold nextE
  constructor
  · intro hp
    have hnl : lentP l r.bx = false := by
      rw [lentP, List.any_eq_false]
      intro x hx
      obtain ⟨j, hj⟩ := List.getElem?_of_mem hx
      have := hp j x hj
      simp only [posP, Bool.and_eq_false_iff, Bool.or_eq_false_iff] at this
      intro hc
      simp only [Bool.and_eq_true, beq_iff_eq] at hc
      rcases this with (h1 | h1) | h1
      · simp [hc.2] at h1
      · simp at h1
        have : j = i := by omega
        subst this
        rw [hr] at hj; injection hj with hj; subst hj; omega
      · simp [hc.1] at h1
    rw [if_neg (by simp [hnl])]
    rcases idxF_spec (fun x : Req => (x.st == 1) && (x.bx == r.bx)) l 0 with ⟨_, h2⟩ | ⟨j, a, h1, h2, h3, h4⟩
    · have := h2 r (List.mem_of_getElem? hr)
      simp [hst] at this
    · rw [h3]
      simp only [Nat.zero_add]
      have hji : ¬ i < j := fun hlt => by
        have := h4 i r hlt hr
        simp [hst] at this
      have hij : ¬ j < i := fun hlt => by
        have := hp j a h1
        simp at h2
        simp [posP, h2.1, h2.2, openB] at this
        omega
      congr 1; omega
  · intro hn j x hj
    split at hn
    · omega
    · rename_i hnl
      rcases idxF_spec (fun x : Req => (x.st == 1) && (x.bx == r.bx)) l 0 with ⟨h1, _⟩ | ⟨k, a, h1, h2, h3, h4⟩
      · omega
      · rw [h3] at hn
        have : k = i := by omega
        subst this
        cases hx : posP k r j x with
        | false => rfl
        | true =>
          simp only [posP, Bool.and_eq_true, beq_iff_eq, Bool.or_eq_true, decide_eq_true_eq, bne_iff_ne] at hx
          obtain ⟨⟨hbx, hne⟩, hx⟩ := hx
          rcases hx with hx | ⟨hlt, hx⟩
          · exact absurd (List.any_eq_true.2 ⟨x, List.mem_of_getElem? hj, by simp [hx, hbx]⟩) hnl
          · simp only [openB, Bool.or_eq_true, beq_iff_eq] at hx
            rcases hx with hx | hx
            · have := h4 j x (by omega) hj
              simp [hx, hbx] at this
            · exact absurd (List.any_eq_true.2 ⟨x, List.mem_of_getElem? hj, by simp [hx, hbx]⟩) hnl
theorem c22 (x r : Req) : Fn Try.prog 22 [.agg (encR x), .rptr (encR r) 0] (.bool ((x.bx == r.bx) && (x.st == 1))) := mk22 rfl ⟨[], rfl, rfl, rfl⟩
theorem l5 (l : List Req) (hl : l.length ≤ 9223372036854775807) (d : Int) : Fn Try.prog 5 [A l, I d] (.bool true) := by
  by_cases hlen0 : 40 < l.length
  · refine mk5 rfl ⟨_, c10, fun h => (by cases h), fun _ => ⟨[(3, true)], _, c11 l, by simp; omega, fun h => ⟨rfl, rfl, rfl⟩, fun h => ?_⟩⟩
    cases h
  · have hlen : l.length ≤ 40 := by omega
    refine mk5 rfl ⟨_, c10, fun h => (by cases h), fun _ => ⟨[(3, false)], _, c11 l, by simp; omega, _, c13 l (by omega), _, fnA (c15 l), fun h => ⟨rfl, rfl, rfl⟩, fun h => ?_⟩⟩
    have hc : checkE l = 0 := by simpa using h
    refine ⟨fun m c => ∃ i : Nat, i ≤ l.length ∧ m = l.length - i ∧ c = ⟨[(0, A l), (1, I d), (4, .bool false), (24, A l), (25, I l.length), (26, I i)], []⟩, ⟨_, _, Wk.keep [0, 1, 4, 24, 25, 26] [], 0, by omega, rfl, rfl⟩, ?_⟩
    rintro m c ⟨i, hi, rfl, rfl⟩
    refine ⟨fun h => ?_, fun h => ⟨rfl, rfl, rfl⟩⟩
    simp at h
    obtain ⟨r, hr, _, _⟩ := drop_cons (l := l) (i := i) (by omega)
    refine ⟨⟨by omega, by omega⟩, encR r, get_map hr, fun hs => ?_, fun hs => ?_⟩
    · refine ⟨_, wrap64 (by omega) (by omega), ?_⟩
      exact ⟨_, _, Wk.keep [0, 1, 4, 24, 25, 26] [], by omega, i + 1, by omega, rfl, rfl⟩
    · have hst : r.st = 1 := by simpa using hs
      have h18 := c18 l r.id
      rw [position_of hc hr hst] at h18
      have hbd := cnt_bd (posP i r) l 0
      have hfair := fair hc hr hst
      rw [canLend_iff hc hr] at hfair
      have h20 := c20 l r.id (maxI d r.ch)
      refine ⟨_, c13 l (by omega), true, _, h18, _, c13 l (by omega), true, _, c19 l hl r.bx, [], fun hq => ?_, fun hq => ?_⟩
      · exfalso
        have hq : (false || decide (cnt (posP i r) 0 l < 0) || ((cnt (posP i r) 0 l == 0) != ((nextQ l r.bx).2 && ((nextQ l r.bx).1 == r.id)))) = true := hq
        rw [hfair] at hq
        simp at hq
        omega
      · refine ⟨_, c13 l (by omega), true, _, h20, true, [], ⟨by omega, by omega⟩, _, fnT (i := i) (by omega) (c21a (l.take i) (by simp <;> omega) (fun x => (x.bx == r.bx) && (x.st == 1)) 22 (encR r) (fun x _ => c22 x r)), fun hq => ?_, fun hq => ?_⟩
        · exfalso
          have hq : (((lendE l r.id (maxI d r.ch)).2 == 0) && (decide (cnt (posP i r) 0 l > 0) || (l.take i).any (fun x => (x.bx == r.bx) && (x.st == 1)))) = true := hq
          simp only [Bool.and_eq_true, beq_iff_eq] at hq
          obtain ⟨hq1, hq2⟩ := hq
          have hcan : canLend l i = true := by
            cases hcl : canLend l i with
            | true => rfl
            | false =>
              rcases start_cases l r.id (maxI d r.ch) with ⟨e, he, _, hm⟩ | ⟨j, b, _, hb, hbn, _, hm⟩
              · rw [lendE, hm] at hq1; exact absurd hq1 he
              · have := ids_inj hc hb hr hbn
                subst this
                rw [lendE, hm, hcl] at hq1
                cases hq1
          rw [← fair hc hr hst] at hcan
          simp only [beq_iff_eq] at hcan
          simp only [Bool.or_eq_true, decide_eq_true_eq] at hq2
          rcases hq2 with hq2 | hq2
          · omega
          · obtain ⟨x, hx, hp⟩ := List.any_eq_true.1 hq2
            obtain ⟨j, hj⟩ := List.getElem?_of_mem hx
            rw [List.getElem?_take] at hj
            split at hj
            · rename_i hji
              have := cnt0.1 hcan j x hj
              simp at hp
              simp [posP, hp.1, hp.2, openB] at this
              omega
            · cases hj
        · refine ⟨_, wrap64 (by omega) (by omega), ?_⟩
          exact ⟨_, _, Wk.keep [0, 1, 4, 24, 25, 26] [], by omega, i + 1, by omega, rfl, rfl⟩
end Go.Abs.L42
