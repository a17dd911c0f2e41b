import Derived.Test.YtnmpnlhlbjemeaaC39q
namespace Go.Abs.L39
open Go Go.Abs Go.Proofs
set_option linter.unusedVariables false
set_option maxRecDepth 20000
def put1 (room x n : Int) : Int := if x.tdiv 10001 = 0 ∨ x.tmod 10001 + n > room then (x.tdiv 10001 + 1) * 10001 + 0 + n else x.tdiv 10001 * 10001 + x.tmod 10001 + n
/-- the best box for a last piece -/
def bestP (room : Int) (T : List Int) (k : Nat) : List Int → Nat → Int → Int
  | [], _, best => best
  | n :: r, i, best => if k / 2 ^ i % 2 = 0 then bestP room T k r (i + 1) best else bestP room T k r (i + 1) (minI best (put1 room (T.getD (k - 2 ^ i) 0) n))
def entryP (l : List Int) (room : Int) (T : List Int) (k : Nat) : Int := if k = 0 then 0 else bestP room T k l 0 (10001 * ((l.length : Int) + 1))
def tabP (l : List Int) (room : Int) : Nat → List Int
  | 0 => []
  | k + 1 => tabP l room k ++ [entryP l room (tabP l room k) k]
theorem tabP_len (l : List Int) (room : Int) : ∀ k, (tabP l room k).length = k
  | 0 => rfl
  | k + 1 => by simp [tabP, tabP_len l room k]
theorem put1_bounds {room x n : Int} (hx : 0 ≤ x ∧ x ≤ 1000000) (hn : 1 ≤ n ∧ n ≤ 10000) : 1 ≤ put1 room x n ∧ put1 room x n ≤ 1100000 := by
  unfold put1
  have h1 : x.tdiv 10001 = x / 10001 := Int.tdiv_eq_ediv_of_nonneg hx.1
  have h2 : x.tmod 10001 = x % 10001 := Int.tmod_eq_emod_of_nonneg hx.1
  rw [h1, h2]
  split <;> omega
theorem bestP_bounds {room : Int} {T : List Int} {k : Nat} (hT : ∀ x ∈ T, 0 ≤ x ∧ x ≤ 1000000) : ∀ (r : List Int) (i : Nat) (best : Int), (∀ n ∈ r, 1 ≤ n ∧ n ≤ 10000) → 0 ≤ best → best ≤ 1000000 → 0 ≤ bestP room T k r i best ∧ bestP room T k r i best ≤ 1000000
  | [], i, best, _, h0, h1 => ⟨h0, h1⟩
  | n :: r, i, best, hr, h0, h1 => by
    unfold bestP
    have hx : 0 ≤ T.getD (k - 2 ^ i) 0 ∧ T.getD (k - 2 ^ i) 0 ≤ 1000000 := by
      rw [List.getD_eq_getElem?_getD]
      cases hq : T[k - 2 ^ i]? with
      | none => exact ⟨Int.le_refl _, by decide⟩
      | some x => exact hT x (List.mem_of_getElem? hq)
    have hp := put1_bounds (room := room) hx (hr n (by simp))
    split
    · exact bestP_bounds hT r _ _ (fun m hm => hr m (by simp [hm])) h0 h1
    · refine bestP_bounds hT r _ _ (fun m hm => hr m (by simp [hm])) ?_ ?_
      · unfold minI; split <;> omega
      · unfold minI; split <;> omega
theorem tabP_bounds {l : List Int} {room : Int} (hl : l.length ≤ 60) (hsz : ∀ n ∈ l, 1 ≤ n ∧ n ≤ 10000) : ∀ k, ∀ x ∈ tabP l room k, 0 ≤ x ∧ x ≤ 1000000
  | 0, x, h => by cases h
  | k + 1, x, h => by
    rcases List.mem_append.1 h with h | h
    · exact tabP_bounds hl hsz k x h
    · simp at h; subst h
      unfold entryP
      split
      · exact ⟨Int.le_refl _, by decide⟩
      · exact bestP_bounds (tabP_bounds hl hsz k) l 0 _ hsz (by omega) (by omega)
def rowsK (l : List Int) (room : Int) (p k : Nat) : List (List AV) := (tabP l room k).map enc ++ List.replicate (p - k) [I 0]
theorem rowsK_at {l : List Int} {room : Int} {p k j : Nat} (h : j < k) : (rowsK l room p k)[j]? = some [I ((tabP l room k).getD j 0)] := by
  have hj : j < (tabP l room k).length := by rw [tabP_len]; exact h
  unfold rowsK
  rw [List.getElem?_append_left (by rw [List.length_map]; exact hj), List.getElem?_map, List.getD_eq_getElem?_getD, List.getElem?_eq_getElem hj]; rfl
theorem rowsK_self {l : List Int} {room : Int} {p k : Nat} (h : k < p) : (rowsK l room p k)[k]? = some [I 0] := by
  unfold rowsK
  rw [List.getElem?_append_right (by rw [List.length_map, tabP_len]; exact Nat.le_refl _), List.length_map, tabP_len, Nat.sub_self, List.getElem?_replicate, if_pos (by omega)]
theorem rowsK_set {l : List Int} {room x : Int} {p k : Nat} (h : k < p) (hx : x = entryP l room (tabP l room k) k) : (rowsK l room p k).set k [I x] = rowsK l room p (k + 1) := by
  subst hx
  unfold rowsK
  rw [List.set_append_right _ _ (by rw [List.length_map, tabP_len]; exact Nat.le_refl _), List.length_map, tabP_len, Nat.sub_self, show p - k = (p - (k + 1)) + 1 by omega, List.replicate_succ, List.set_cons_zero]
  simp [tabP, enc]
theorem rowsK_zero {l : List Int} {room : Int} {p : Nat} (h : 0 < p) : rowsK l room p 0 = rowsK l room p 1 := by
  unfold rowsK
  rw [show p - 0 = (p - 1) + 1 by omega, List.replicate_succ]
  rfl
theorem rowsK_end {l : List Int} {room : Int} {p : Nat} : rowsK l room p p = (tabP l room p).map enc := by
  unfold rowsK; simp
theorem c36 (l : List Int) (room : Int) (hl : l.length ≤ 12) (hsz : ∀ n ∈ l, 1 ≤ n ∧ n ≤ 10000) (hroom : room ≤ 10000) : Fn Try.prog 36 [A l, I room] (fA (tabP l room (2 ^ l.length))) := by
  have hpow : 2 ^ l.length ≤ 4096 := Nat.pow_le_pow_right (by decide) hl
  have hpos : 1 ≤ 2 ^ l.length := Nat.one_le_two_pow
  have hx : (1 : Int) * 2 ^ ((l.length : Nat) : Int).toNat = ((2 ^ l.length : Nat) : Int) := by rw [Int.toNat_natCast]; simp
  have hbnd := tabP_bounds (room := room) (by omega : l.length ≤ 60) hsz
  have hbitlt : ∀ k i : Nat, k < 2 ^ l.length → k / 2 ^ i % 2 ≠ 0 → 2 ^ i ≤ k := by
    intro k i _ h
    rcases Nat.lt_or_ge k (2 ^ i) with hlt | hge
    · rw [Nat.div_eq_of_lt hlt] at h; exact absurd rfl h
    · exact hge
  generalize 2 ^ l.length = p at *
  refine mk36 rfl ⟨⟨by omega, by show ((l.length : Nat) : Int) ≤ 64; omega⟩, (p : Int), wrapTo hx (by rw [hx]; omega) (by rw [hx]; omega), ⟨rfl, by omega, by show (8 : Int) * _ ≤ _; omega, by omega⟩, ?_⟩
  refine ⟨fun q c => ∃ k : Nat, k ≤ p ∧ q = p - k ∧ c = ⟨[(0, A l), (1, I room), (4, .nilsl), (5, .osl 240 1 p), (17, I p), (18, I k)], [(240, ⟨3, 1, .pure, rowsK l room p k⟩)]⟩, ⟨_, _, Wk.keep [0, 1, 4, 5, 17, 18] [240], 0, by omega, rfl, ?_⟩, ?_⟩
  · rw [Int.toNat_natCast]; rfl
  rintro q c ⟨k, hk, rfl, rfl⟩
  refine ⟨fun h => ?_, fun h => ?_⟩
  · simp at h
    refine ⟨fun h0 => ?_, fun h0 => ?_⟩
    · have h0 : k = 0 := by simp at h0; omega
      subst h0
      refine ⟨(1 : Nat), wrapTo (by omega) (by omega) (by omega), ?_⟩
      exact ⟨_, _, Wk.keep [0, 1, 4, 5, 17, 18] [240], by omega, 1, by omega, rfl, by rw [rowsK_zero (by omega)]; rfl⟩
    · have h0 : k ≠ 0 := by simp at h0; omega
      refine ⟨_, wrap64 (by omega) (by omega), _, wrap64 (by omega) (by omega), ?_⟩
      refine ⟨fun q c => ∃ (i : Nat) (best : Int), i ≤ l.length ∧ q = l.length - i ∧ 0 ≤ best ∧ best ≤ 1000000 ∧ bestP room (tabP l room k) k (l.drop i) i best = entryP l room (tabP l room k) k ∧ c = ⟨[(0, A l), (1, I room), (4, .nilsl), (5, .osl 240 1 p), (6, I k), (7, I best), (17, I p), (18, I k), (27, A l), (28, I l.length), (29, I i)], [(240, ⟨3, 1, .pure, rowsK l room p k⟩)]⟩,
        ⟨_, _, Wk.keep [0, 1, 4, 5, 6, 7, 17, 18, 27, 28, 29] [240], 0, 10001 * ((l.length : Int) + 1), by omega, rfl, by omega, by omega, by unfold entryP; rw [if_neg h0]; rfl, rfl⟩, ?_⟩
      rintro q c ⟨i, best, hi, rfl, hb0, hb1, hI, rfl⟩
      refine ⟨fun h1 => ?_, fun h1 => ?_⟩
      · simp at h1
        obtain ⟨n, hn, hd, _⟩ := drop_cons h1
        have hn0 := hsz n (List.mem_of_getElem? hn)
        rw [hd, bestP] at hI
        have hpi : (2 : Nat) ^ i ≤ 4096 := Nat.le_trans (Nat.pow_le_pow_right (by decide) (by omega : i ≤ 12)) (by decide)
        have hpi0 : 1 ≤ (2 : Nat) ^ i := Nat.one_le_two_pow
        have hsh : ((k : Nat) : Int) / 2 ^ ((i : Nat) : Int).toNat = ((k / 2 ^ i : Nat) : Int) := by rw [Int.toNat_natCast]; norm_cast
        have hand : bits .and .i64 (((k : Nat) : Int) / 2 ^ ((i : Nat) : Int).toNat) 1 = ((k / 2 ^ i % 2 : Nat) : Int) := by
          rw [hsh]; exact and_one _ (Nat.lt_of_le_of_lt (Nat.div_le_self _ _) (by omega))
        refine ⟨⟨by omega, by omega⟩, enc n, get_map hn, ⟨by omega, by show ((i : Nat) : Int) ≤ 64; omega⟩, _, hand, fun hz => ?_, fun hz => ?_⟩
        · have hz : k / 2 ^ i % 2 = 0 := by exact_mod_cast (eq_of_beq hz : ((k / 2 ^ i % 2 : Nat) : Int) = 0)
          rw [if_pos hz] at hI
          refine ⟨_, wrap64 (by omega) (by omega), ?_⟩
          exact ⟨_, _, Wk.keep [0, 1, 4, 5, 6, 7, 17, 18, 27, 28, 29] [240], by omega, i + 1, best, by omega, rfl, hb0, hb1, hI, rfl⟩
        · have hz : k / 2 ^ i % 2 ≠ 0 := by
            intro e
            have hz : (((k / 2 ^ i % 2 : Nat) : Int) == 0) = false := hz
            rw [e] at hz; cases hz
          rw [if_neg hz] at hI
          have hk2 := hbitlt k i (by omega) hz
          have hz1 : k / 2 ^ i % 2 = 1 := by omega
          have hshl : (1 : Int) * 2 ^ ((i : Nat) : Int).toNat = ((2 ^ i : Nat) : Int) := by rw [Int.toNat_natCast]; simp
          have hao := andNot_bit k i (by omega) (by omega) hz1
          clear hand hsh hz hz1
          generalize 2 ^ i = b at *
          have hxb : 0 ≤ (tabP l room k).getD (k - b) 0 ∧ (tabP l room k).getD (k - b) 0 ≤ 1000000 := by
            rw [List.getD_eq_getElem?_getD]
            cases hq : (tabP l room k)[k - b]? with
            | none => exact ⟨Int.le_refl _, by decide⟩
            | some x => exact hbnd k x (List.mem_of_getElem? hq)
          have hrow : (rowsK l room p k)[((k - b : Nat) : Int).toNat]? = some [I ((tabP l room k).getD (k - b) 0)] := by rw [Int.toNat_natCast]; exact rowsK_at (by omega)
          have hp1 := put1_bounds (room := room) hxb (show 1 ≤ n ∧ n ≤ 10000 by omega)
          unfold put1 at hI hp1
          generalize (tabP l room k).getD (k - b) 0 = x at *
          have e1 : x.tdiv 10001 = x / 10001 := Int.tdiv_eq_ediv_of_nonneg hxb.1
          have e2 : x.tmod 10001 = x % 10001 := Int.tmod_eq_emod_of_nonneg hxb.1
          refine ⟨⟨by omega, by show ((i : Nat) : Int) ≤ 64; omega⟩, (b : Int), wrapTo hshl (by rw [hshl]; omega) (by rw [hshl]; omega), _, hao, ⟨by omega, by omega⟩, [I x], by exact hrow, by decide, x.tdiv 10001, wrap64 (by omega) (by omega), ⟨by omega, by show ((i : Nat) : Int) ≤ 64; omega⟩, (b : Int), wrapTo hshl (by rw [hshl]; omega) (by rw [hshl]; omega), _, hao, ⟨by omega, by omega⟩, [I x], by exact hrow, by decide, ?_⟩
          by_cases hq : x.tdiv 10001 = 0
          · rw [if_pos (.inl hq)] at hI hp1
            refine ⟨[(2, true)], by show ((x.tdiv 10001 == 0) = true); simp [hq], fun _ => ?_, fun h => (by cases h)⟩
            refine ⟨_, wrap64 (by omega) (by omega), _, wrap64 (by omega) (by omega), _, wrap64 (by omega) (by omega), _, wrap64 (by omega) (by omega), ?_⟩
            refine ⟨_, wrap64 (by omega) (by omega), ?_⟩
            exact ⟨_, _, Wk.keep [0, 1, 4, 5, 6, 7, 17, 18, 27, 28, 29] [240], by omega, i + 1, minI best ((x.tdiv 10001 + 1) * 10001 + 0 + n), by omega, rfl, by unfold minI; split <;> omega, by unfold minI; split <;> omega, hI, rfl⟩
          · refine ⟨[(2, false)], by show ((x.tdiv 10001 == 0) = false); simp [hq], x.tmod 10001 + n, wrap64 (by omega) (by omega), fun h => ?_, fun h => ?_⟩
            · have h : x.tmod 10001 + n > room := by simpa using h
              rw [if_pos (.inr h)] at hI hp1
              refine ⟨_, wrap64 (by omega) (by omega), _, wrap64 (by omega) (by omega), _, wrap64 (by omega) (by omega), _, wrap64 (by omega) (by omega), ?_⟩
              refine ⟨_, wrap64 (by omega) (by omega), ?_⟩
              exact ⟨_, _, Wk.keep [0, 1, 4, 5, 6, 7, 17, 18, 27, 28, 29] [240], by omega, i + 1, minI best ((x.tdiv 10001 + 1) * 10001 + 0 + n), by omega, rfl, by unfold minI; split <;> omega, by unfold minI; split <;> omega, hI, rfl⟩
            · have h : ¬ x.tmod 10001 + n > room := by simpa using h
              rw [if_neg (by rintro (h' | h'); exact hq h'; exact h h')] at hI hp1
              refine ⟨_, wrap64 (by omega) (by omega), _, wrap64 (by omega) (by omega), _, wrap64 (by omega) (by omega), ?_⟩
              refine ⟨_, wrap64 (by omega) (by omega), ?_⟩
              exact ⟨_, _, Wk.keep [0, 1, 4, 5, 6, 7, 17, 18, 27, 28, 29] [240], by omega, i + 1, minI best (x.tdiv 10001 * 10001 + x.tmod 10001 + n), by omega, rfl, by unfold minI; split <;> omega, by unfold minI; split <;> omega, hI, rfl⟩
      · simp at h1
        have hil : i = l.length := by omega
        subst hil
        rw [List.drop_length, bestP] at hI
        refine ⟨⟨by omega, by omega⟩, [I 0], by rw [Int.toNat_natCast]; exact rowsK_self (by omega), ?_⟩
        refine ⟨_, wrap64 (by omega) (by omega), ?_⟩
        refine ⟨_, _, Wk.keep [0, 1, 4, 5, 17, 18] [240], by omega, k + 1, by omega, rfl, ?_⟩
        rw [← rowsK_set (by omega) hI]; rfl
  · simp at h
    have hkp : k = p := by omega
    subst hkp
    rw [rowsK_end]
    exact ⟨rfl, _, rfl, rfl, by rw [List.length_map, tabP_len], .inl ⟨rfl, by show AV.fsl true 3 1 (tabP l room k).length _ = AV.fsl true 3 1 k _; rw [tabP_len]⟩⟩
end Go.Abs.L39
