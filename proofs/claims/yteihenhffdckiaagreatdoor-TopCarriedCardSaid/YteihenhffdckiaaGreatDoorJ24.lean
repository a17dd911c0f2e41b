import Derived.Test.YteihenhffdckiaaGreatDoorJ23
import Derived.Test.YteihenhffdckiaaGreatDoorJ21
import Derived.Test.YteihenhffdckiaaGreatDoorJ19
section
namespace Go.Abs.Ltop.Pk
open Go Go.Abs Go.Proofs
set_option linter.unusedVariables false
set_option maxRecDepth 20000
def enc (n : Int) : List AV := [.int .i64 n]
abbrev A (l : List Int) : AV := .rsl 1 l.length (l.map enc)
abbrev fA (l : List Int) : AV := .fsl true 3 1 l.length (l.map enc)
def badB (room n : Int) : Bool := decide (n < 1) || decide (n > room)
theorem c177 (n room : Int) : Fn Tryz.prog 177 [I n, .rptr [I room] 0] (.bool (badB room n)) := by
  by_cases h : n < 1
  · rw [show badB room n = true by simp [badB, h]]
    exact mk177 rfl ⟨[(2, true)], by simpa using h, rfl, rfl, rfl⟩
  · rw [show badB room n = decide (n > room) by simp [badB, h]]
    exact mk177 rfl ⟨[(2, false)], by simpa using h, rfl, rfl, rfl⟩
theorem c45a (l : List Int) (hl : l.length ≤ 9223372036854775807) (p : Int → Bool) (g : FuncId) (xs : List AV) (hp : ∀ a ∈ l, Fn Tryz.prog g [I a, .rptr xs 0] (.bool (p a))) : Fn Tryz.prog 192 [A l, .func g [.rptr xs 0]] (I (idxF p 0 l)) := by
  refine mk192 rfl ?_
  refine ⟨fun n c => ∃ i : Nat, i ≤ l.length ∧ n = l.length - i ∧ c = ⟨[(0, A l), (1, .func g [.rptr xs 0]), (4, I 0), (7, I l.length), (8, I i)], []⟩ ∧ idxF p i (l.drop i) = idxF p 0 l, ⟨_, _, Wk.keep [0, 1, 4, 7, 8] [], 0, by omega, rfl, rfl, by simp⟩, ?_⟩
  rintro n c ⟨i, hi, rfl, rfl, hI⟩
  refine ⟨fun h => ?_, fun h => ?_⟩
  · simp at h
    obtain ⟨a, ha, hd, _⟩ := drop_cons h
    rw [hd, idxF] at hI
    refine ⟨⟨by omega, by omega⟩, enc a, by simp [ha], _, hp a (List.mem_of_getElem? ha), fun hf => ?_, fun hf => ?_⟩
    · rw [if_pos hf] at hI
      exact ⟨rfl, rfl, by rw [← hI]; rfl⟩
    · rw [if_neg (by simp [hf])] at hI
      refine ⟨_, wrap64 (by omega) (by omega), ?_⟩
      exact ⟨_, _, Wk.keep [0, 1, 4, 7, 8] [], by omega, i + 1, by omega, rfl, rfl, hI⟩
  · simp at h
    have : i = l.length := by omega
    subst this
    simp [idxF] at hI
    exact ⟨rfl, rfl, by rw [← hI]; rfl⟩
theorem c123 (l : List Int) (hl : l.length ≤ 9223372036854775807) (room : Int) : Fn Tryz.prog 123 [A l, .func 177 [.rptr [I room] 0]] (.bool (l.any (badB room))) :=
  mk123 rfl ⟨_, c45a l hl (badB room) 177 [I room] fun a _ => c177 a room, rfl, rfl, by rw [← idxF_any]; rfl⟩
def chkE (l : List Int) (room : Int) : Int := if room < 1 ∨ room > 10000 then 2 else if l.length > 1024 then 8 else if l.any (badB room) = true then 2 else 0
theorem c113 (l : List Int) (hl : l.length ≤ 9223372036854775807) (room : Int) : Fn Tryz.prog 113 [A l, I room] (I (chkE l room)) := by
  by_cases h1 : room < 1
  · refine mk113 rfl ⟨[(2, true)], by simpa using h1, fun _ => ?_, fun h => by cases h⟩
    rw [chkE, if_pos (.inl h1)]; exact ⟨rfl, rfl, rfl⟩
  · refine mk113 rfl ⟨[(2, false)], by simpa using h1, fun h => ?_, fun h => ?_⟩
    · have h : room > 10000 := by simpa using h
      rw [chkE, if_pos (.inr h)]; exact ⟨rfl, rfl, rfl⟩
    · have h : ¬ room > 10000 := by simpa using h
      rw [chkE, if_neg (by omega)]
      refine ⟨fun h => ?_, fun h => ?_⟩
      · have h : l.length > 1024 := by simp at h; omega
        rw [if_pos h]; exact ⟨rfl, rfl, rfl⟩
      · have h : ¬ l.length > 1024 := by simp at h; omega
        rw [if_neg h]
        refine ⟨_, c123 l hl room, fun h => ?_, fun h => ?_⟩
        · rw [if_pos h]; exact ⟨rfl, rfl, rfl⟩
        · rw [if_neg (by simp [h])]; exact ⟨rfl, rfl, rfl⟩
theorem chk_ok {l : List Int} {room : Int} (h : chkE l room = 0) : 1 ≤ room ∧ room ≤ 10000 ∧ l.length ≤ 1024 ∧ ∀ n ∈ l, 1 ≤ n ∧ n ≤ room := by
  unfold chkE at h
  split at h
  · cases h
  · split at h
    · cases h
    · split at h
      · cases h
      · rename_i h1 h2 h3
        refine ⟨by omega, by omega, by omega, fun n hn => ?_⟩
        have h3 : l.any (badB room) = false := by simpa using h3
        rw [List.any_eq_false] at h3
        have := h3 n hn
        simp [badB] at this
        omega
/-! ### bits -/
theorem ofInt64 (a : Nat) (ha : a < 18446744073709551616) : (BitVec.ofInt 64 (a : Int)).toNat = a := by
  rw [BitVec.ofInt_natCast, BitVec.toNat_ofNat]; exact Nat.mod_eq_of_lt (by omega)
theorem and_one (a : Nat) (ha : a < 9223372036854775808) : bits .and .i64 (a : Int) 1 = ((a % 2 : Nat) : Int) := by
  show IntKind.i64.wrap ((BitVec.ofInt 64 (a : Int) &&& BitVec.ofInt 64 ((1 : Nat) : Int)).toNat : Int) = _
  rw [BitVec.toNat_and, ofInt64 a (by omega), ofInt64 1 (by omega), Nat.and_one_is_mod]
  exact wrap64 (by omega) (by omega)
theorem bv_sub_bit (x : BitVec 64) (i : Nat) (h : x.getLsbD i = true) : x &&& ~~~(BitVec.twoPow 64 i) = x - BitVec.twoPow 64 i := by
  have h1 : (x &&& ~~~(BitVec.twoPow 64 i)) + BitVec.twoPow 64 i = x := by
    rw [BitVec.add_eq_or_of_and_eq_zero]
    · apply BitVec.eq_of_getLsbD_eq
      intro j hj
      rw [BitVec.getLsbD_or, BitVec.getLsbD_and, BitVec.getLsbD_not, BitVec.getLsbD_twoPow]
      by_cases e : i = j
      · subst e; rw [h]; simp [hj]
      · simp [hj, e]
    · apply BitVec.eq_of_getLsbD_eq
      intro j hj
      rw [BitVec.getLsbD_and, BitVec.getLsbD_and, BitVec.getLsbD_not, BitVec.getLsbD_twoPow]
      by_cases e : i = j
      · subst e; simp [hj]
      · simp [hj, e]
  calc x &&& ~~~(BitVec.twoPow 64 i) = (x &&& ~~~(BitVec.twoPow 64 i)) + BitVec.twoPow 64 i - BitVec.twoPow 64 i := by rw [BitVec.add_sub_cancel]
    _ = x - BitVec.twoPow 64 i := by rw [h1]
theorem andNot_bit (k i : Nat) (hk : k < 9223372036854775808) (hi : i < 63) (h : k / 2 ^ i % 2 = 1) : bits .andNot .i64 (k : Int) ((2 ^ i : Nat) : Int) = ((k - 2 ^ i : Nat) : Int) := by
  have hle : 2 ^ i ≤ k := by
    rcases Nat.lt_or_ge k (2 ^ i) with hlt | hge
    · rw [Nat.div_eq_of_lt hlt] at h; cases h
    · exact hge
  show IntKind.i64.wrap ((BitVec.ofInt 64 (k : Int) &&& ~~~ BitVec.ofInt 64 ((2 ^ i : Nat) : Int)).toNat : Int) = _
  have e1 : BitVec.ofInt 64 ((2 ^ i : Nat) : Int) = BitVec.twoPow 64 i := by
    apply BitVec.eq_of_toNat_eq
    have hp : 2 ^ i < 2 ^ 64 := Nat.pow_lt_pow_right (by decide) (by omega)
    rw [ofInt64 _ (by omega), BitVec.toNat_twoPow]
    exact (Nat.mod_eq_of_lt hp).symm
  have e2 : (BitVec.ofInt 64 (k : Int)).getLsbD i = true := by
    rw [BitVec.getLsbD, ofInt64 k (by omega), Nat.testBit_eq_decide_div_mod_eq]
    simp [h]
  rw [e1, bv_sub_bit _ _ e2, BitVec.toNat_sub, ofInt64 k (by omega), BitVec.toNat_twoPow, Nat.mod_eq_of_lt (show 2 ^ i < 2 ^ 64 from Nat.pow_lt_pow_right (by decide) (by omega))]
  have hp : 2 ^ i < 2 ^ 63 := Nat.pow_lt_pow_right (by decide) hi
  generalize 2 ^ i = p at *
  have : (2 ^ 64 - p + k) % 2 ^ 64 = k - p := by omega
  rw [this]
  exact wrap64 (by omega) (by omega)
def put1 (room x n : Int) : Int := if x.tdiv 10001 = 0 ∨ x.tmod 10001 + n > room then (x.tdiv 10001 + 1) * 10001 + 0 + n else x.tdiv 10001 * 10001 + x.tmod 10001 + n
/-- the best box for a last piece -/
def bestP (room : Int) (T : List Int) (k : Nat) : List Int → Nat → Int → Int
  | [], _, best => best
  | n :: r, i, best => if k / 2 ^ i % 2 = 0 then bestP room T k r (i + 1) best else bestP room T k r (i + 1) (minI best (put1 room (T.getD (k - 2 ^ i) 0) n))
def entryP (l : List Int) (room : Int) (T : List Int) (k : Nat) : Int := if k = 0 then 0 else bestP room T k l 0 (10001 * ((l.length : Int) + 1))
def tabP (l : List Int) (room : Int) : Nat → List Int
  | 0 => []
  | k + 1 => tabP l room k ++ [entryP l room (tabP l room k) k]
theorem tabP_len (l : List Int) (room : Int) : ∀ k, (tabP l room k).length = k
  | 0 => rfl
  | k + 1 => by simp [tabP, tabP_len l room k]
theorem put1_bounds {room x n : Int} (hx : 0 ≤ x ∧ x ≤ 1000000) (hn : 1 ≤ n ∧ n ≤ 10000) : 1 ≤ put1 room x n ∧ put1 room x n ≤ 1100000 := by
  unfold put1
  have h1 : x.tdiv 10001 = x / 10001 := Int.tdiv_eq_ediv_of_nonneg hx.1
  have h2 : x.tmod 10001 = x % 10001 := Int.tmod_eq_emod_of_nonneg hx.1
  rw [h1, h2]
  split <;> omega
theorem bestP_bounds {room : Int} {T : List Int} {k : Nat} (hT : ∀ x ∈ T, 0 ≤ x ∧ x ≤ 1000000) : ∀ (r : List Int) (i : Nat) (best : Int), (∀ n ∈ r, 1 ≤ n ∧ n ≤ 10000) → 0 ≤ best → best ≤ 1000000 → 0 ≤ bestP room T k r i best ∧ bestP room T k r i best ≤ 1000000
  | [], i, best, _, h0, h1 => ⟨h0, h1⟩
  | n :: r, i, best, hr, h0, h1 => by
    unfold bestP
    have hx : 0 ≤ T.getD (k - 2 ^ i) 0 ∧ T.getD (k - 2 ^ i) 0 ≤ 1000000 := by
      rw [List.getD_eq_getElem?_getD]
      cases hq : T[k - 2 ^ i]? with
      | none => exact ⟨Int.le_refl _, by decide⟩
      | some x => exact hT x (List.mem_of_getElem? hq)
    have hp := put1_bounds (room := room) hx (hr n (by simp))
    split
    · exact bestP_bounds hT r _ _ (fun m hm => hr m (by simp [hm])) h0 h1
    · refine bestP_bounds hT r _ _ (fun m hm => hr m (by simp [hm])) ?_ ?_
      · unfold minI; split <;> omega
      · unfold minI; split <;> omega
theorem tabP_bounds {l : List Int} {room : Int} (hl : l.length ≤ 60) (hsz : ∀ n ∈ l, 1 ≤ n ∧ n ≤ 10000) : ∀ k, ∀ x ∈ tabP l room k, 0 ≤ x ∧ x ≤ 1000000
  | 0, x, h => by cases h
  | k + 1, x, h => by
    rcases List.mem_append.1 h with h | h
    · exact tabP_bounds hl hsz k x h
    · simp at h; subst h
      unfold entryP
      split
      · exact ⟨Int.le_refl _, by decide⟩
      · exact bestP_bounds (tabP_bounds hl hsz k) l 0 _ hsz (by omega) (by omega)
def rowsK (l : List Int) (room : Int) (p k : Nat) : List (List AV) := (tabP l room k).map enc ++ List.replicate (p - k) [I 0]
theorem rowsK_at {l : List Int} {room : Int} {p k j : Nat} (h : j < k) : (rowsK l room p k)[j]? = some [I ((tabP l room k).getD j 0)] := by
  have hj : j < (tabP l room k).length := by rw [tabP_len]; exact h
  unfold rowsK
  rw [List.getElem?_append_left (by rw [List.length_map]; exact hj), List.getElem?_map, List.getD_eq_getElem?_getD, List.getElem?_eq_getElem hj]; rfl
theorem rowsK_self {l : List Int} {room : Int} {p k : Nat} (h : k < p) : (rowsK l room p k)[k]? = some [I 0] := by
  unfold rowsK
  rw [List.getElem?_append_right (by rw [List.length_map, tabP_len]; exact Nat.le_refl _), List.length_map, tabP_len, Nat.sub_self, List.getElem?_replicate, if_pos (by omega)]
theorem rowsK_set {l : List Int} {room x : Int} {p k : Nat} (h : k < p) (hx : x = entryP l room (tabP l room k) k) : (rowsK l room p k).set k [I x] = rowsK l room p (k + 1) := by
  subst hx
  unfold rowsK
  rw [List.set_append_right _ _ (by rw [List.length_map, tabP_len]; exact Nat.le_refl _), List.length_map, tabP_len, Nat.sub_self, show p - k = (p - (k + 1)) + 1 by omega, List.replicate_succ, List.set_cons_zero]
  simp [tabP, enc]
theorem rowsK_zero {l : List Int} {room : Int} {p : Nat} (h : 0 < p) : rowsK l room p 0 = rowsK l room p 1 := by
  unfold rowsK
  rw [show p - 0 = (p - 1) + 1 by omega, List.replicate_succ]
  rfl
theorem rowsK_end {l : List Int} {room : Int} {p : Nat} : rowsK l room p p = (tabP l room p).map enc := by
  unfold rowsK; simp
theorem c79 (l : List Int) (room : Int) (hl : l.length ≤ 12) (hsz : ∀ n ∈ l, 1 ≤ n ∧ n ≤ 10000) (hroom : room ≤ 10000) : Fn Tryz.prog 79 [A l, I room] (fA (tabP l room (2 ^ l.length))) := by
  have hpow : 2 ^ l.length ≤ 4096 := Nat.pow_le_pow_right (by decide) hl
  have hpos : 1 ≤ 2 ^ l.length := Nat.one_le_two_pow
  have hx : (1 : Int) * 2 ^ ((l.length : Nat) : Int).toNat = ((2 ^ l.length : Nat) : Int) := by rw [Int.toNat_natCast]; simp
  have hbnd := tabP_bounds (room := room) (by omega : l.length ≤ 60) hsz
  have hbitlt : ∀ k i : Nat, k < 2 ^ l.length → k / 2 ^ i % 2 ≠ 0 → 2 ^ i ≤ k := by
    intro k i _ h
    rcases Nat.lt_or_ge k (2 ^ i) with hlt | hge
    · rw [Nat.div_eq_of_lt hlt] at h; exact absurd rfl h
    · exact hge
  generalize 2 ^ l.length = p at *
  refine mk79 rfl ⟨⟨by omega, by show ((l.length : Nat) : Int) ≤ 64; omega⟩, (p : Int), wrapTo hx (by rw [hx]; omega) (by rw [hx]; omega), ⟨rfl, by omega, by show (8 : Int) * _ ≤ _; omega, by omega⟩, ?_⟩
  refine ⟨fun q c => ∃ k : Nat, k ≤ p ∧ q = p - k ∧ c = ⟨[(0, A l), (1, I room), (4, .nilsl), (5, .osl 240 1 p), (17, I p), (18, I k)], [(240, ⟨3, 1, .pure, rowsK l room p k, []⟩)]⟩, ⟨_, _, Wk.keep [0, 1, 4, 5, 17, 18] [240], 0, by omega, rfl, ?_⟩, ?_⟩
  · rw [Int.toNat_natCast]; rfl
  rintro q c ⟨k, hk, rfl, rfl⟩
  refine ⟨fun h => ?_, fun h => ?_⟩
  · simp at h
    refine ⟨fun h0 => ?_, fun h0 => ?_⟩
    · have h0 : k = 0 := by simp at h0; omega
      subst h0
      refine ⟨(1 : Nat), wrapTo (by omega) (by omega) (by omega), ?_⟩
      exact ⟨_, _, Wk.keep [0, 1, 4, 5, 17, 18] [240], by omega, 1, by omega, rfl, by rw [rowsK_zero (by omega)]; rfl⟩
    · have h0 : k ≠ 0 := by simp at h0; omega
      refine ⟨_, wrap64 (by omega) (by omega), _, wrap64 (by omega) (by omega), ?_⟩
      refine ⟨fun q c => ∃ (i : Nat) (best : Int), i ≤ l.length ∧ q = l.length - i ∧ 0 ≤ best ∧ best ≤ 1000000 ∧ bestP room (tabP l room k) k (l.drop i) i best = entryP l room (tabP l room k) k ∧ c = ⟨[(0, A l), (1, I room), (4, .nilsl), (5, .osl 240 1 p), (6, I k), (7, I best), (17, I p), (18, I k), (27, A l), (28, I l.length), (29, I i)], [(240, ⟨3, 1, .pure, rowsK l room p k, []⟩)]⟩,
        ⟨_, _, Wk.keep [0, 1, 4, 5, 6, 7, 17, 18, 27, 28, 29] [240], 0, 10001 * ((l.length : Int) + 1), by omega, rfl, by omega, by omega, by unfold entryP; rw [if_neg h0]; rfl, rfl⟩, ?_⟩
      rintro q c ⟨i, best, hi, rfl, hb0, hb1, hI, rfl⟩
      refine ⟨fun h1 => ?_, fun h1 => ?_⟩
      · simp at h1
        obtain ⟨n, hn, hd, _⟩ := drop_cons h1
        have hn0 := hsz n (List.mem_of_getElem? hn)
        rw [hd, bestP] at hI
        have hpi : (2 : Nat) ^ i ≤ 4096 := Nat.le_trans (Nat.pow_le_pow_right (by decide) (by omega : i ≤ 12)) (by decide)
        have hpi0 : 1 ≤ (2 : Nat) ^ i := Nat.one_le_two_pow
        have hsh : ((k : Nat) : Int) / 2 ^ ((i : Nat) : Int).toNat = ((k / 2 ^ i : Nat) : Int) := by rw [Int.toNat_natCast]; norm_cast
        have hand : bits .and .i64 (((k : Nat) : Int) / 2 ^ ((i : Nat) : Int).toNat) 1 = ((k / 2 ^ i % 2 : Nat) : Int) := by
          rw [hsh]; exact and_one _ (Nat.lt_of_le_of_lt (Nat.div_le_self _ _) (by omega))
        refine ⟨⟨by omega, by omega⟩, enc n, get_map hn, ⟨by omega, by show ((i : Nat) : Int) ≤ 64; omega⟩, _, hand, fun hz => ?_, fun hz => ?_⟩
        · have hz : k / 2 ^ i % 2 = 0 := by exact_mod_cast (eq_of_beq hz : ((k / 2 ^ i % 2 : Nat) : Int) = 0)
          rw [if_pos hz] at hI
          refine ⟨_, wrap64 (by omega) (by omega), ?_⟩
          exact ⟨_, _, Wk.keep [0, 1, 4, 5, 6, 7, 17, 18, 27, 28, 29] [240], by omega, i + 1, best, by omega, rfl, hb0, hb1, hI, rfl⟩
        · have hz : k / 2 ^ i % 2 ≠ 0 := by
            intro e
            have hz : (((k / 2 ^ i % 2 : Nat) : Int) == 0) = false := hz
            rw [e] at hz; cases hz
          rw [if_neg hz] at hI
          have hk2 := hbitlt k i (by omega) hz
          have hz1 : k / 2 ^ i % 2 = 1 := by omega
          have hshl : (1 : Int) * 2 ^ ((i : Nat) : Int).toNat = ((2 ^ i : Nat) : Int) := by rw [Int.toNat_natCast]; simp
          have hao := andNot_bit k i (by omega) (by omega) hz1
          clear hand hsh hz hz1
          generalize 2 ^ i = b at *
          have hxb : 0 ≤ (tabP l room k).getD (k - b) 0 ∧ (tabP l room k).getD (k - b) 0 ≤ 1000000 := by
            rw [List.getD_eq_getElem?_getD]
            cases hq : (tabP l room k)[k - b]? with
            | none => exact ⟨Int.le_refl _, by decide⟩
            | some x => exact hbnd k x (List.mem_of_getElem? hq)
          have hrow : (rowsK l room p k)[((k - b : Nat) : Int).toNat]? = some [I ((tabP l room k).getD (k - b) 0)] := by rw [Int.toNat_natCast]; exact rowsK_at (by omega)
          have hp1 := put1_bounds (room := room) hxb (show 1 ≤ n ∧ n ≤ 10000 by omega)
          unfold put1 at hI hp1
          generalize (tabP l room k).getD (k - b) 0 = x at *
          have e1 : x.tdiv 10001 = x / 10001 := Int.tdiv_eq_ediv_of_nonneg hxb.1
          have e2 : x.tmod 10001 = x % 10001 := Int.tmod_eq_emod_of_nonneg hxb.1
          refine ⟨⟨by omega, by show ((i : Nat) : Int) ≤ 64; omega⟩, (b : Int), wrapTo hshl (by rw [hshl]; omega) (by rw [hshl]; omega), _, hao, ⟨by omega, by omega⟩, [I x], by exact hrow, by decide, x.tdiv 10001, wrap64 (by omega) (by omega), ⟨by omega, by show ((i : Nat) : Int) ≤ 64; omega⟩, (b : Int), wrapTo hshl (by rw [hshl]; omega) (by rw [hshl]; omega), _, hao, ⟨by omega, by omega⟩, [I x], by exact hrow, by decide, ?_⟩
          by_cases hq : x.tdiv 10001 = 0
          · rw [if_pos (.inl hq)] at hI hp1
            refine ⟨[(2, true)], by show ((x.tdiv 10001 == 0) = true); simp [hq], fun _ => ?_, fun h => (by cases h)⟩
            refine ⟨_, wrap64 (by omega) (by omega), _, wrap64 (by omega) (by omega), _, wrap64 (by omega) (by omega), _, wrap64 (by omega) (by omega), ?_⟩
            refine ⟨_, wrap64 (by omega) (by omega), ?_⟩
            exact ⟨_, _, Wk.keep [0, 1, 4, 5, 6, 7, 17, 18, 27, 28, 29] [240], by omega, i + 1, minI best ((x.tdiv 10001 + 1) * 10001 + 0 + n), by omega, rfl, by unfold minI; split <;> omega, by unfold minI; split <;> omega, hI, rfl⟩
          · refine ⟨[(2, false)], by show ((x.tdiv 10001 == 0) = false); simp [hq], x.tmod 10001 + n, wrap64 (by omega) (by omega), fun h => ?_, fun h => ?_⟩
            · have h : x.tmod 10001 + n > room := by simpa using h
              rw [if_pos (.inr h)] at hI hp1
              refine ⟨_, wrap64 (by omega) (by omega), _, wrap64 (by omega) (by omega), _, wrap64 (by omega) (by omega), _, wrap64 (by omega) (by omega), ?_⟩
              refine ⟨_, wrap64 (by omega) (by omega), ?_⟩
              exact ⟨_, _, Wk.keep [0, 1, 4, 5, 6, 7, 17, 18, 27, 28, 29] [240], by omega, i + 1, minI best ((x.tdiv 10001 + 1) * 10001 + 0 + n), by omega, rfl, by unfold minI; split <;> omega, by unfold minI; split <;> omega, hI, rfl⟩
            · have h : ¬ x.tmod 10001 + n > room := by simpa using h
              rw [if_neg (by rintro (h' | h'); exact hq h'; exact h h')] at hI hp1
              refine ⟨_, wrap64 (by omega) (by omega), _, wrap64 (by omega) (by omega), _, wrap64 (by omega) (by omega), ?_⟩
              refine ⟨_, wrap64 (by omega) (by omega), ?_⟩
              exact ⟨_, _, Wk.keep [0, 1, 4, 5, 6, 7, 17, 18, 27, 28, 29] [240], by omega, i + 1, minI best (x.tdiv 10001 * 10001 + x.tmod 10001 + n), by omega, rfl, by unfold minI; split <;> omega, by unfold minI; split <;> omega, hI, rfl⟩
      · simp at h1
        have hil : i = l.length := by omega
        subst hil
        rw [List.drop_length, bestP] at hI
        refine ⟨⟨by omega, by omega⟩, [I 0], by rw [Int.toNat_natCast]; exact rowsK_self (by omega), ?_⟩
        refine ⟨_, wrap64 (by omega) (by omega), ?_⟩
        refine ⟨_, _, Wk.keep [0, 1, 4, 5, 17, 18] [240], by omega, k + 1, by omega, rfl, ?_⟩
        rw [← rowsK_set (by omega) hI]; rfl
  · simp at h
    have hkp : k = p := by omega
    subst hkp
    rw [rowsK_end]
    exact ⟨rfl, _, rfl, rfl, by rw [List.length_map, tabP_len], .inl ⟨rfl, by show AV.fsl true 3 1 (tabP l room k).length _ = AV.fsl true 3 1 k _; rw [tabP_len]⟩⟩
def fewE (l : List Int) (room : Int) : Int := if chkE l room ≠ 0 then 1 else if l.length > 12 then 8 else 0
theorem c78 (l : List Int) (hl : l.length ≤ 9223372036854775807) (room : Int) : Fn Tryz.prog 78 [A l, I room] (I (fewE l room)) := by
  refine mk78 rfl ⟨_, c113 l hl room, fun h => ?_, fun h => ?_⟩
  · have h : chkE l room ≠ 0 := by simpa using h
    rw [fewE, if_pos h]; exact ⟨rfl, rfl, rfl⟩
  · have h : ¬ chkE l room ≠ 0 := by simpa using h
    rw [fewE, if_neg h]
    refine ⟨fun h => ?_, fun h => ?_⟩
    · have h : l.length > 12 := by simp at h; omega
      rw [if_pos h]; exact ⟨rfl, rfl, rfl⟩
    · have h : ¬ l.length > 12 := by simp at h; omega
      rw [if_neg h]; exact ⟨rfl, rfl, rfl⟩
def tabE (l : List Int) (room : Int) : List Int := tabP l room (2 ^ l.length)
theorem few_ok {l : List Int} {room : Int} (h : fewE l room = 0) : chkE l room = 0 ∧ 1 ≤ room ∧ room ≤ 10000 ∧ l.length ≤ 12 ∧ ∀ n ∈ l, 1 ≤ n ∧ n ≤ room := by
  unfold fewE at h
  split at h
  · cases h
  · split at h
    · cases h
    · rename_i h1 h2
      have h1 : chkE l room = 0 := by omega
      obtain ⟨a, b, c, d⟩ := chk_ok h1
      exact ⟨h1, a, b, by omega, d⟩
/-- what Table answers -/
def tabR (l : List Int) (room : Int) : AV := .tup [if fewE l room ≠ 0 then .nilsl else fA (tabE l room), I (fewE l room)]
theorem c39 (l : List Int) (hl : l.length ≤ 9223372036854775807) (room : Int) : Fn Tryz.prog 39 [A l, I room] (tabR l room) := by
  refine mk39 rfl ⟨_, c78 l hl room, fun h => ?_, fun h => ?_⟩
  · have h : fewE l room ≠ 0 := by simpa using h
    rw [tabR, if_pos h]; exact ⟨_, _, rfl, .inl rfl, rfl, rfl, trivial⟩
  · have h : fewE l room = 0 := by simpa using h
    rw [tabR, if_neg (by omega), h]
    obtain ⟨h1, h2, h3, h4, h5⟩ := few_ok h
    refine ⟨_, c79 l room h4 (fun n hn => by have := h5 n hn; omega) h3, false, ?_⟩
    exact ⟨_, _, rfl, ⟨_, rfl, rfl, by rw [List.length_map, tabP_len], .inl ⟨rfl, rfl⟩⟩, rfl, rfl, trivial⟩
def leastE (l : List Int) (room : Int) : Nat := if fewE l room ≠ 0 then 0 else ((tabE l room).getD (2 ^ l.length - 1) 0).toNat / 10001
theorem c18 (l : List Int) (hl : l.length ≤ 9223372036854775807) (room : Int) : Fn Tryz.prog 18 [A l, I room] (.tup [I (leastE l room), I (fewE l room)]) := by
  refine mk18 rfl ⟨_, c39 l hl room, ?_⟩
  rw [tabR]
  by_cases h : fewE l room ≠ 0
  · rw [if_pos h]
    refine ⟨fun h => ?_, fun h => ?_⟩
    · rw [leastE, if_pos ‹_›]; exact ⟨_, _, rfl, ⟨rfl, rfl⟩, rfl, rfl, trivial⟩
    · simp at h; omega
  · rw [if_neg h]
    refine ⟨true, fun h => ?_, fun h => ?_⟩
    · simp at h; omega
    · have h0 : fewE l room = 0 := by simpa using h
      obtain ⟨h1, h2, h3, h4, h5⟩ := few_ok h0
      have hp : 1 ≤ 2 ^ l.length := Nat.one_le_two_pow
      have hp2 : 2 ^ l.length ≤ 4096 := Nat.pow_le_pow_right (by decide) h4
      have hlen : (tabE l room).length = 2 ^ l.length := tabP_len _ _ _
      have hb := tabP_bounds (room := room) (show l.length ≤ 60 by omega) (fun n hn => by have := h5 n hn; omega) (2 ^ l.length)
      rw [leastE, if_neg (by omega), h0]
      have hb' : 0 ≤ (tabE l room).getD (2 ^ l.length - 1) 0 ∧ (tabE l room).getD (2 ^ l.length - 1) 0 ≤ 1000000 := by
        rw [List.getD_eq_getElem?_getD]
        cases hq : (tabE l room)[2 ^ l.length - 1]? with
        | none => exact ⟨Int.le_refl _, by decide⟩
        | some x => exact hb x (List.mem_of_getElem? hq)
      have hrow : ((tabE l room).map enc)[(((2 ^ l.length - 1 : Nat)) : Int).toNat]? = some [I ((tabE l room).getD (2 ^ l.length - 1) 0)] := by
        rw [Int.toNat_natCast, List.getElem?_map, List.getD_eq_getElem?_getD, List.getElem?_eq_getElem (by omega)]; rfl
      have hn : ((tabE l room).length : Int) - 1 = ((2 ^ l.length - 1 : Nat) : Int) := by rw [hlen]; omega
      generalize (tabE l room).getD (2 ^ l.length - 1) 0 = x at *
      have hx : x.tdiv 10001 = ((x.toNat / 10001 : Nat) : Int) := by rw [Int.tdiv_eq_ediv_of_nonneg hb'.1]; omega
      refine ⟨_, wrapTo hn (by omega) (by omega), ⟨by omega, by show _ < ((tabE l room).length : Int); omega⟩, _, hrow, by decide, _, wrapTo hx (by omega) (by omega), ?_⟩
      exact ⟨_, _, rfl, ⟨rfl, rfl⟩, rfl, rfl, trivial⟩
theorem ex_18 : Fn Tryz.prog 18 [NS [5, 5, 4], I 10] (.tup [I 2, I 0]) := by
  have h := c18 [5, 5, 4] (by decide) 10
  have e1 : leastE [5, 5, 4] 10 = 2 := by decide +kernel
  have e2 : fewE [5, 5, 4] 10 = 0 := by decide
  rw [e1, e2] at h
  exact h
end Go.Abs.Ltop.Pk
end
section
namespace Go.Abs.Ltop.Aw
open Go Go.Abs Go.Proofs
set_option linter.unusedVariables false
set_option maxRecDepth 20000
abbrev encU (u : Us) : List AV := [Zs 5, Zs 6, Zs 6, I u.yr, Zs 6, Zs 6, BS u.bs, SS u.ls, MS u.ms, QS u.qs, I u.seats, KS u.ks, Zs 8, Zs 2, .nilsl, I u.ch]
theorem c57 (u : Us) (hm : MsOK u.ms) (n : Int) (hn : isId n = true) : Fn Tryz.prog 57 [.agg (encU u), I n] (pAV (placeE u.ms n)) :=
  mk57 rfl ⟨_, c16p u.ms hm n hn, rfl, rfl, rfl⟩
theorem c56 (u : Us) (hl : u.bs.length ≤ 100000) (n : Int) : Fn Tryz.prog 56 [.agg (encU u), I n] (I (bxI u.bs n)) :=
  mk56 rfl ⟨_, c82a u.bs (by omega) _ 100 [I n] (fun a _ => c100 a n), rfl, rfl, rfl⟩
theorem c91 (u : Us) (hl : u.ls.length ≤ 100000) (n : Int) : Fn Tryz.prog 91 [.agg (encU u), I n] (I (shI u.ls n)) :=
  mk91 rfl ⟨_, c84a u.ls (by omega) _ 129 [I n] (fun a _ => c129 a n), rfl, rfl, rfl⟩
abbrev CU (u : Us) (i : Int) (R : List (List AV)) : Cfg :=
  ⟨[(1, .ovar 16 0), (2, .ovar 32 0), (79, I u.bs.length), (80, I i)], [(16, ⟨42, 16, .any, [[Zs 5, Zs 6, Zs 6, I u.yr, Zs 6, Zs 6, .osl 1200 5 u.bs.length, SS u.ls, MS u.ms, QS u.qs, I u.seats, KS u.ks, Zs 8, Zs 2, .nilsl, I u.ch]], []⟩), (1200, ⟨56, 5, .flat, R, []⟩), (32, ⟨42, 16, .any, [zU], []⟩)]⟩
set_option maxHeartbeats 4000000 in
theorem c32 (u : Us) (hb : u.bs.length ≤ 1000) (hl : u.ls.length ≤ 1000) (hm : u.ms.length ≤ 2000) (hq : u.qs.length ≤ 2000) (hk : u.ks.length ≤ 2000) (hc : ∀ b ∈ u.bs, b.cont.length ≤ 100000) : Fn Tryz.prog 32 [.agg (encU u)] (.agg (encU u)) := by
  have a58 := c58 [] (by simp)
  have a59 := c59 [] (by simp) (scE (k := 0))
  have a60 := c60 [] (by simp) (scE (k := 0))
  have a61 := c61 [] (by simp) (scE (k := 0))
  have a62 := c62 [] (by simp) (scE (k := 0))
  have a67 := c67 [] (by simp)
  have a68 := c68 [] (by simp) (scE (k := 0))
  have a22 := c22 (u.bs.map encB) (by simp; omega)
  have a7 := c7 (u.ls.map encS) (by simp; omega) (sc4 u.ls)
  have a64 := c64 (u.ms.map rowM) (by simp; omega) (sc6 u.ms)
  have a65 := c65 (u.qs.map encR) (by simp; omega) (sc7 u.qs)
  have a66 := c66 (u.ks.map encK) (by simp; omega) (sc4k u.ks)
  rw [List.length_map] at a22 a7 a64 a65 a66
  refine mkG32 [] [] rfl ⟨_, a58, true, _, a59, true, _, a60, true, _, a61, true, _, a62, true, ?_⟩
  (refine once _ (WkP.refl _ _) ⟨fun h => absurd h (by decide), fun _ => ?_⟩)
  refine ⟨_, a22, false, ?_⟩
  refine ⟨fun n c => ∃ i : Nat, i ≤ u.bs.length ∧ n = u.bs.length - i ∧ c = CU u i (u.bs.map encB), ⟨_, _, WkP.keep [1, 2, 79, 80] [16, 1200, 32], 0, by omega, rfl, rfl⟩, ?_⟩
  rintro n c ⟨i, hi, rfl, rfl⟩
  refine ⟨fun hlt => ?_, fun hlt => ?_⟩
  · simp at hlt
    obtain ⟨b, hbb, _, _⟩ := drop_cons hlt
    have a63 := c63 (b.cont.map encC) (by have := hc b (List.mem_of_getElem? hbb); simpa using this) (sc2 b.cont)
    rw [List.length_map] at a63
    have hrow : (u.bs.map encB)[i]? = some (encB b) := by rw [List.getElem?_map, hbb]; rfl
    have hset : (u.bs.map encB).set i (encB b) = u.bs.map encB := by
      refine List.ext_getElem? fun j => ?_
      rw [List.getElem?_set]
      split
      · rename_i h; subst h; rw [if_pos (by simpa using hlt), hrow]
      · rfl
    refine ⟨⟨by omega, by omega⟩, encB b, hrow, _, a63, true, ⟨by omega, by omega⟩, encB b, hrow, ?_⟩
    refine ⟨_, wrap64 (by omega) (by omega), ?_⟩
    refine ⟨_, _, WkP.keep [1, 2, 79, 80] [16, 1200, 32], by omega, i + 1, by omega, rfl, ?_⟩
    exact Eq.trans (b := CU u ((i + 1 : Nat) : Int) ((u.bs.map encB).set i (encB b))) rfl (congrArg (CU u ((i + 1 : Nat) : Int)) hset)
  · refine ⟨_, a7, true, _, a64, true, _, a65, true, _, a66, true, _, a67, true, _, a68, true, _, c69z, ?_⟩
    (refine once _ (WkP.refl _ _) ⟨fun h => absurd h (by decide), fun _ => ?_⟩)
    refine ⟨_, WkP.frz 1200 ⟨56, 5, .flat, u.bs.map encB, []⟩ rfl rfl, rfl, rfl, ?_⟩
    have ht : (u.bs.map encB).take u.bs.length = u.bs.map encB := List.take_of_length_le (by simp)
    show AV.agg _ = AV.agg [Zs 5, Zs 6, Zs 6, I u.yr, Zs 6, Zs 6, .rsl 5 u.bs.length ((u.bs.map encB).take u.bs.length), SS u.ls, MS u.ms, QS u.qs, I u.seats, KS u.ks, Zs 8, Zs 2, .nilsl, I u.ch]
    rw [ht]
abbrev encD (u : Us) (rw : AV) (e : Ev) : List AV :=
  [Zs 5, Zs 6, Zs 6, I u.yr, Zs 6, Zs 6, BS u.bs, SS u.ls, MS u.ms, QS u.qs, I u.seats, KS u.ks, Zs 8, Zs 2, .nilsl, I u.ch, rw, I e.id, I e.day, I e.kind, NS e.nums, Zs 1]
abbrev OD (u : Us) (rw : AV) (e : Ev) : List (Nat × OBlk) := [(18, ⟨142, 22, .any, [encD u rw e], []⟩)]
theorem p18 (u : Us) (rw : AV) (e : Ev) : ∀ b, memN b [18] = true → Nat.ble 2 (b % 16) = true ∧ (olk (OD u rw e) b).isSome = true := by
  intro b hb
  have : b = 18 := by simpa [memN_iff] using hb
  subst this; exact ⟨rfl, rfl⟩
theorem c292a (u : Us) (n : Nat) (rows : List (List AV)) (e : Ev) (ms : List Mv) : FnG Tryz.prog 292 [.ovar 18 8, MS ms, I 0] (OD u (.rsl 3 n rows) e) [18] (OD { u with ms := ms } (.rsl 3 n rows) e) (I 0) :=
  mkN292 [] [] rfl (p18 _ _ _) ⟨fun _ => ⟨_, WkP.keep [6] [18], rfl, rfl, rfl⟩, fun h => (by cases h)⟩
theorem c292b (u : Us) (n : Nat) (rows : List (List AV)) (e : Ev) (x : Int) (hx : x ≠ 0) : FnG Tryz.prog 292 [.ovar 18 8, .nilsl, I x] (OD u (.rsl 3 n rows) e) [18] (OD u (.rsl 3 n rows) e) (I x) :=
  mkN292 [] [] rfl (p18 _ _ _) ⟨fun h => absurd (by simpa using h) hx, fun _ => ⟨_, WkP.keep [6] [18], rfl, rfl, rfl⟩⟩
theorem c219 (u : Us) (n : Nat) (rows : List (List AV)) (e : Ev) (hm : MsOK u.ms) (b : Int) (hb : isId b = true) : Fn Tryz.prog 219 [.rptr (encD u (.rsl 3 n rows) e) 0, I b] (B ((placeE u.ms b).1 == 3)) :=
  mk219 rfl ⟨_, c57 u hm b hb, rfl, rfl, rfl⟩
theorem c224 (u : Us) (n : Nat) (rows : List (List AV)) (e : Ev) (hm : MsOK u.ms) (hb : u.bs.length ≤ 1000) (hi : ∀ b ∈ u.bs, isId b.id = true ∧ 0 ≤ b.width ∧ b.width ≤ 10000) (s : Sh) (b : Bx) (hw : 0 ≤ b.width ∧ b.width ≤ 10000) :
    Fn Tryz.prog 224 [.rptr (encD u (.rsl 3 n rows) e) 0, .agg (encS s), .agg (encB b)] (I (holdE u.ms s b u.bs)) := by
  refine mk224 rfl ⟨fun hc => ?_, fun hc => ?_⟩
  · have hc : s.clim ≠ b.clim := by simpa using hc
    unfold holdE; rw [if_pos hc]
    exact ⟨rfl, rfl, rfl⟩
  · have hc : s.clim = b.clim := by simpa using hc
    unfold holdE; rw [if_neg (by simp [hc])]
    refine ⟨fun m c => ∃ (i : Nat) (t : Int), i ≤ u.bs.length ∧ m = u.bs.length - i ∧ 0 ≤ t ∧ t ≤ 10000 * (i + 1) ∧ t + hsum u.ms b.id s.id (u.bs.drop i) = b.width + hsum u.ms b.id s.id u.bs ∧
      c = ⟨[(0, .rptr (encD u (.rsl 3 n rows) e) 0), (4, .ovar 64 0), (5, .ovar 80 0), (6, I 0), (7, I t), (21, BS u.bs), (22, I u.bs.length), (23, I i)], [(64, ⟨48, 4, .any, [encS s], []⟩), (80, ⟨56, 5, .any, [encB b], []⟩)]⟩,
      ⟨_, _, Wk.keep [0, 4, 5, 6, 7, 21, 22, 23] [64, 80], 0, b.width, by omega, rfl, by omega, by omega, by simp, rfl⟩, ?_⟩
    rintro m c ⟨i, t, hil, rfl, ht0, ht1, hI, rfl⟩
    refine ⟨fun hlt => ?_, fun hlt => ?_⟩
    · simp at hlt
      obtain ⟨x, hx, hd, _⟩ := drop_cons hlt
      obtain ⟨hid, hw0, hw1⟩ := hi x (List.mem_of_getElem? hx)
      rw [hd, hsum] at hI
      refine ⟨⟨by omega, by omega⟩, encB x, by simp [hx], ?_⟩
      by_cases hne : x.id = b.id
      · rw [if_neg (by simp [hne])] at hI
        refine ⟨[(5, false)], by simp [hne], fun h => (by cases h), fun _ => ?_⟩
        refine ⟨_, wrap64 (by omega) (by omega), ?_⟩
        exact ⟨_, _, Wk.keep [0, 4, 5, 6, 7, 21, 22, 23] [64, 80], by omega, i + 1, t, by omega, rfl, by omega, by omega, by omega, rfl⟩
      · have c57' := c57 u hm x.id hid
        by_cases hp : placeE u.ms x.id = (1, s.id)
        · rw [if_pos ⟨hne, hp⟩] at hI
          rw [hp] at c57'
          refine ⟨[(5, true)], by simpa using hne, _, c57', fun _ => ?_, fun h => ?_⟩
          · refine ⟨_, wrap64 (by omega) (by omega), _, wrap64 (by omega) (by omega), ?_⟩
            exact ⟨_, _, Wk.keep [0, 4, 5, 6, 7, 21, 22, 23] [64, 80], by omega, i + 1, t + x.width, by omega, rfl, by omega, by omega, by omega, rfl⟩
          · exact (no (p := False) (b := ((1 : Int) == 1 && ((s.id == s.id) && true))) (by simp) h).elim
        · rw [if_neg (by simp [hp])] at hI
          refine ⟨[(5, true)], by simpa using hne, _, c57', fun h => ?_, fun _ => ?_⟩
          · exfalso
            apply hp
            have h : ((placeE u.ms x.id).1 == 1 && ((placeE u.ms x.id).2 == s.id && true)) = true := h
            simp at h
            exact Prod.ext h.1 h.2
          · refine ⟨_, wrap64 (by omega) (by omega), ?_⟩
            exact ⟨_, _, Wk.keep [0, 4, 5, 6, 7, 21, 22, 23] [64, 80], by omega, i + 1, t, by omega, rfl, by omega, by omega, by omega, rfl⟩
    · simp at hlt
      have : i = u.bs.length := by omega
      subst this
      simp only [List.drop_length, hsum, Int.add_zero] at hI
      subst hI
      refine ⟨fun h => ?_, fun h => ?_⟩
      · rw [if_pos (of_decide_eq_true h)]; exact ⟨rfl, rfl, rfl⟩
      · rw [if_neg (of_decide_eq_false h)]; exact ⟨rfl, rfl, rfl⟩
theorem c225 (u : Us) (n : Nat) (rows : List (List AV)) (e : Ev) (hm : MsOK u.ms) (b : Int) (hb : isId b = true) (k o : Int) :
    FnG Tryz.prog 225 [.ovar 18 0, I b, pAV (k, o)] (OD u (.rsl 3 n rows) e) [18] (OD (carU u (mvAt u e b k o)) (.rsl 3 n rows) e) (I (appE u.ms (mvAt u e b k o))) := by
  have a57 := c57 u hm b hb
  have a291 := c291 u.ms hm (mvAt u e b k o)
  unfold appR at a291
  by_cases h : appE u.ms (mvAt u e b k o) = 0
  · have hu : carU u (mvAt u e b k o) = { u with ms := u.ms ++ [mvAt u e b k o] } := by unfold carU; rw [if_pos h]
    rw [hu, h]
    rw [if_pos h, h] at a291
    exact mkN225 [(2, [6])] [] rfl (p18 _ _ _) ⟨_, a57, _, a291, true, _, WkP.keep [35, 36, 37] [18], _, I 0, [18], (c292a u n rows e (u.ms ++ [mvAt u e b k o])).as (by rfl) (by rfl) (by rfl), rfl, _, WkP.keep [6] [18], rfl, rfl, rfl⟩
  · have hu : carU u (mvAt u e b k o) = u := by unfold carU; rw [if_neg h]
    rw [hu]
    rw [if_neg h] at a291
    exact mkN225 [(2, [6])] [] rfl (p18 _ _ _) ⟨_, a57, _, a291, _, WkP.keep [35, 36, 37] [18], _, I (appE u.ms (mvAt u e b k o)), [18], (c292b u n rows e _ h).as (by rfl) (by rfl) (by rfl), rfl, _, WkP.keep [6] [18], rfl, rfl, rfl⟩
theorem c143 (u : Us) (n : Nat) (rows : List (List AV)) (id day kd : Int) (hm : MsOK u.ms) (hb : u.bs.length ≤ 1000) (hl : u.ls.length ≤ 1000) (hi : ∀ b ∈ u.bs, isId b.id = true ∧ 0 ≤ b.width ∧ b.width ≤ 10000) (i k : Nat) (b : Bx) (s : Sh)
    (hbi : u.bs[i]? = some b) (hsk : u.ls[k]? = some s) (hbx : bxI u.bs b.id = i) (hsh : shI u.ls s.id = k) (h3 : (placeE u.ms b.id).1 ≠ 3) :
    FnG Tryz.prog 143 [.ovar 18 0] (OD u (.rsl 3 n rows) ⟨id, day, kd, [b.id, 1, s.id]⟩) [18] (OD (movU u ⟨id, day, kd, [b.id, 1, s.id]⟩ s b) (.rsl 3 n rows) ⟨id, day, kd, [b.id, 1, s.id]⟩) (I (movE u ⟨id, day, kd, [b.id, 1, s.id]⟩ s b)) := by
  obtain ⟨hid, hw0, hw1⟩ := hi b (List.mem_of_getElem? hbi)
  have a56 := c56 u (by omega) b.id
  have a91 := c91 u (by omega) s.id
  rw [hbx] at a56
  rw [hsh] at a91
  have a219 := c219 u n rows ⟨id, day, kd, [b.id, 1, s.id]⟩ hm b.id hid
  have e3 : ((placeE u.ms b.id).1 == 3) = false := by simpa using h3
  rw [e3] at a219
  have a224 := c224 u n rows ⟨id, day, kd, [b.id, 1, s.id]⟩ hm hb hi s b ⟨hw0, hw1⟩
  have a225 := c225 u n rows ⟨id, day, kd, [b.id, 1, s.id]⟩ hm b.id hid 1 s.id
  have g1 : decide ((i : Int) < 0) = false := decide_eq_false (by omega)
  have g2 : decide ((k : Int) < 0) = false := decide_eq_false (by omega)
  have hbr : (u.bs.map encB)[((i : Int)).toNat]? = some (encB b) := by rw [Int.toNat_natCast, List.getElem?_map, hbi]; rfl
  have hsr : (u.ls.map encS)[((k : Int)).toNat]? = some (encS s) := by rw [Int.toNat_natCast, List.getElem?_map, hsk]; rfl
  have hil := (List.getElem?_eq_some_iff.1 hbi).1
  have hkl := (List.getElem?_eq_some_iff.1 hsk).1
  refine mkN143 [(12, [4, 5, 6])] [] rfl (p18 _ _ _) ⟨⟨by decide, by simp⟩, [I 1], rfl, ⟨by decide, by simp⟩, [I s.id], rfl, ⟨by decide, by simp⟩, [I b.id], rfl, _, a56, _, a91, [(2, false), (6, true)], g1, rfl, fun h => ?_, fun _ => ?_⟩
  · exact absurd h (by simp)
  refine ⟨[(5, false)], ⟨by decide, by simp⟩, [I b.id], rfl, _, a219, rfl, fun h => (by cases h), fun _ => ⟨fun _ => ?_, fun h => (by cases h)⟩⟩
  refine ⟨⟨by omega, by omega⟩, encS s, hsr, ⟨by omega, by omega⟩, encB b, hbr, _, a224, fun h0 => ?_, fun h0 => ?_⟩
  · have h0 : holdE u.ms s b u.bs ≠ 0 := by simpa using h0
    have e1 : movE u ⟨id, day, kd, [b.id, 1, s.id]⟩ s b = holdE u.ms s b u.bs := by unfold movE; rw [if_pos h0]
    have e2 : movU u ⟨id, day, kd, [b.id, 1, s.id]⟩ s b = u := by unfold movU; rw [e1, if_neg h0]
    rw [e1, e2]
    exact ⟨_, WkP.keep [2] [18], rfl, rfl, rfl⟩
  · have h0 : holdE u.ms s b u.bs = 0 := by simpa using h0
    have e1 : movE u ⟨id, day, kd, [b.id, 1, s.id]⟩ s b = appE u.ms (mvAt u ⟨id, day, kd, [b.id, 1, s.id]⟩ b.id 1 s.id) := by unfold movE; rw [if_neg (by simp [h0])]
    have e2 : movU u ⟨id, day, kd, [b.id, 1, s.id]⟩ s b = carU u (mvAt u ⟨id, day, kd, [b.id, 1, s.id]⟩ b.id 1 s.id) := by unfold movU carU; rw [e1]
    rw [e1, e2]
    refine ⟨rfl, ⟨by decide, by simp⟩, [I b.id], rfl, _, WkP.keep [82, 85, 86] [18], _, I (appE u.ms (mvAt u ⟨id, day, kd, [b.id, 1, s.id]⟩ b.id 1 s.id)), [18], a225.as (by rfl) (by rfl) (by rfl), rfl, ?_⟩
    exact ⟨_, WkP.keep [2] [18], rfl, rfl, rfl⟩
end Go.Abs.Ltop.Aw
end
section
namespace Go.Abs.Ltop.Aw
open Go Go.Abs Go.Proofs
set_option linter.unusedVariables false
set_option maxRecDepth 20000
/-! ### a first booking -/
theorem c188 (n : Int) : Fn Tryz.prog 188 [I n] (B (isId n)) := mk188 rfl ⟨[], rfl, rfl, rfl⟩
def spanB (a b : Int) : Bool := decide (a ≥ 0) && decide (a < b) && decide (b ≤ 1048576)
theorem c189 (a b : Int) : Fn Tryz.prog 189 [.agg [I a, I b]] (B (spanB a b)) := mk189 rfl ⟨[], rfl, rfl, rfl⟩
theorem c232z (g : FuncId) (xs ys : List AV) : Fn Tryz.prog 232 [Zs 4, .func g [.rptr xs 0, .rptr ys 0]] (B false) := by
  have := c294b [] (by decide) (fun _ => false) g xs ys (fun a h => by cases h)
  exact mk232 rfl ⟨_, this, rfl, rfl, rfl⟩
theorem c190z (n a b : Int) : Fn Tryz.prog 190 [Zs 4, I n, .agg [I a, I b]] (B false) := mk190 rfl ⟨_, c232z 265 [I n] [I a, I b], rfl, rfl, rfl⟩
theorem c330 : Fn Tryz.prog 330 [.int .u64 1] (I 1) := by
  refine mk330 rfl ⟨fun h => (by cases h), fun _ => ⟨fun h => (by cases h), fun _ => ⟨fun h => (by cases h), fun _ => ?_⟩⟩⟩
  refine ⟨1, rfl, 1, ⟨by decide, by decide, rfl⟩, 1, rfl, 1, rfl, rfl, rfl, rfl⟩
theorem c276 : Fn Tryz.prog 276 [.int .u64 1] (I 1) := mk276 rfl ⟨fun h => (by cases h), fun _ => ⟨_, c330, rfl, rfl, rfl⟩⟩
theorem c331 (l : List Int) (n : Int) : Fn Tryz.prog 331 [.rsl 1 1 [[I n]], I 0, I 1] (.tup []) := by
  refine mk331 rfl ⟨1, rfl, ?_⟩
  refine once _ (Wk.refl _) ⟨fun h => absurd h (by decide), fun _ => ?_⟩
  exact rfl
theorem c279 (n : Int) : Fn Tryz.prog 279 [.rsl 1 1 [[I n]], I 0, I 1, I 1] (.tup []) := by
  refine mk279 rfl ?_
  refine once _ (Wk.refl _) ⟨1, rfl, fun _ => ⟨_, c331 [] n, rfl⟩, fun h => (by cases h)⟩
theorem c203 (n : Int) : Fn Tryz.prog 203 [.rsl 1 1 [[I n]]] (.tup []) := mk203 rfl ⟨1, rfl, _, c276, _, c279 n, rfl⟩
theorem c317 (n : Int) : Fn Tryz.prog 317 [.rsl 1 1 [[I n]]] (.rsl 1 1 [[I n]]) := mk317 rfl ⟨fun _ => ⟨rfl, rfl, rfl⟩, fun h => (by cases h)⟩
theorem c267 (a b : Int) : Fn Tryz.prog 267 [Zs 4, .agg [I a, I b]] (.rsl 1 1 [[I a]]) := by
  refine mk267 rfl ?_
  (refine once _ (Wk.refl _) ⟨fun h => absurd h (by decide), fun _ => ?_⟩)
  exact ⟨_, c203 a, _, c317 a, rfl, rfl, rfl⟩
theorem c269 (d : Int) : Fn Tryz.prog 269 [Zs 4, I d] (I 0) := by
  refine mk269 rfl ?_
  (refine once _ (Wk.refl _) ⟨fun h => absurd h (by decide), fun _ => ?_⟩)
  exact ⟨rfl, rfl, rfl⟩
theorem c268 (d s : Int) (h : 1 ≤ s) : Fn Tryz.prog 268 [I d, .rptr [Zs 4] 0, .rptr [I s] 0] (B false) := by
  refine mk268 rfl ⟨_, c269 d, rfl, rfl, ?_⟩
  show AV.bool false = AV.bool (decide ((0 : Int) ≥ s))
  rw [decide_eq_false (by omega)]
theorem c192b (l : List Int) (hl : l.length ≤ 9223372036854775807) (p : Int → Bool) (g : FuncId) (xs ys : List AV) (hp : ∀ a ∈ l, Fn Tryz.prog g [I a, .rptr xs 0, .rptr ys 0] (B (p a))) : Fn Tryz.prog 192 [NS l, .func g [.rptr xs 0, .rptr ys 0]] (I (idxF p 0 l)) := by
  refine mk192 rfl ?_
  refine ⟨fun n c => ∃ i : Nat, i ≤ l.length ∧ n = l.length - i ∧ c = ⟨[(0, NS l), (1, .func g [.rptr xs 0, .rptr ys 0]), (4, I 0), (7, I l.length), (8, I i)], []⟩ ∧ idxF p i (l.drop i) = idxF p 0 l, ⟨_, _, Wk.keep [0, 1, 4, 7, 8] [], 0, by omega, rfl, rfl, by simp⟩, ?_⟩
  rintro n c ⟨i, hi, rfl, rfl, hI⟩
  refine ⟨fun h => ?_, fun h => ?_⟩
  · simp at h
    obtain ⟨a, ha, hd, _⟩ := drop_cons h
    rw [hd, idxF] at hI
    refine ⟨⟨by omega, by omega⟩, [I a], by simp [ha], _, hp a (List.mem_of_getElem? ha), fun hf => ?_, fun hf => ?_⟩
    · rw [if_pos hf] at hI
      exact ⟨rfl, rfl, by rw [← hI]; rfl⟩
    · rw [if_neg (by simp [hf])] at hI
      refine ⟨_, wrap64 (by omega) (by omega), ?_⟩
      exact ⟨_, _, Wk.keep [0, 1, 4, 7, 8] [], by omega, i + 1, by omega, rfl, rfl, hI⟩
  · simp at h
    have : i = l.length := by omega
    subst this
    simp [idxF] at hI
    exact ⟨rfl, rfl, by rw [← hI]; rfl⟩
theorem c123b (l : List Int) (hl : l.length ≤ 9223372036854775807) (p : Int → Bool) (g : FuncId) (xs ys : List AV) (hp : ∀ a ∈ l, Fn Tryz.prog g [I a, .rptr xs 0, .rptr ys 0] (B (p a))) : Fn Tryz.prog 123 [NS l, .func g [.rptr xs 0, .rptr ys 0]] (B (l.any p)) :=
  mk123 rfl ⟨_, c192b l hl p g xs ys hp, rfl, rfl, by rw [← idxF_any]; rfl⟩
theorem c191 (a b s : Int) (h : 1 ≤ s) : Fn Tryz.prog 191 [Zs 4, .agg [I a, I b], I s] (B false) :=
  mk191 rfl ⟨_, c267 a b, _, c123b [a] (by simp) (fun _ => false) 268 [Zs 4] [I s] (fun x _ => c268 x s h), rfl, rfl, rfl⟩
/-- a first booking is right -/
theorem c120 (s id rd a b : Int) (h : 1 ≤ s) (hid : isId id = true) (hrd : isId rd = true) (hsp : spanB a b = true) : Fn Tryz.prog 120 [I s, Zs 4, .agg [I id, I rd, I a, I b]] (I 0) := by
  have a1 := c188 id
  have a2 := c188 rd
  have a3 := c189 a b
  rw [hid] at a1; rw [hrd] at a2; rw [hsp] at a3
  refine mk120 rfl ⟨[(4, false), (10, false)], _, a1, rfl, _, a2, rfl, _, a3, fun h => (by cases h), fun _ => ⟨[(3, false)], rfl, fun h => (by cases h), fun _ => ⟨_, c190z rd a b, fun h => (by cases h), fun _ => ⟨_, c191 a b s h, fun h => (by cases h), fun _ => ⟨rfl, rfl, rfl⟩⟩⟩⟩⟩
theorem c236 (s id rd a b : Int) (h : 1 ≤ s) (h32 : s ≤ 32) (hid : isId id = true) (hrd : isId rd = true) (hsp : spanB a b = true) : Fn Tryz.prog 236 [I s, Zs 4, .agg [I id, I rd, I a, I b]] (.tup [.fsl true 171 4 1 [[I id, I rd, I a, I b]], I 0]) := by
  have a66 := c66 [] (by simp) (fun _ h => by cases h)
  refine mk236 rfl ⟨_, c87 s h h32, fun h => (by cases h), fun _ => ⟨fun h => (by cases h), fun _ => ⟨_, c120 s id rd a b h hid hrd hsp, fun h => (by cases h), fun _ => ⟨_, a66, false, ?_⟩⟩⟩⟩
  refine ⟨by decide, ?_⟩
  exact ⟨_, _, rfl, ⟨_, rfl, rfl, rfl, .inl ⟨rfl, rfl⟩⟩, rfl, rfl, trivial⟩
theorem c204 (u : Us) (n : Nat) (rows : List (List AV)) (e : Ev) (d : Int) : Fn Tryz.prog 204 [.rptr (encD u (.rsl 3 n rows) e) 0, I d] (B (decide (d < e.day))) := mk204 rfl ⟨rfl, rfl, rfl⟩
theorem c237a (u : Us) (n : Nat) (rows : List (List AV)) (e : Ev) (ks : List Bk) : FnG Tryz.prog 237 [.ovar 18 11, KS ks, I 0] (OD u (.rsl 3 n rows) e) [18] (OD { u with ks := ks } (.rsl 3 n rows) e) (I 0) :=
  mkN237 [] [] rfl (p18 _ _ _) ⟨fun _ => ⟨_, WkP.keep [6] [18], rfl, rfl, rfl⟩, fun h => (by cases h)⟩
theorem c147 (u : Us) (n : Nat) (rows : List (List AV)) (eid kd : Int) (id rd a b : Int) (hk : u.ks = []) (h : 1 ≤ u.seats) (h32 : u.seats ≤ 32) (hid : isId id = true) (hrd : isId rd = true) (hsp : spanB a b = true) (ha : 0 ≤ a) :
    FnG Tryz.prog 147 [.ovar 18 0] (OD u (.rsl 3 n rows) ⟨eid, 0, kd, [id, rd, a, b]⟩) [18] (OD { u with ks := [⟨id, rd, a, b⟩] } (.rsl 3 n rows) ⟨eid, 0, kd, [id, rd, a, b]⟩) (I 0) := by
  obtain ⟨yr, bs, ls, ms, qs, seats, ks, ch⟩ := u
  simp only at hk h h32
  subst hk
  have a204 := c204 ⟨yr, bs, ls, ms, qs, seats, [], ch⟩ n rows ⟨eid, 0, kd, [id, rd, a, b]⟩ a
  rw [show decide (a < 0) = false from decide_eq_false (by omega)] at a204
  have a236 := c236 seats id rd a b h h32 hid hrd hsp
  refine mkN147 [(5, [6])] [] rfl (p18 _ _ _) ⟨⟨by decide, by simp⟩, [I a], rfl, _, a204, fun h => (by cases h), fun _ => ?_⟩
  refine ⟨⟨by decide, by simp⟩, [I id], rfl, ⟨by decide, by simp⟩, [I rd], rfl, ⟨by decide, by simp⟩, [I a], rfl, ⟨by decide, by simp⟩, [I b], rfl, _, a236, true, ?_⟩
  refine ⟨_, WkP.keep [44, 45, 46, 47, 48, 49, 4, 5] [18], _, I 0, [18], (c237a ⟨yr, bs, ls, ms, qs, seats, [], ch⟩ n rows ⟨eid, 0, kd, [id, rd, a, b]⟩ [⟨id, rd, a, b⟩]).as (by rfl) (by rfl) (by rfl), rfl, ?_⟩
  exact ⟨_, WkP.keep [2] [18], rfl, rfl, rfl⟩
end Go.Abs.Ltop.Aw
end
section
namespace Go.Abs
open Go.RowKit
set_option linter.unusedVariables false
theorem Imp.rsl {sz n : Nat} {rows rows' : List (List AV)} (hr : ∀ row ∈ rows, row.length = sz) (hl : rows'.length = rows.length) (hs : ∀ row ∈ rows', row.length = sz) (hi : ∀ (j : Nat) u', rows'.flatten[j]? = some u' → ∃ u, rows.flatten[j]? = some u ∧ Imp u u') : Imp (.rsl sz n rows) (.rsl sz n rows') := by
  intro w X K v h
  have hfl : ∀ (l : List (List AV)), (∀ row ∈ l, row.length = sz) → l.flatten.length = l.length * sz := by
    intro l
    induction l with
    | nil => simp
    | cons a l ih => intro h; rw [List.flatten_cons, List.length_append, h a (by simp), ih (fun r q => h r (by simp [q])), List.length_cons, Nat.succ_mul]; omega
  cases h with
  | rsl h1 h2 h3 h4 h5 h6 h7 h8 =>
    refine .rsl (h1.trans hl.symm) hs h3 h4 (by rw [h5, hfl _ hr, hfl _ hs, hl]) h6 (fun hne => h7 (by rintro rfl; exact hne (List.length_eq_zero_iff.1 hl))) fun j u' c hu hc => ?_
    obtain ⟨u, hu0, hi0⟩ := hi j u' hu
    exact hi0 _ _ _ _ (h8 j u c hu0 hc)
end Go.Abs
namespace Go.Abs.Ltop.Aw
open Go Go.Abs Go.Proofs
set_option linter.unusedVariables false
set_option maxRecDepth 20000
/-! ### a first box -/
abbrev encU1 (yr st : Int) : List AV := [Zs 5, Zs 6, Zs 6, I yr, Zs 6, Zs 6, .nilsl, .nilsl, Zs 6, Zs 7, I st, Zs 4, Zs 8, Zs 2, .nilsl, I 0]
abbrev rw1 (b : Bx) : List AV := [I b.id, I b.width, I b.room, I b.clim, .nilsl]
abbrev encU1' (yr st : Int) (b : Bx) : List AV := [Zs 5, Zs 6, Zs 6, I yr, Zs 6, Zs 6, .rsl 5 1 [rw1 b], .nilsl, Zs 6, Zs 7, I st, Zs 4, Zs 8, Zs 2, .nilsl, I 0]
set_option maxHeartbeats 4000000 in
theorem c32a (yr st : Int) : Fn Tryz.prog 32 [.agg (encU1 yr st)] (.agg (encU1 yr st)) := by
  have a58 := c58 [] (by simp)
  have a59 := c59 [] (by simp) (scE (k := 0))
  have a60 := c60 [] (by simp) (scE (k := 0))
  have a61 := c61 [] (by simp) (scE (k := 0))
  have a62 := c62 [] (by simp) (scE (k := 0))
  have a67 := c67 [] (by simp)
  have a68 := c68 [] (by simp) (scE (k := 0))
  have a64 := c64 [] (by simp) (scE (k := 0))
  have a65 := c65 [] (by simp) (scE (k := 0))
  have a66 := c66 [] (by simp) (scE (k := 0))
  refine mkG32 [] [] rfl ⟨_, a58, true, _, a59, true, _, a60, true, _, a61, true, _, a62, true, ?_⟩
  refine once ⟨[(1, .ovar 16 0), (2, .ovar 32 0), (52, I 0), (53, I 0)], [(16, ⟨42, 16, .any, [encU1 yr st], []⟩), (32, ⟨42, 16, .any, [zU], []⟩)]⟩ (WkP.keep [1, 2, 52, 53] [16, 32]) ⟨fun h => absurd h (by decide), fun _ => ?_⟩
  refine ⟨_, c22z, ?_⟩
  refine once ⟨[(1, .ovar 16 0), (2, .ovar 32 0), (79, I 0), (80, I 0)], [(16, ⟨42, 16, .any, [encU1 yr st], []⟩), (32, ⟨42, 16, .any, [zU], []⟩)]⟩ (WkP.keep [1, 2, 79, 80] [16, 32]) ⟨fun h => absurd h (by decide), fun _ => ?_⟩
  refine ⟨_, c7z, _, a64, true, _, a65, true, _, a66, true, _, a67, true, _, a68, true, _, c69z, ?_⟩
  refine once ⟨[(1, .ovar 16 0), (2, .ovar 32 0), (126, I 0), (127, I 0)], [(16, ⟨42, 16, .any, [encU1 yr st], []⟩), (32, ⟨42, 16, .any, [zU], []⟩)]⟩ (WkP.keep [1, 2, 126, 127] [16, 32]) ⟨fun h => absurd h (by decide), fun _ => ?_⟩
  exact ⟨_, WkP.refl _ _, rfl, rfl, rfl⟩
abbrev encD1 (us : List AV) (rw : AV) (e : Ev) : List AV := us ++ [rw, I e.id, I e.day, I e.kind, NS e.nums, Zs 1]
abbrev OD1 (us : List AV) (rw : AV) (e : Ev) : List (Nat × OBlk) := [(18, ⟨142, 22, .any, [encD1 us rw e], []⟩)]
theorem p18a (us : List AV) (rw : AV) (e : Ev) : ∀ b, memN b [18] = true → Nat.ble 2 (b % 16) = true ∧ (olk (OD1 us rw e) b).isSome = true := by
  intro b hb
  have : b = 18 := by simpa [memN_iff] using hb
  subst this; exact ⟨rfl, rfl⟩
theorem c218a (yr st : Int) (n : Nat) (rows : List (List AV)) (e : Ev) (b : Bx) : FnG Tryz.prog 218 [.ovar 18 6, .rsl 5 1 [rw1 b], I 0] (OD1 (encU1 yr st) (.rsl 3 n rows) e) [18] (OD1 (encU1' yr st b) (.rsl 3 n rows) e) (I 0) :=
  mkN218 [] [] rfl (p18a _ _ _) ⟨fun _ => ⟨_, WkP.keep [6] [18], rfl, rfl, rfl⟩, fun h => (by cases h)⟩
theorem imp_rw1 (b : Bx) (hb : b.cont = []) : Imp (.rsl 5 1 [rw1 b]) (BS [b]) := by
  obtain ⟨id, w, r, c, cont⟩ := b
  simp only at hb
  subst hb
  refine Imp.rsl (by simp [rw1]) rfl (by simp [encB]) ?_
  exact flat_map_imp (f := fun _ : Unit => rw1 ⟨id, w, r, c, []⟩) (g := fun _ => encB ⟨id, w, r, c, []⟩) (fun _ => show ImpL [_, _, _, _, _] [_, _, _, _, _] from ⟨.refl _, .refl _, .refl _, .refl _, .nil 2, trivial⟩) [()]
theorem c139 (yr st : Int) (n : Nat) (rows : List (List AV)) (eid kd : Int) (b : Bx) (hb : b.cont = []) (hok : boxE [b] = 0) :
    FnG Tryz.prog 139 [.ovar 18 0] (OD1 (encU1 yr st) (.rsl 3 n rows) ⟨eid, 0, kd, [b.id, b.width, b.room, b.clim]⟩) [18] (OD1 (encU1' yr st b) (.rsl 3 n rows) ⟨eid, 0, kd, [b.id, b.width, b.room, b.clim]⟩) (I 0) := by
  have a81 := c81 [b] (by simp) (by simp [hb])
  rw [hok] at a81
  have a81' := a81.args_weak (us' := [.rsl 5 1 [rw1 b]]) ⟨imp_rw1 b hb, trivial⟩
  refine mkN139 [(3, [7, 7, 7])] [] rfl (p18a _ _ _) ⟨⟨by decide, by simp⟩, [I b.id], rfl, ⟨by decide, by simp⟩, [I b.width], rfl, ⟨by decide, by simp⟩, [I b.room], rfl, ⟨by decide, by simp⟩, [I b.clim], rfl, ⟨by decide, by decide⟩, false, ?_⟩
  refine ⟨rfl, _, a81', ?_⟩
  refine ⟨_, WkP.frz 464 ⟨56, 5, .flat, [rw1 b], []⟩ rfl rfl, ?_⟩
  refine ⟨_, I 0, [18], (c218a yr st n rows ⟨eid, 0, kd, [b.id, b.width, b.room, b.clim]⟩ b).as (by rfl) (by rfl) (by rfl), rfl, ?_⟩
  exact ⟨_, WkP.keep [2] [18], rfl, rfl, rfl⟩
end Go.Abs.Ltop.Aw
end
section
namespace Go.Abs.Ltop.Aw
open Go Go.Abs Go.Proofs
set_option linter.unusedVariables false
set_option maxRecDepth 20000
/-! ### a first shelf -/
abbrev encU3 (yr st : Int) (b : Bx) (s : Sh) : List AV := [Zs 5, Zs 6, Zs 6, I yr, Zs 6, Zs 6, .rsl 5 1 [rw1 b], SS [s], Zs 6, Zs 7, I st, Zs 4, Zs 8, Zs 2, .nilsl, I 0]
abbrev CUb (yr st : Int) (b : Bx) (i : Int) : Cfg :=
  ⟨[(1, .ovar 16 0), (2, .ovar 32 0), (79, I 1), (80, I i)], [(16, ⟨42, 16, .any, [[Zs 5, Zs 6, Zs 6, I yr, Zs 6, Zs 6, .osl 1200 5 1, .nilsl, Zs 6, Zs 7, I st, Zs 4, Zs 8, Zs 2, .nilsl, I 0]], []⟩), (1200, ⟨56, 5, .flat, [rw1 b], []⟩), (32, ⟨42, 16, .any, [zU], []⟩)]⟩
set_option maxHeartbeats 4000000 in
theorem c32b (yr st : Int) (b : Bx) : Fn Tryz.prog 32 [.agg (encU1' yr st b)] (.agg (encU1' yr st b)) := by
  have a58 := c58 [] (by simp)
  have a59 := c59 [] (by simp) (scE (k := 0))
  have a60 := c60 [] (by simp) (scE (k := 0))
  have a61 := c61 [] (by simp) (scE (k := 0))
  have a62 := c62 [] (by simp) (scE (k := 0))
  have a67 := c67 [] (by simp)
  have a68 := c68 [] (by simp) (scE (k := 0))
  have a64 := c64 [] (by simp) (scE (k := 0))
  have a65 := c65 [] (by simp) (scE (k := 0))
  have a66 := c66 [] (by simp) (scE (k := 0))
  have a22 := c22 [rw1 b] (by simp)
  refine mkG32 [] [] rfl ⟨_, a58, true, _, a59, true, _, a60, true, _, a61, true, _, a62, true, ?_⟩
  (refine once _ (WkP.refl _ _) ⟨fun h => absurd h (by decide), fun _ => ?_⟩)
  refine ⟨_, a22, false, ?_⟩
  refine ⟨fun n c => ∃ i : Nat, i ≤ 1 ∧ n = 1 - i ∧ c = CUb yr st b i, ⟨_, _, WkP.keep [1, 2, 79, 80] [16, 1200, 32], 0, by omega, rfl, rfl⟩, ?_⟩
  rintro n c ⟨i, hi, rfl, rfl⟩
  refine ⟨fun hlt => ?_, fun hlt => ?_⟩
  · have hlt : i = 0 := by simp at hlt; omega
    subst hlt
    refine ⟨⟨by decide, by decide⟩, rw1 b, rfl, _, c63z, ⟨by decide, by decide⟩, rw1 b, rfl, ?_⟩
    refine ⟨_, wrap64 (by omega) (by omega), ?_⟩
    exact ⟨_, _, WkP.keep [1, 2, 79, 80] [16, 1200, 32], by omega, 1, by omega, rfl, rfl⟩
  · refine ⟨_, c7z, _, a64, true, _, a65, true, _, a66, true, _, a67, true, _, a68, true, _, c69z, ?_⟩
    (refine once _ (WkP.refl _ _) ⟨fun h => absurd h (by decide), fun _ => ?_⟩)
    exact ⟨_, WkP.frz 1200 ⟨56, 5, .flat, [rw1 b], []⟩ rfl rfl, rfl, rfl, rfl⟩
abbrev CUc (yr st : Int) (b : Bx) (s : Sh) (i : Int) : Cfg :=
  ⟨[(1, .ovar 16 0), (2, .ovar 32 0), (79, I 1), (80, I i)], [(16, ⟨42, 16, .any, [[Zs 5, Zs 6, Zs 6, I yr, Zs 6, Zs 6, .osl 1200 5 1, SS [s], Zs 6, Zs 7, I st, Zs 4, Zs 8, Zs 2, .nilsl, I 0]], []⟩), (1200, ⟨56, 5, .flat, [rw1 b], []⟩), (32, ⟨42, 16, .any, [zU], []⟩)]⟩
set_option maxHeartbeats 4000000 in
theorem c32c (yr st : Int) (b : Bx) (s : Sh) : Fn Tryz.prog 32 [.agg (encU3 yr st b s)] (.agg (encU3 yr st b s)) := by
  have a58 := c58 [] (by simp)
  have a59 := c59 [] (by simp) (scE (k := 0))
  have a60 := c60 [] (by simp) (scE (k := 0))
  have a61 := c61 [] (by simp) (scE (k := 0))
  have a62 := c62 [] (by simp) (scE (k := 0))
  have a67 := c67 [] (by simp)
  have a68 := c68 [] (by simp) (scE (k := 0))
  have a64 := c64 [] (by simp) (scE (k := 0))
  have a65 := c65 [] (by simp) (scE (k := 0))
  have a66 := c66 [] (by simp) (scE (k := 0))
  have a22 := c22 [rw1 b] (by simp)
  have a7 := c7 [encS s] (by simp) (sc4 [s])
  refine mkG32 [] [] rfl ⟨_, a58, true, _, a59, true, _, a60, true, _, a61, true, _, a62, true, ?_⟩
  (refine once _ (WkP.refl _ _) ⟨fun h => absurd h (by decide), fun _ => ?_⟩)
  refine ⟨_, a22, false, ?_⟩
  refine ⟨fun n c => ∃ i : Nat, i ≤ 1 ∧ n = 1 - i ∧ c = CUc yr st b s i, ⟨_, _, WkP.keep [1, 2, 79, 80] [16, 1200, 32], 0, by omega, rfl, rfl⟩, ?_⟩
  rintro n c ⟨i, hi, rfl, rfl⟩
  refine ⟨fun hlt => ?_, fun hlt => ?_⟩
  · have hlt : i = 0 := by simp at hlt; omega
    subst hlt
    refine ⟨⟨by decide, by decide⟩, rw1 b, rfl, _, c63z, ⟨by decide, by decide⟩, rw1 b, rfl, ?_⟩
    refine ⟨_, wrap64 (by omega) (by omega), ?_⟩
    exact ⟨_, _, WkP.keep [1, 2, 79, 80] [16, 1200, 32], by omega, 1, by omega, rfl, rfl⟩
  · refine ⟨_, a7, true, _, a64, true, _, a65, true, _, a66, true, _, a67, true, _, a68, true, _, c69z, ?_⟩
    (refine once _ (WkP.refl _ _) ⟨fun h => absurd h (by decide), fun _ => ?_⟩)
    exact ⟨_, WkP.frz 1200 ⟨56, 5, .flat, [rw1 b], []⟩ rfl rfl, rfl, rfl, rfl⟩
theorem c223a (yr st : Int) (b : Bx) (n : Nat) (rows : List (List AV)) (e : Ev) (s : Sh) : FnG Tryz.prog 223 [.ovar 18 7, SS [s], I 0] (OD1 (encU1' yr st b) (.rsl 3 n rows) e) [18] (OD1 (encU3 yr st b s) (.rsl 3 n rows) e) (I 0) :=
  mkN223 [] [] rfl (p18a _ _ _) ⟨fun _ => ⟨_, WkP.keep [6] [18], rfl, rfl, rfl⟩, fun h => (by cases h)⟩
theorem c142 (yr st : Int) (b : Bx) (n : Nat) (rows : List (List AV)) (eid kd : Int) (s : Sh) (hok : shelvesE [s] = 0) :
    FnG Tryz.prog 142 [.ovar 18 0] (OD1 (encU1' yr st b) (.rsl 3 n rows) ⟨eid, 0, kd, [s.id, s.rep, s.len, s.clim]⟩) [18] (OD1 (encU3 yr st b s) (.rsl 3 n rows) ⟨eid, 0, kd, [s.id, s.rep, s.len, s.clim]⟩) (I 0) := by
  have a80 := c80 [s] (by simp)
  rw [hok] at a80
  refine mkN142 [(3, [7, 7, 7])] [] rfl (p18a _ _ _) ⟨⟨by decide, by simp⟩, [I s.id], rfl, ⟨by decide, by simp⟩, [I s.rep], rfl, ⟨by decide, by simp⟩, [I s.len], rfl, ⟨by decide, by simp⟩, [I s.clim], rfl, ⟨by decide, by decide⟩, true, ?_⟩
  refine ⟨rfl, _, a80, ?_⟩
  refine ⟨_, (WkP.frz 464 ⟨48, 4, .pure, [encS s], []⟩ rfl rfl).trans (WkP.keep [0, 2, 33, 34, 36] [18]), ?_⟩
  refine ⟨_, I 0, [18], (c223a yr st b n rows ⟨eid, 0, kd, [s.id, s.rep, s.len, s.clim]⟩ s).as (by rfl) (by rfl) (by rfl), rfl, ?_⟩
  exact ⟨_, WkP.keep [2] [18], rfl, rfl, rfl⟩
end Go.Abs.Ltop.Aw
end
section
namespace Go.Abs
open Go.RowKit
set_option linter.unusedVariables false
/-! ### the nil slice from its start on -/
theorem opx_slice_nil {P : Program} {T : Tab} {N : Nat} {ps : List Nat} {ops : Array Oper} {p : Nat} {c : Cfg} (hT : TabOK P T) {o : Oper} {t e : Nat} {x lo : Operand} {ti ei : TyI} (ho : ops[p]? = some o) (hop : o.op = .slice t x (some lo) none none) (hg : noGuard o = true)
    (hx : opv c x = .nilsl) (hl : opv c lo = .int .i64 0) (hti : T.get t = some ti) (hk : ti.k = .slice e) (hei : T.get e = some ei) (hd : dstOK N c o.dst = true) : OpX P N ps ops p c (fun c' => c' = ⟨putF o.dst .nilsl c.fr, c.O⟩) := by
  rintro E a w Q hN hp ⟨K, hs⟩
  have hg' : o.guard = none := by unfold noGuard at hg; split at hg <;> first | assumption | cases hg
  have hval := opv_vals hs
  have e1 := VR.nilsl_inv (hval.at hx)
  have e2 := hval.int hl
  obtain ⟨⟨d, hdd, hdk⟩, _⟩ := hT.get hti
  rw [hk] at hdk
  have := of_slice hdk
  subst this
  obtain ⟨_, ⟨je, hje, _, hjs, _⟩, _⟩ := hT.get hei
  unfold wpOp
  rw [ho]
  simp only
  rw [if_pos (wanted_no' hg')]
  left
  unfold Oper.wp
  have hrun : (execOp a.eval o).run P w = .ok (.value (.slice none 0 0)) w := by
    simp only [execOp, hop, e1, e2, Option.map_none, Option.map_some]
    simp [Instr.sliceAt, Instr.slice, run_underlying hdd, Instr.sliceBounds, Instr.sliceBound, asIntOf, sizeOf_run hje]
  rw [hrun, Oper.upon_value]
  exact ⟨_, rfl, K, hs.put (dst := o.dst) (u := .nilsl) (v := .slice none 0 0) (by rw [hN]; exact hd) fun _ _ => FV.of .nilsl⟩
end Go.Abs
end
