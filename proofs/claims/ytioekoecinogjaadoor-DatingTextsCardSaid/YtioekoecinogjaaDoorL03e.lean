import Derived.Test.YtioekoecinogjaaDoorC03m
import Derived.Test.YtioekoecinogjaaDoorL03d
namespace Go.Abs.L03
open Go Go.Abs Go.Abs.Day Go.Proofs Go.RowKit
set_option linter.unusedVariables false
set_option maxRecDepth 20000
theorem c49e (s : ByteArray) (l : List UInt8) (h : s = bs l) (hl : l.length ≤ 1000000) : Fn Tryd.prog 49 [.str s] (.tup [.agg (encD (perR l).1), I (perR l).2]) := by subst h; exact c49 l hl
theorem per_cases (l : List UInt8) : (shapedB l = false ∧ perR l = (zD, 3)) ∨ (shapedB l = true ∧ (readR l).2 = false ∧ perR l = (zD, 2)) ∨ (shapedB l = true ∧ (readR l).2 = true ∧ okD (readR l).1 = true ∧ perR l = ((readR l).1, 0)) := by
  unfold perR
  cases h1 : shapedB l with
  | false => exact .inl ⟨rfl, rfl⟩
  | true =>
    right
    cases h2 : (readR l).2 with
    | false => exact .inl ⟨rfl, rfl, rfl⟩
    | true => exact .inr ⟨rfl, rfl, read_ok h2, rfl⟩
theorem join_one (l : List UInt8) : joinR [l] J1 = perR l := by
  rcases per_cases l with ⟨h1, h2⟩ | ⟨h1, h2, h3⟩ | ⟨h1, h2, h3, h4⟩
  · rw [h2, joinR, if_pos (by simp [h1])]
  · rw [h3, joinR, if_neg (by simp [h1]), if_pos (by simp [h2])]
  · rw [h4]; exact join1 h1 h2 h3
theorem join_before (l : List UInt8) : joinR [l] J2 = if (perR l).2 ≠ 0 then (zD, (perR l).2) else spanR 0 ((perR l).1.lo - 1) := by
  rcases per_cases l with ⟨h1, h2⟩ | ⟨h1, h2, h3⟩ | ⟨h1, h2, h3, h4⟩
  · rw [h2, joinR, if_pos (by simp [h1]), if_pos (by simp)]
  · rw [h3, joinR, if_neg (by simp [h1]), if_pos (by simp [h2]), if_pos (by simp)]
  · have e : (if ((readR l).1, (0 : Int)).2 ≠ 0 then (zD, ((readR l).1, (0 : Int)).2) else spanR 0 (((readR l).1, (0 : Int)).1.lo - 1)) = spanR 0 ((readR l).1.lo - 1) := if_neg (by simp)
    rw [h4, e, joinR, if_neg (by simp [h1]), if_neg (by simp [h2])]; rfl
theorem join_after (l : List UInt8) : joinR [l] J3 = if (perR l).2 ≠ 0 then (zD, (perR l).2) else spanR ((perR l).1.hi + 1) 1048575 := by
  rcases per_cases l with ⟨h1, h2⟩ | ⟨h1, h2, h3⟩ | ⟨h1, h2, h3, h4⟩
  · rw [h2, joinR, if_pos (by simp [h1]), if_pos (by simp)]
  · rw [h3, joinR, if_neg (by simp [h1]), if_pos (by simp [h2]), if_pos (by simp)]
  · have e : (if ((readR l).1, (0 : Int)).2 ≠ 0 then (zD, ((readR l).1, (0 : Int)).2) else spanR (((readR l).1, (0 : Int)).1.hi + 1) 1048575) = spanR ((readR l).1.hi + 1) 1048575 := if_neg (by simp)
    rw [h4, e, joinR, if_neg (by simp [h1]), if_neg (by simp [h2])]; rfl
theorem join_two (x y : List UInt8) : joinR [x, y] J4 = if worseE (perR x).2 (perR y).2 ≠ 0 then (zD, worseE (perR x).2 (perR y).2) else spanR (perR x).1.lo (perR y).1.hi := by
  rcases per_cases x with ⟨h1, h2⟩ | ⟨h1, h2, h3⟩ | ⟨h1, h2, h3, h4⟩ <;> rcases per_cases y with ⟨k1, k2⟩ | ⟨k1, k2, k3⟩ | ⟨k1, k2, k3, k4⟩
  · rw [h2, k2, joinR, if_pos (by simp [h1])]; rfl
  · rw [h2, k3, joinR, if_pos (by simp [h1])]; rfl
  · rw [h2, k4, joinR, if_pos (by simp [h1])]; rfl
  · rw [h3, k2, joinR, if_pos (by simp [k1])]; rfl
  · rw [h3, k3, joinR, if_neg (by simp [h1, k1]), if_pos (by simp [h2])]; rfl
  · rw [h3, k4, joinR, if_neg (by simp [h1, k1]), if_pos (by simp [h2])]; rfl
  · rw [h4, k2, joinR, if_pos (by simp [k1])]; rfl
  · rw [h4, k3, joinR, if_neg (by simp [h1, k1]), if_pos (by simp [k2])]; rfl
  · have e : (if worseE ((readR x).1, (0 : Int)).2 ((readR y).1, (0 : Int)).2 ≠ 0 then (zD, worseE ((readR x).1, (0 : Int)).2 ((readR y).1, (0 : Int)).2) else spanR ((readR x).1, (0 : Int)).1.lo ((readR y).1, (0 : Int)).1.hi) = spanR (readR x).1.lo (readR y).1.hi := if_neg (fun hc => hc rfl)
    rw [h4, k4, e, joinR, if_neg (by simp [h1, k1]), if_neg (by simp [h2, k2])]; rfl
theorem per_ok {l : List UInt8} (h : (perR l).2 = 0) : okD (perR l).1 = true := by
  rcases per_cases l with ⟨h1, h2⟩ | ⟨h1, h2, h3⟩ | ⟨h1, h2, h3, h4⟩
  · rw [h2] at h; cases h
  · rw [h3] at h; cases h
  · rw [h4]; exact h3
theorem eqT (a b : List UInt8) : ((bs a).toList == (bs b).toList) = decide (a = b) := bs_eq a b
theorem t7 (l : List UInt8) : (((bs l).extract 0 (7 : Int).toNat).toList == (⟨#[98, 101, 102, 111, 114, 101, 32]⟩ : ByteArray).toList) = decide (l.take 7 = beforeL) := by
  rw [show (bs l).extract 0 (7 : Int).toNat = bs (l.take 7) from ext_take l 7]; exact bs_eq _ beforeL
theorem t6 (l : List UInt8) : (((bs l).extract 0 (6 : Int).toNat).toList == (⟨#[97, 102, 116, 101, 114, 32]⟩ : ByteArray).toList) = decide (l.take 6 = afterL) := by
  rw [show (bs l).extract 0 (6 : Int).toNat = bs (l.take 6) from ext_take l 6]; exact bs_eq _ afterL
theorem tu {l : List UInt8} (h : l ≠ unknownL) : ((bs l).toList == (⟨#[117, 110, 107, 110, 111, 119, 110]⟩ : ByteArray).toList) = false := by
  have := bs_eq l unknownL
  rw [decide_eq_false h] at this
  exact this
theorem c15b (l : List UInt8) (hl : l.length ≤ 1000) (hu : l ≠ unknownL) (h7 : 7 < l.length) (hb : l.take 7 = beforeL) : Fn Tryd.prog 15 [.str (bs l)] (.tup [.agg (encD (parseD l).1), I (parseD l).2]) := by
  have hP : hasP beforeL l = true := by unfold hasP; rw [show beforeL.length = 7 from rfl]; simp [hb]; omega
  have hspec : parseD l = if (perR (l.drop 7)).2 ≠ 0 then (zD, (perR (l.drop 7)).2) else spanR 0 ((perR (l.drop 7)).1.lo - 1) := by
    unfold parseD; rw [if_neg hu, if_pos hP, join_before]
  rw [hspec]
  have hc := c49e ((bs l).extract (7 : Int).toNat (bs l).size) (l.drop 7) (ext_drop l 7) (by simp; omega)
  have i7 : (0 : Int) ≤ 7 ∧ (7 : Int) ≤ (bs l).size := ⟨by decide, by rw [bs_size]; omega⟩
  refine mk15 rfl ⟨fun h => (by rw [show ((bs l).toList == (⟨#[117, 110, 107, 110, 111, 119, 110]⟩ : ByteArray).toList) = false from tu hu] at h; cases h), fun _ => ⟨[(3, true)], by show decide (((l.length : Nat) : Int) > 7) = true; simp; omega, i7, fun _ => ?_, fun h => ?_⟩⟩
  · refine ⟨i7, _, hc, fun h => ?_, fun h => ?_⟩
    · have h : (perR (l.drop 7)).2 ≠ 0 := by simpa using h
      rw [if_pos h]
      exact ⟨_, _, rfl, ⟨rfl, rfl⟩, rfl, rfl, trivial⟩
    · have h : (perR (l.drop 7)).2 = 0 := by simpa using h
      have ho := okD_iff.1 (per_ok h)
      rw [if_neg (fun hc => hc h)]
      exact ⟨_, wrap64 (by omega) (by omega), _, c50 0 _, _, _, rfl, ⟨rfl, rfl⟩, rfl, rfl, trivial⟩
  · exfalso
    have h : (true && (((bs l).extract 0 (7 : Int).toNat).toList == (⟨#[98, 101, 102, 111, 114, 101, 32]⟩ : ByteArray).toList)) = false := h
    rw [t7, decide_eq_true hb] at h; cases h
theorem c15a_s (l : List UInt8) (hl : l.length ≤ 1000) (hu : l ≠ unknownL) (h7 : ¬ 7 < l.length) (h6 : 6 < l.length) (ha : l.take 6 = afterL) : Fn Tryd.prog 15 [.str (bs l)] (.tup [.agg (encD (parseD l).1), I (parseD l).2]) := by
  have hPb : hasP beforeL l = false := by
    have : beforeL.length = 7 := rfl
    unfold hasP; rw [this]; simp
    intro _ e
    have e2 := congrArg (List.take 6) e
    rw [List.take_take, show min 6 7 = 6 from rfl, ha] at e2
    exact absurd e2 (by decide)
  have hP : hasP afterL l = true := by unfold hasP; rw [show afterL.length = 6 from rfl]; simp [ha]; omega
  have hspec : parseD l = if (perR (l.drop 6)).2 ≠ 0 then (zD, (perR (l.drop 6)).2) else spanR ((perR (l.drop 6)).1.hi + 1) 1048575 := by
    unfold parseD; rw [if_neg hu, if_neg (by rw [hPb]; simp), if_pos hP, join_after]
  rw [hspec]
  have hc := c49e ((bs l).extract (6 : Int).toNat (bs l).size) (l.drop 6) (ext_drop l 6) (by simp; omega)
  have i6 : (0 : Int) ≤ 6 ∧ (6 : Int) ≤ (bs l).size := ⟨by decide, by rw [bs_size]; omega⟩
  refine mk15 rfl ⟨fun h => (by rw [show ((bs l).toList == (⟨#[117, 110, 107, 110, 111, 119, 110]⟩ : ByteArray).toList) = false from tu hu] at h; cases h), fun _ => ⟨[(3, false)], by show decide (((l.length : Nat) : Int) > 7) = false; simp; omega, fun h => ?_, fun _ => ⟨[(3, true)], by show decide (((l.length : Nat) : Int) > 6) = true; simp; omega, i6, fun _ => ?_, fun h => ?_⟩⟩⟩
  · cases h
  · refine ⟨i6, _, hc, fun h => ?_, fun h => ?_⟩
    · have h : (perR (l.drop 6)).2 ≠ 0 := by simpa using h
      rw [if_pos h]
      exact ⟨_, _, rfl, ⟨rfl, rfl⟩, rfl, rfl, trivial⟩
    · have h : (perR (l.drop 6)).2 = 0 := by simpa using h
      have ho := okD_iff.1 (per_ok h)
      rw [if_neg (fun hc => hc h)]
      exact ⟨_, wrap64 (by omega) (by omega), _, c50 _ 1048575, _, _, rfl, ⟨rfl, rfl⟩, rfl, rfl, trivial⟩
  · exfalso
    have h : (true && (((bs l).extract 0 (6 : Int).toNat).toList == (⟨#[97, 102, 116, 101, 114, 32]⟩ : ByteArray).toList)) = false := h
    rw [t6, decide_eq_true ha] at h; cases h
theorem c15a_l (l : List UInt8) (hl : l.length ≤ 1000) (hu : l ≠ unknownL) (h7 : 7 < l.length) (hb : l.take 7 ≠ beforeL) (h6 : 6 < l.length) (ha : l.take 6 = afterL) : Fn Tryd.prog 15 [.str (bs l)] (.tup [.agg (encD (parseD l).1), I (parseD l).2]) := by
  have hPb : hasP beforeL l = false := by
    have : beforeL.length = 7 := rfl
    unfold hasP; rw [this]; simp
    intro _ e
    have e2 := congrArg (List.take 6) e
    rw [List.take_take, show min 6 7 = 6 from rfl, ha] at e2
    exact absurd e2 (by decide)
  have hP : hasP afterL l = true := by unfold hasP; rw [show afterL.length = 6 from rfl]; simp [ha]; omega
  have hspec : parseD l = if (perR (l.drop 6)).2 ≠ 0 then (zD, (perR (l.drop 6)).2) else spanR ((perR (l.drop 6)).1.hi + 1) 1048575 := by
    unfold parseD; rw [if_neg hu, if_neg (by rw [hPb]; simp), if_pos hP, join_after]
  rw [hspec]
  have hc := c49e ((bs l).extract (6 : Int).toNat (bs l).size) (l.drop 6) (ext_drop l 6) (by simp; omega)
  have i6 : (0 : Int) ≤ 6 ∧ (6 : Int) ≤ (bs l).size := ⟨by decide, by rw [bs_size]; omega⟩
  refine mk15 rfl ⟨fun h => (by rw [show ((bs l).toList == (⟨#[117, 110, 107, 110, 111, 119, 110]⟩ : ByteArray).toList) = false from tu hu] at h; cases h), fun _ => ⟨[(3, true)], by show decide (((l.length : Nat) : Int) > 7) = true; simp; omega, ⟨by decide, by rw [bs_size]; omega⟩, fun h => ?_, fun _ => ⟨[(3, true)], by show decide (((l.length : Nat) : Int) > 6) = true; simp; omega, i6, fun _ => ?_, fun h => ?_⟩⟩⟩
  · have h : (true && (((bs l).extract 0 (7 : Int).toNat).toList == (⟨#[98, 101, 102, 111, 114, 101, 32]⟩ : ByteArray).toList)) = true := h
    rw [t7, decide_eq_false hb] at h; cases h
  · refine ⟨i6, _, hc, fun h => ?_, fun h => ?_⟩
    · have h : (perR (l.drop 6)).2 ≠ 0 := by simpa using h
      rw [if_pos h]
      exact ⟨_, _, rfl, ⟨rfl, rfl⟩, rfl, rfl, trivial⟩
    · have h : (perR (l.drop 6)).2 = 0 := by simpa using h
      have ho := okD_iff.1 (per_ok h)
      rw [if_neg (fun hc => hc h)]
      exact ⟨_, wrap64 (by omega) (by omega), _, c50 _ 1048575, _, _, rfl, ⟨rfl, rfl⟩, rfl, rfl, trivial⟩
  · exfalso
    have h : (true && (((bs l).extract 0 (6 : Int).toNat).toList == (⟨#[97, 102, 116, 101, 114, 32]⟩ : ByteArray).toList)) = false := h
    rw [t6, decide_eq_true ha] at h; cases h
theorem c15c_ss (l : List UInt8) (hl : l.length ≤ 1000) (hu : l ≠ unknownL) (h6 : ¬ 6 < l.length) (R : Dat × Int)
    (hR1 : ∀ i : Nat, l[i]? = some 47 → (∀ j, j < i → l[j]? ≠ some 47) → R = if worseE (perR (l.take i)).2 (perR (l.drop (i + 1))).2 ≠ 0 then (zD, worseE (perR (l.take i)).2 (perR (l.drop (i + 1))).2) else spanR (perR (l.take i)).1.lo (perR (l.drop (i + 1))).1.hi)
    (hR2 : (∀ j, j < l.length → l[j]? ≠ some 47) → R = perR l) : Fn Tryd.prog 15 [.str (bs l)] (.tup [.agg (encD R.1), I R.2]) := by
  refine mk15 rfl ⟨fun h => (by rw [show ((bs l).toList == (⟨#[117, 110, 107, 110, 111, 119, 110]⟩ : ByteArray).toList) = false from tu hu] at h; cases h), fun _ => ⟨[(3, false)], by show decide (((l.length : Nat) : Int) > 7) = false; simp; omega, fun h => ?_, fun _ => ⟨[(3, false)], by show decide (((l.length : Nat) : Int) > 6) = false; simp; omega, fun h => ?_, fun _ => ?_⟩⟩⟩
  · cases h
  · cases h
  · refine ⟨fun N c => ∃ i : Nat, i ≤ l.length ∧ N = l.length - i ∧ c = ⟨[(0, .str (bs l)), (2, .ovar 32 0), (3, I 0), (8, I i)], [(32, ⟨23, 2, .any, [encD zD]⟩)]⟩ ∧ (∀ j, j < i → l[j]? ≠ some 47), ⟨_, _, Wk.keep [0, 2, 3, 8] [32], 0, by omega, rfl, rfl, by omega⟩, ?_⟩
    rintro N c ⟨i, hi, rfl, rfl, hI⟩
    refine ⟨fun h => ?_, fun h => ?_⟩
    · have h : i < l.length := by
        have : decide (((i : Nat) : Int) < ((l.length : Nat) : Int)) = true := h
        simp at this; omega
      obtain ⟨b, hb, _, _⟩ := drop_cons (l := l) (i := i) h
      refine ⟨_, idx_ok hb, fun hf => ?_, fun hf => ?_⟩
      · have hb47 : b = 47 := by
          have : (((b.toNat : Nat) : Int) == 47) = true := hf
          have : b.toNat = 47 := by simp at this; omega
          exact UInt8.toNat_inj.1 this
        subst hb47
        rw [hR1 i hb hI]
        have hx := c49e ((bs l).extract 0 (i : Int).toNat) (l.take i) (by rw [Int.toNat_natCast]; exact ext_take l i) (by simp; omega)
        have hy := c49e ((bs l).extract ((i : Int) + 1).toNat (bs l).size) (l.drop (i + 1)) (by rw [show ((i : Int) + 1).toNat = i + 1 by omega]; exact ext_drop l (i + 1)) (by simp; omega)
        generalize perR (l.take i) = X at *
        generalize perR (l.drop (i + 1)) = Y at *
        refine ⟨⟨by omega, by rw [bs_size]; omega⟩, _, hx, _, wrap64 (by omega) (by omega), ⟨by omega, by rw [bs_size]; omega⟩, _, hy, _, c51 X.2 Y.2, fun h => ?_, fun h => ?_⟩
        · have h : worseE X.2 Y.2 ≠ 0 := by simpa using h
          rw [if_pos h]
          exact ⟨_, c51 X.2 Y.2, _, _, rfl, ⟨rfl, rfl⟩, rfl, rfl, trivial⟩
        · have h : worseE X.2 Y.2 = 0 := by simpa using h
          rw [if_neg (fun hc => hc h)]
          exact ⟨_, c50 X.1.lo Y.1.hi, _, _, rfl, ⟨rfl, rfl⟩, rfl, rfl, trivial⟩
      · have hb47 : b ≠ 47 := by
          rintro rfl
          have : (((UInt8.toNat 47 : Nat) : Int) == 47) = false := hf
          revert this; decide
        refine ⟨_, wrap64 (by omega) (by omega), _, _, Wk.keep [0, 2, 3, 8] [32], by omega, i + 1, by omega, rfl, rfl, fun j hj => ?_⟩
        rcases Nat.lt_or_eq_of_le (Nat.lt_succ_iff.1 hj) with hj | hj
        · exact hI j hj
        · subst hj; rw [hb]; simpa using hb47
    · have h : i = l.length := by
        have : decide (((i : Nat) : Int) < ((l.length : Nat) : Int)) = false := h
        simp at this; omega
      subst h
      rw [hR2 hI]
      exact ⟨_, c49 l (by omega), _, _, rfl, ⟨rfl, rfl⟩, rfl, rfl, trivial⟩
theorem c15c_sl (l : List UInt8) (hl : l.length ≤ 1000) (hu : l ≠ unknownL) (h7 : ¬ 7 < l.length) (h6 : 6 < l.length) (ha : l.take 6 ≠ afterL) (R : Dat × Int)
    (hR1 : ∀ i : Nat, l[i]? = some 47 → (∀ j, j < i → l[j]? ≠ some 47) → R = if worseE (perR (l.take i)).2 (perR (l.drop (i + 1))).2 ≠ 0 then (zD, worseE (perR (l.take i)).2 (perR (l.drop (i + 1))).2) else spanR (perR (l.take i)).1.lo (perR (l.drop (i + 1))).1.hi)
    (hR2 : (∀ j, j < l.length → l[j]? ≠ some 47) → R = perR l) : Fn Tryd.prog 15 [.str (bs l)] (.tup [.agg (encD R.1), I R.2]) := by
  refine mk15 rfl ⟨fun h => (by rw [show ((bs l).toList == (⟨#[117, 110, 107, 110, 111, 119, 110]⟩ : ByteArray).toList) = false from tu hu] at h; cases h), fun _ => ⟨[(3, false)], by show decide (((l.length : Nat) : Int) > 7) = false; simp; omega, fun h => ?_, fun _ => ⟨[(3, true)], by show decide (((l.length : Nat) : Int) > 6) = true; simp; omega, ⟨by decide, by rw [bs_size]; omega⟩, fun h => ?_, fun _ => ?_⟩⟩⟩
  · cases h
  · have h : (true && (((bs l).extract 0 (6 : Int).toNat).toList == (⟨#[97, 102, 116, 101, 114, 32]⟩ : ByteArray).toList)) = true := h
    rw [t6, decide_eq_false ha] at h; cases h
  · refine ⟨fun N c => ∃ i : Nat, i ≤ l.length ∧ N = l.length - i ∧ c = ⟨[(0, .str (bs l)), (2, .ovar 32 0), (3, I 0), (8, I i)], [(32, ⟨23, 2, .any, [encD zD]⟩)]⟩ ∧ (∀ j, j < i → l[j]? ≠ some 47), ⟨_, _, Wk.keep [0, 2, 3, 8] [32], 0, by omega, rfl, rfl, by omega⟩, ?_⟩
    rintro N c ⟨i, hi, rfl, rfl, hI⟩
    refine ⟨fun h => ?_, fun h => ?_⟩
    · have h : i < l.length := by
        have : decide (((i : Nat) : Int) < ((l.length : Nat) : Int)) = true := h
        simp at this; omega
      obtain ⟨b, hb, _, _⟩ := drop_cons (l := l) (i := i) h
      refine ⟨_, idx_ok hb, fun hf => ?_, fun hf => ?_⟩
      · have hb47 : b = 47 := by
          have : (((b.toNat : Nat) : Int) == 47) = true := hf
          have : b.toNat = 47 := by simp at this; omega
          exact UInt8.toNat_inj.1 this
        subst hb47
        rw [hR1 i hb hI]
        have hx := c49e ((bs l).extract 0 (i : Int).toNat) (l.take i) (by rw [Int.toNat_natCast]; exact ext_take l i) (by simp; omega)
        have hy := c49e ((bs l).extract ((i : Int) + 1).toNat (bs l).size) (l.drop (i + 1)) (by rw [show ((i : Int) + 1).toNat = i + 1 by omega]; exact ext_drop l (i + 1)) (by simp; omega)
        generalize perR (l.take i) = X at *
        generalize perR (l.drop (i + 1)) = Y at *
        refine ⟨⟨by omega, by rw [bs_size]; omega⟩, _, hx, _, wrap64 (by omega) (by omega), ⟨by omega, by rw [bs_size]; omega⟩, _, hy, _, c51 X.2 Y.2, fun h => ?_, fun h => ?_⟩
        · have h : worseE X.2 Y.2 ≠ 0 := by simpa using h
          rw [if_pos h]
          exact ⟨_, c51 X.2 Y.2, _, _, rfl, ⟨rfl, rfl⟩, rfl, rfl, trivial⟩
        · have h : worseE X.2 Y.2 = 0 := by simpa using h
          rw [if_neg (fun hc => hc h)]
          exact ⟨_, c50 X.1.lo Y.1.hi, _, _, rfl, ⟨rfl, rfl⟩, rfl, rfl, trivial⟩
      · have hb47 : b ≠ 47 := by
          rintro rfl
          have : (((UInt8.toNat 47 : Nat) : Int) == 47) = false := hf
          revert this; decide
        refine ⟨_, wrap64 (by omega) (by omega), _, _, Wk.keep [0, 2, 3, 8] [32], by omega, i + 1, by omega, rfl, rfl, fun j hj => ?_⟩
        rcases Nat.lt_or_eq_of_le (Nat.lt_succ_iff.1 hj) with hj | hj
        · exact hI j hj
        · subst hj; rw [hb]; simpa using hb47
    · have h : i = l.length := by
        have : decide (((i : Nat) : Int) < ((l.length : Nat) : Int)) = false := h
        simp at this; omega
      subst h
      rw [hR2 hI]
      exact ⟨_, c49 l (by omega), _, _, rfl, ⟨rfl, rfl⟩, rfl, rfl, trivial⟩
theorem c15c_ll (l : List UInt8) (hl : l.length ≤ 1000) (hu : l ≠ unknownL) (h7 : 7 < l.length) (hb : l.take 7 ≠ beforeL) (ha : l.take 6 ≠ afterL) (R : Dat × Int)
    (hR1 : ∀ i : Nat, l[i]? = some 47 → (∀ j, j < i → l[j]? ≠ some 47) → R = if worseE (perR (l.take i)).2 (perR (l.drop (i + 1))).2 ≠ 0 then (zD, worseE (perR (l.take i)).2 (perR (l.drop (i + 1))).2) else spanR (perR (l.take i)).1.lo (perR (l.drop (i + 1))).1.hi)
    (hR2 : (∀ j, j < l.length → l[j]? ≠ some 47) → R = perR l) : Fn Tryd.prog 15 [.str (bs l)] (.tup [.agg (encD R.1), I R.2]) := by
  refine mk15 rfl ⟨fun h => (by rw [show ((bs l).toList == (⟨#[117, 110, 107, 110, 111, 119, 110]⟩ : ByteArray).toList) = false from tu hu] at h; cases h), fun _ => ⟨[(3, true)], by show decide (((l.length : Nat) : Int) > 7) = true; simp; omega, ⟨by decide, by rw [bs_size]; omega⟩, fun h => ?_, fun _ => ⟨[(3, true)], by show decide (((l.length : Nat) : Int) > 6) = true; simp; omega, ⟨by decide, by rw [bs_size]; omega⟩, fun h => ?_, fun _ => ?_⟩⟩⟩
  · have h : (true && (((bs l).extract 0 (7 : Int).toNat).toList == (⟨#[98, 101, 102, 111, 114, 101, 32]⟩ : ByteArray).toList)) = true := h
    rw [t7, decide_eq_false hb] at h; cases h
  · have h : (true && (((bs l).extract 0 (6 : Int).toNat).toList == (⟨#[97, 102, 116, 101, 114, 32]⟩ : ByteArray).toList)) = true := h
    rw [t6, decide_eq_false ha] at h; cases h
  · refine ⟨fun N c => ∃ i : Nat, i ≤ l.length ∧ N = l.length - i ∧ c = ⟨[(0, .str (bs l)), (2, .ovar 32 0), (3, I 0), (8, I i)], [(32, ⟨23, 2, .any, [encD zD]⟩)]⟩ ∧ (∀ j, j < i → l[j]? ≠ some 47), ⟨_, _, Wk.keep [0, 2, 3, 8] [32], 0, by omega, rfl, rfl, by omega⟩, ?_⟩
    rintro N c ⟨i, hi, rfl, rfl, hI⟩
    refine ⟨fun h => ?_, fun h => ?_⟩
    · have h : i < l.length := by
        have : decide (((i : Nat) : Int) < ((l.length : Nat) : Int)) = true := h
        simp at this; omega
      obtain ⟨b, hb, _, _⟩ := drop_cons (l := l) (i := i) h
      refine ⟨_, idx_ok hb, fun hf => ?_, fun hf => ?_⟩
      · have hb47 : b = 47 := by
          have : (((b.toNat : Nat) : Int) == 47) = true := hf
          have : b.toNat = 47 := by simp at this; omega
          exact UInt8.toNat_inj.1 this
        subst hb47
        rw [hR1 i hb hI]
        have hx := c49e ((bs l).extract 0 (i : Int).toNat) (l.take i) (by rw [Int.toNat_natCast]; exact ext_take l i) (by simp; omega)
        have hy := c49e ((bs l).extract ((i : Int) + 1).toNat (bs l).size) (l.drop (i + 1)) (by rw [show ((i : Int) + 1).toNat = i + 1 by omega]; exact ext_drop l (i + 1)) (by simp; omega)
        generalize perR (l.take i) = X at *
        generalize perR (l.drop (i + 1)) = Y at *
        refine ⟨⟨by omega, by rw [bs_size]; omega⟩, _, hx, _, wrap64 (by omega) (by omega), ⟨by omega, by rw [bs_size]; omega⟩, _, hy, _, c51 X.2 Y.2, fun h => ?_, fun h => ?_⟩
        · have h : worseE X.2 Y.2 ≠ 0 := by simpa using h
          rw [if_pos h]
          exact ⟨_, c51 X.2 Y.2, _, _, rfl, ⟨rfl, rfl⟩, rfl, rfl, trivial⟩
        · have h : worseE X.2 Y.2 = 0 := by simpa using h
          rw [if_neg (fun hc => hc h)]
          exact ⟨_, c50 X.1.lo Y.1.hi, _, _, rfl, ⟨rfl, rfl⟩, rfl, rfl, trivial⟩
      · have hb47 : b ≠ 47 := by
          rintro rfl
          have : (((UInt8.toNat 47 : Nat) : Int) == 47) = false := hf
          revert this; decide
        refine ⟨_, wrap64 (by omega) (by omega), _, _, Wk.keep [0, 2, 3, 8] [32], by omega, i + 1, by omega, rfl, rfl, fun j hj => ?_⟩
        rcases Nat.lt_or_eq_of_le (Nat.lt_succ_iff.1 hj) with hj | hj
        · exact hI j hj
        · subst hj; rw [hb]; simpa using hb47
    · have h : i = l.length := by
        have : decide (((i : Nat) : Int) < ((l.length : Nat) : Int)) = false := h
        simp at this; omega
      subst h
      rw [hR2 hI]
      exact ⟨_, c49 l (by omega), _, _, rfl, ⟨rfl, rfl⟩, rfl, rfl, trivial⟩
theorem cut_at {l : List UInt8} {i : Nat} (h : l[i]? = some 47) (hn : ∀ j, j < i → l[j]? ≠ some 47) : Lib.cut l [47] = (l.take i, l.drop (i + 1), true) := by
  obtain ⟨hi, he⟩ := List.getElem?_eq_some_iff.1 h
  have hs : l = l.take i ++ 47 :: l.drop (i + 1) := by
    rw [← he, ← List.drop_eq_getElem_cons hi, List.take_append_drop]
  conv => lhs; rw [hs]
  apply cut_mid
  intro b hb e
  subst e
  obtain ⟨j, hj, hje⟩ := List.getElem_of_mem hb
  simp at hj
  apply hn j (by omega)
  rw [← hje]; simp
theorem no_at {l : List UInt8} (hn : ∀ j, j < l.length → l[j]? ≠ some 47) : ∀ b ∈ l, b ≠ 47 := by
  intro b hb e
  subst e
  obtain ⟨j, hj, hje⟩ := List.getElem_of_mem hb
  apply hn j hj
  rw [← hje]; simp
theorem spec_rest {l : List UInt8} (hu : l ≠ unknownL) (hb : hasP beforeL l = true → l = beforeL) (ha : hasP afterL l = true → l = afterL) :
    (∀ i : Nat, l[i]? = some 47 → (∀ j, j < i → l[j]? ≠ some 47) → parseD l = if worseE (perR (l.take i)).2 (perR (l.drop (i + 1))).2 ≠ 0 then (zD, worseE (perR (l.take i)).2 (perR (l.drop (i + 1))).2) else spanR (perR (l.take i)).1.lo (perR (l.drop (i + 1))).1.hi) ∧
    ((∀ j, j < l.length → l[j]? ≠ some 47) → parseD l = perR l) := by
  have hz : joinR [([] : List UInt8)] J2 = (zD, 3) := by rw [joinR, if_pos (by decide)]
  have hz3 : joinR [([] : List UInt8)] J3 = (zD, 3) := by rw [joinR, if_pos (by decide)]
  have pb : perR beforeL = (zD, 3) := by rw [perR, if_pos (by decide)]
  have pa : perR afterL = (zD, 3) := by rw [perR, if_pos (by decide)]
  cases h1 : hasP beforeL l with
  | true =>
    have e := hb h1
    subst e
    refine ⟨fun i hi _ => ?_, fun _ => ?_⟩
    · exact absurd (List.mem_of_getElem? hi) (by decide)
    · rw [parseD, if_neg hu, if_pos h1, show beforeL.drop 7 = [] from rfl, hz, pb]
  | false =>
    cases h2 : hasP afterL l with
    | true =>
      have e := ha h2
      subst e
      refine ⟨fun i hi _ => ?_, fun _ => ?_⟩
      · exact absurd (List.mem_of_getElem? hi) (by decide)
      · rw [parseD, if_neg hu, if_neg (by rw [h1]; simp), if_pos h2, show afterL.drop 6 = [] from rfl, hz3, pa]
    | false =>
      refine ⟨fun i hi hn => ?_, fun hn => ?_⟩
      · rw [parseD, if_neg hu, if_neg (by rw [h1]; simp), if_neg (by rw [h2]; simp), cut_at hi hn, if_pos rfl, join_two]
      · rw [parseD, if_neg hu, if_neg (by rw [h1]; simp), if_neg (by rw [h2]; simp), cut_none (no_at hn), if_neg (by simp), join_one]
theorem has_eq {p l : List UInt8} (h : hasP p l = true) (hl : l.length ≤ p.length) : l = p := by
  unfold hasP at h; simp at h
  rw [← h.2, List.take_of_length_le hl]
theorem c15 (l : List UInt8) (hl : l.length ≤ 1000) : Fn Tryd.prog 15 [.str (bs l)] (.tup [.agg (encD (parseD l).1), I (parseD l).2]) := by
  by_cases hu : l = unknownL
  · have : parseD l = (⟨0, 1048575⟩, 0) := by rw [parseD, if_pos hu]
    rw [this]
    have hn : ((bs l).toList == (⟨#[117, 110, 107, 110, 111, 119, 110]⟩ : ByteArray).toList) = true := by
      have := bs_eq l unknownL
      rw [decide_eq_true hu] at this
      exact this
    exact mk15 rfl ⟨fun _ => ⟨_, _, rfl, ⟨rfl, rfl⟩, rfl, rfl, trivial⟩, fun h => (by rw [show ((bs l).toList == (⟨#[117, 110, 107, 110, 111, 119, 110]⟩ : ByteArray).toList) = true from hn] at h; cases h)⟩
  · by_cases h7 : 7 < l.length
    · by_cases hb : l.take 7 = beforeL
      · exact c15b l hl hu h7 hb
      · by_cases ha : l.take 6 = afterL
        · exact c15a_l l hl hu h7 hb (by omega) ha
        · have s := spec_rest (l := l) hu (fun h => by unfold hasP at h; rw [show beforeL.length = 7 from rfl] at h; simp at h; exact absurd h.2 hb) (fun h => by unfold hasP at h; rw [show afterL.length = 6 from rfl] at h; simp at h; exact absurd h.2 ha)
          exact c15c_ll l hl hu h7 hb ha _ s.1 s.2
    · have hbe : hasP beforeL l = true → l = beforeL := fun h => has_eq h (by rw [show beforeL.length = 7 from rfl]; omega)
      by_cases h6 : 6 < l.length
      · by_cases ha : l.take 6 = afterL
        · exact c15a_s l hl hu h7 h6 ha
        · have s := spec_rest (l := l) hu hbe (fun h => by unfold hasP at h; rw [show afterL.length = 6 from rfl] at h; simp at h; exact absurd h.2 ha)
          exact c15c_sl l hl hu h7 h6 ha _ s.1 s.2
      · have s := spec_rest (l := l) hu hbe (fun h => has_eq h (by rw [show afterL.length = 6 from rfl]; omega))
        exact c15c_ss l hl hu h6 _ s.1 s.2
theorem l3 (a : Dat) (l : List UInt8) (hl : l.length ≤ 9223372036854775807) : Fn Tryd.prog 3 [.agg (encD a), .str (bs l)] (.bool true) := by
  refine mk3 rfl ⟨_, c11, fun h => (by cases h), fun _ => ⟨fun h => ⟨rfl, rfl, rfl⟩, fun h => ?_⟩⟩
  have h60 : l.length ≤ 60 := by
    have : decide (((l.length : Nat) : Int) > 60) = false := h
    simp at this; omega
  refine ⟨_, c12 a, _, c13 a, _, c14 l (by omega), _, c15 l (by omega), [], rfl, rfl, ?_⟩
  show AV.bool true = AV.bool (((bs (fmtE a).1).toList == (bs (fmtE a).1).toList) && ((fmtE a).2 == (fmtE a).2) && eqL (encD (parseD l).1) (encD (parseD l).1) && ((parseD l).2 == (parseD l).2))
  rw [bs_eq, eqL_D]; simp
end Go.Abs.L03
