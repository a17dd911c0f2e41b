import Derived.Test.YtioekoecinogjaaDoorC03l
import Derived.Test.YtioekoecinogjaaDoorSem
namespace Go.Abs.L03
open Go Go.Abs Go.Abs.Day Go.Proofs Go.RowKit
set_option linter.unusedVariables false
set_option maxRecDepth 20000
noncomputable def perR (l : List UInt8) : Dat × Int := if shapedB l = false then (zD, 3) else if (readR l).2 = false then (zD, 2) else ((readR l).1, 0)
theorem len4 {l : List UInt8} (h : l.length = 4) : ∃ a b c d, l = [a, b, c, d] := by
  match l, h with
  | [a, b, c, d], _ => exact ⟨a, b, c, d, rfl⟩
theorem len7 {l : List UInt8} (h : l.length = 7) : ∃ a b c d e f g, l = [a, b, c, d, e, f, g] := by
  match l, h with
  | [a, b, c, d, e, f, g], _ => exact ⟨a, b, c, d, e, f, g, rfl⟩
theorem len10 {l : List UInt8} (h : l.length = 10) : ∃ a b c d e f g i j k, l = [a, b, c, d, e, f, g, i, j, k] := by
  match l, h with
  | [a, b, c, d, e, f, g, i, j, k], _ => exact ⟨a, b, c, d, e, f, g, i, j, k, rfl⟩
theorem parse_at {l : List UInt8} (h : dshape l) (h1 : allDig (pY l) = true) (h2 : allDig (pM l) = true) (h3 : allDig (pD l) = true) : parseE l = ofE (numL (pY l) 0) (numL (pM l) 0) (numL (pD l) 0) := by
  rw [parseE, if_pos h, if_pos ⟨h1, h2, h3⟩]
theorem shaped4 {a b c d : UInt8} : shapedB [a, b, c, d] = allDig [a, b, c, d] := by
  unfold shapedB lenB
  simp [shB, allDig]
theorem one1 : allDig [48, 49] = true := by decide
theorem full4 {a b c d : UInt8} (h : allDig [a, b, c, d] = true) : parseE (fullL [a, b, c, d]) = ofE (numL [a, b, c, d] 0) 1 1 :=
  parse_at (l := [a, b, c, d, 45, 48, 49, 45, 48, 49]) ⟨rfl, rfl, rfl⟩ h one1 one1
theorem shaped7 {a b c d e f g : UInt8} : shapedB [a, b, c, d, e, f, g] = (allDig [a, b, c, d] && (e == 45) && allDig [f, g]) := by
  unfold shapedB lenB
  simp [shB, allDig, Bool.and_assoc]
theorem full7 {a b c d f g : UInt8} (h : allDig [a, b, c, d] = true) (h' : allDig [f, g] = true) : parseE (fullL [a, b, c, d, 45, f, g]) = ofE (numL [a, b, c, d] 0) (numL [f, g] 0) 1 :=
  parse_at (l := [a, b, c, d, 45, f, g, 45, 48, 49]) ⟨rfl, rfl, rfl⟩ h h' one1
theorem shaped10 {l : List UInt8} (h : l.length = 10) : shapedB l = true ↔ dshape l ∧ allDig (pY l) = true ∧ allDig (pM l) = true ∧ allDig (pD l) = true := by
  obtain ⟨a, b, c, d, e, f, g, i, j, k, rfl⟩ := len10 h
  unfold shapedB lenB dshape pY pM pD
  simp [shB, allDig]
  constructor
  · rintro ⟨h1, h2, h3, h4, h5, h6, h7, h8, h9, h10⟩
    exact ⟨⟨h5, h8⟩, ⟨h1, h2, h3, h4⟩, ⟨h6, h7⟩, h9, h10⟩
  · rintro ⟨⟨h5, h8⟩, ⟨h1, h2, h3, h4⟩, ⟨h6, h7⟩, h9, h10⟩
    exact ⟨h1, h2, h3, h4, h5, h6, h7, h8, h9, h10⟩
theorem full10 {l : List UInt8} (h : l.length = 10) : fullL l = l := by
  unfold fullL; rw [h]; simp [sufL]
theorem parse_err {l : List UInt8} (h : ¬ (dshape l ∧ allDig (pY l) = true ∧ allDig (pM l) = true ∧ allDig (pD l) = true)) : parseE l = (0, 3) := by
  unfold parseE
  by_cases h1 : dshape l
  · rw [if_pos h1, if_neg (fun h2 => h ⟨h1, h2⟩)]
  · rw [if_neg h1]
theorem num4_range {l : List UInt8} (h : allDig l = true) : 0 ≤ numL l 0 := num_nonneg l h
theorem per4_bad {a b c d : UInt8} (h : allDig [a, b, c, d] = false) : perR [a, b, c, d] = (zD, 3) := by
  rw [perR, shaped4, if_pos h]
theorem per4_out {a b c d : UInt8} (h : allDig [a, b, c, d] = true) (hy : numL [a, b, c, d] 0 < 1600 ∨ numL [a, b, c, d] 0 > 4470) : perR [a, b, c, d] = (zD, 2) := by
  have : ofE (numL [a, b, c, d] 0) 1 1 = (0, 2) := by
    unfold ofE; rw [lenM_out (by omega), if_pos (by omega)]
  have hr : readR [a, b, c, d] = (zD, false) := by rw [readR, full4 h, this, if_pos (by simp)]
  rw [perR, shaped4, if_neg (by rw [h]; simp), hr, if_pos rfl]
theorem per4_in {a b c d : UInt8} (h : allDig [a, b, c, d] = true) (hy : ¬ (numL [a, b, c, d] 0 < 1600 ∨ numL [a, b, c, d] 0 > 4470)) : perR [a, b, c, d] = (yearD (numL [a, b, c, d] 0), 0) := by
  have hD := first_year (y := numL [a, b, c, d] 0) (by omega) (by omega)
  have hm := beg_max (y := numL [a, b, c, d] 0) (by omega)
  have hr : readR [a, b, c, d] = (yearD (numL [a, b, c, d] 0), true) := by
    rw [readR, full4 h, ofE_date hD (by omega), if_neg (by simp)]
    exact Prod.ext (per4 hD) rfl
  rw [perR, shaped4, if_neg (by rw [h]; simp), hr, if_neg (by simp)]
theorem per7_bad {a b c d e f g : UInt8} (h : (allDig [a, b, c, d] && (e == 45) && allDig [f, g]) = false) : perR [a, b, c, d, e, f, g] = (zD, 3) := by
  rw [perR, shaped7, if_pos h]
theorem per7_out {a b c d f g : UInt8} (h1 : allDig [a, b, c, d] = true) (h2 : allDig [f, g] = true) (h : (ofE (numL [a, b, c, d] 0) (numL [f, g] 0) 1).2 ≠ 0) : perR [a, b, c, d, 45, f, g] = (zD, 2) := by
  have hr : readR [a, b, c, d, 45, f, g] = (zD, false) := by rw [readR, full7 h1 h2, if_pos h]
  rw [perR, shaped7, if_neg (by rw [h1, h2]; decide), hr, if_pos rfl]
theorem per7_in {a b c d f g : UInt8} (h1 : allDig [a, b, c, d] = true) (h2 : allDig [f, g] = true) (h : (ofE (numL [a, b, c, d] 0) (numL [f, g] 0) 1).2 = 0) : perR [a, b, c, d, 45, f, g] = (monthD (numL [a, b, c, d] 0) (numL [f, g] 0), 0) := by
  obtain ⟨h3, h4, h5⟩ := of_month h
  have hr : readR [a, b, c, d, 45, f, g] = (monthD (numL [a, b, c, d] 0) (numL [f, g] 0), true) := by
    rw [readR, full7 h1 h2, if_neg (by rw [h]; simp), h3]
    exact Prod.ext (per7 h4) rfl
  rw [perR, shaped7, if_neg (by rw [h1, h2]; decide), hr, if_neg (by simp)]
theorem c49x (l : List UInt8) (hl : l.length ≤ 1000000) (h7 : l.length ≠ 7) : Fn Tryd.prog 49 [.str (bs l)] (.tup [.agg (encD (perR l).1), I (perR l).2]) := by
  refine mk49 rfl ⟨fun h => ?_, fun h => ?_⟩
  · have h : l.length = 4 := by
      have : (((bs l).size : Int) == 4) = true := h
      rw [bs_size] at this; simp at this; omega
    have hN := c_Number l (by omega)
    obtain ⟨p4b, p4o, p4i⟩ : (allDig l = false → perR l = (zD, 3)) ∧ (allDig l = true → (numL l 0 < 1600 ∨ numL l 0 > 4470) → perR l = (zD, 2)) ∧ (allDig l = true → ¬ (numL l 0 < 1600 ∨ numL l 0 > 4470) → perR l = (yearD (numL l 0), 0)) := by
      obtain ⟨a, b, c, d, rfl⟩ := len4 h
      exact ⟨per4_bad, per4_out, per4_in⟩
    have hpos : decide (l.length > 0) = true := by simp; omega
    rw [hpos] at hN
    cases hA : allDig l with
    | false =>
      rw [hA] at hN
      rw [p4b hA]
      refine ⟨_, hN, fun h => ?_, fun h => (by cases h)⟩
      exact ⟨_, _, rfl, ⟨rfl, rfl⟩, rfl, rfl, trivial⟩
    | true =>
      rw [if_pos hA, hA] at hN
      refine ⟨_, hN, fun h => (by cases h), fun _ => ⟨[], fun hy => ?_, fun hy => ?_⟩⟩
      · rw [p4o hA (by simpa using hy)]
        exact ⟨_, _, rfl, ⟨rfl, rfl⟩, rfl, rfl, trivial⟩
      · have hy : ¬ (numL l 0 < 1600 ∨ numL l 0 > 4470) := by simpa using hy
        rw [p4i hA hy]
        refine ⟨_, c38 _ (by omega) (by omega), ?_⟩
        exact ⟨_, _, rfl, ⟨rfl, rfl⟩, rfl, rfl, trivial⟩
  · have h4 : l.length ≠ 4 := by
      have : (((bs l).size : Int) == 4) = false := h
      rw [bs_size] at this; simp at this; omega
    refine ⟨fun h => ?_, fun h => ?_⟩
    · exfalso
      have : (((bs l).size : Int) == 7) = true := h
      rw [bs_size] at this; simp at this; omega
    ·
      refine ⟨_, c_rParse l hl, fun h => ?_, fun h => ?_⟩
      · have h : (parseE l).2 ≠ 0 := by simpa using h
        have : perR l = (zD, (parseE l).2) := by
          by_cases h10 : l.length = 10
          · by_cases hs : shapedB l = true
            · rw [perR, if_neg (by simp [hs]), readR, full10 h10, if_pos h, if_pos rfl]
              rw [shaped10 h10] at hs
              rw [parse_at hs.1 hs.2.1 hs.2.2.1 hs.2.2.2] at h ⊢
              rw [ofE_err h]
            · have he := parse_err (fun h' => hs ((shaped10 h10).2 h'))
              rw [perR, if_pos (by simpa using hs), he]
          · have : shapedB l = false := by unfold shapedB lenB; simp [h4, h7, h10]
            have he := parse_err (l := l) (fun h' => h10 h'.1.1)
            rw [perR, if_pos this, he]
        rw [this]
        exact ⟨_, _, rfl, ⟨rfl, rfl⟩, rfl, rfl, trivial⟩
      · have h : (parseE l).2 = 0 := by simpa using h
        have hs : dshape l ∧ allDig (pY l) = true ∧ allDig (pM l) = true ∧ allDig (pD l) = true := by
          by_cases hs : dshape l ∧ allDig (pY l) = true ∧ allDig (pM l) = true ∧ allDig (pD l) = true
          · exact hs
          · rw [parse_err hs] at h; cases h
        have h10 := hs.1.1
        have hsh := (shaped10 h10).2 hs
        rw [perR, if_neg (by simp [hsh]), readR, full10 h10, if_neg (by rw [if_neg (fun hc => hc h)]; simp), if_neg (fun hc => hc h)]
        have : perE (parseE l).1 ((l.length : Nat) : Int) = ⟨(parseE l).1, (parseE l).1⟩ := perX (by omega) (by omega)
        rw [this]
        exact ⟨_, _, rfl, ⟨rfl, rfl⟩, rfl, rfl, trivial⟩
abbrev ks49 : List Nat := [0, 2, 3, 4, 5, 6, 7, 8, 9, 10, 11, 12, 13, 16, 23, 30, 36, 59, 68, 77]
theorem E49 {code : Code} {c : Cfg} {Q : Ex → Cfg → Prop} (hd : drawsOK code = true) (h : ev Tryd.prog tt 83 ks49 code c Q) : SemA Tryd.prog 83 code c Q := SemA.ev tabOK tabOne mixed hd h
theorem mk49S {args : List AV} {r : AV} (hn : Nat.ble args.length 83 = true) (h : SemA Tryd.prog 83 (body Tryd.f49) ⟨idx 0 args, []⟩ (retQ tt [.cell 2 23, .tmp 3] r)) : Fn Tryd.prog 49 args r :=
  fn_ofS [.cell 2 23, .tmp 3] tabOK Tryd.func49 rfl (by kernel_rfl) hn rfl rfl h
theorem c49_7 (l : List UInt8) (h : l.length = 7) : Fn Tryd.prog 49 [.str (bs l)] (.tup [.agg (encD (perR l).1), I (perR l).2]) := by
  have e1 : (bs l).extract 0 (4 : Int).toNat = bs (l.take 4) := ext_take _ 4
  have e2 : (bs l).extract (5 : Int).toNat (bs l).size = bs (l.drop 5) := ext_drop _ 5
  have hN := c_Number' _ (l.take 4) e1 (by simp; omega)
  have hM := c_Number' _ (l.drop 5) e2 (by simp; omega)
  have hpos1 : decide ((l.take 4).length > 0) = true := by simp; omega
  have hpos2 : decide ((l.drop 5).length > 0) = true := by simp; omega
  rw [hpos1] at hN
  rw [hpos2] at hM
  obtain ⟨e, he4, p7b, p7o, p7i⟩ : ∃ e, l[4]? = some e ∧ ((allDig (l.take 4) && (e == 45) && allDig (l.drop 5)) = false → perR l = (zD, 3)) ∧
      (allDig (l.take 4) = true → allDig (l.drop 5) = true → e = 45 → (ofE (numL (l.take 4) 0) (numL (l.drop 5) 0) 1).2 ≠ 0 → perR l = (zD, 2)) ∧
      (allDig (l.take 4) = true → allDig (l.drop 5) = true → e = 45 → (ofE (numL (l.take 4) 0) (numL (l.drop 5) 0) 1).2 = 0 → perR l = (monthD (numL (l.take 4) 0) (numL (l.drop 5) 0), 0)) := by
    obtain ⟨a, b, c, d, e, f, g, rfl⟩ := len7 h
    exact ⟨e, rfl, per7_bad, fun h1 h2 h3 h4 => by subst h3; exact per7_out h1 h2 h4, fun h1 h2 h3 h4 => by subst h3; exact per7_in h1 h2 h4⟩
  have i4 : (0 : Int) ≤ 4 ∧ (4 : Int) ≤ (bs l).size := ⟨by decide, by rw [bs_size]; omega⟩
  have i5 : (0 : Int) ≤ 5 ∧ (5 : Int) ≤ (bs l).size := ⟨by decide, by rw [bs_size]; omega⟩
  have hi4 := idx_ok (i := 4) he4
  have q4 : (((bs l).size : Int) == 4) = false := by rw [bs_size, h]; rfl
  have q7 : (((bs l).size : Int) == 7) = true := by rw [bs_size, h]; rfl
  generalize hR : perR l = R at *
  refine mk49S rfl (SemA.seq (fun c' => c' = ⟨[(0, .str (bs l)), (2, .ovar 32 0), (3, I 0)], [(32, ⟨23, 2, .any, [encD zD]⟩)]⟩) (E49 rfl rfl) ?_)
  rintro _ rfl
  refine SemA.seq (fun c' => c' = ⟨[(0, .str (bs l)), (2, .ovar 32 0), (3, I 0), (16, .bool (((bs l).size : Int) == 4))], [(32, ⟨23, 2, .any, [encD zD]⟩)]⟩) (E49 rfl ⟨fun h => (by rw [show (((bs l).size : Int) == 4) = false from q4] at h; cases h), fun _ => rfl⟩) ?_
  rintro _ rfl
  refine SemA.seq (fun _ => False) ?_ (fun _ h => h.elim)
  refine SemA.seq (fun c' => c' = ⟨[(0, .str (bs l)), (2, .ovar 32 0), (3, I 0), (16, .bool (((bs l).size : Int) == 4)), (36, .bool (((bs l).size : Int) == 7))], [(32, ⟨23, 2, .any, [encD zD]⟩)]⟩) (E49 rfl rfl) ?_
  rintro _ rfl
  refine SemA.cond (b := (((bs l).size : Int) == 7)) rfl (fun _ => ?_) (fun h => by rw [q7] at h; cases h)
  generalize hs : bs l = s at *
  clear hs
  generalize (((s.size : Nat) : Int) == 4) = f4
  generalize (((s.size : Nat) : Int) == 7) = f7
  cases hA : allDig (l.take 4) with
  | false =>
    rw [hA] at hN
    have hR' := p7b (by rw [hA]; rfl)
    subst hR'
    generalize (if false = true then numL (l.take 4) 0 else 0) = n1 at hN
    generalize (if allDig (l.drop 5) = true then numL (l.drop 5) 0 else 0) = n2 at hM
    generalize (allDig (l.drop 5) && true) = b2 at hM
    refine SemA.seq (fun c' => c' = ⟨[(0, .str s), (2, .ovar 32 0), (3, I 0), (6, I n1), (7, .bool false), (16, .bool f4), (36, .bool f7)], [(32, ⟨23, 2, .any, [encD zD]⟩)]⟩) (E49 rfl ⟨i4, _, hN, rfl⟩) ?_
    rintro _ rfl
    refine SemA.seq (fun c' => c' = ⟨[(0, .str s), (2, .ovar 32 0), (3, I 0), (6, I n1), (7, .bool false), (8, I n2), (9, .bool b2), (16, .bool f4), (36, .bool f7)], [(32, ⟨23, 2, .any, [encD zD]⟩)]⟩) (E49 rfl ⟨i5, _, hM, rfl⟩) ?_
    rintro _ rfl
    exact E49 rfl ⟨[(2, true), (6, true)], rfl, rfl, fun _ => ⟨_, _, rfl, ⟨rfl, rfl⟩, rfl, rfl, trivial⟩, fun h => (by cases h)⟩
  | true =>
    rw [if_pos hA, hA] at hN
    refine SemA.seq (fun c' => c' = ⟨[(0, .str s), (2, .ovar 32 0), (3, I 0), (6, I (numL (l.take 4) 0)), (7, .bool true), (16, .bool f4), (36, .bool f7)], [(32, ⟨23, 2, .any, [encD zD]⟩)]⟩) (E49 rfl ⟨i4, _, hN, rfl⟩) ?_
    rintro _ rfl
    cases hB : allDig (l.drop 5) with
    | false =>
      rw [hB] at hM
      have hR' := p7b (by rw [hA, hB]; simp)
      subst hR'
      generalize (if false = true then numL (l.drop 5) 0 else 0) = n2 at hM
      refine SemA.seq (fun c' => c' = ⟨[(0, .str s), (2, .ovar 32 0), (3, I 0), (6, I (numL (l.take 4) 0)), (7, .bool true), (8, I n2), (9, .bool false), (16, .bool f4), (36, .bool f7)], [(32, ⟨23, 2, .any, [encD zD]⟩)]⟩) (E49 rfl ⟨i5, _, hM, rfl⟩) ?_
      rintro _ rfl
      exact E49 rfl ⟨[(2, false), (6, true)], rfl, rfl, fun _ => ⟨_, _, rfl, ⟨rfl, rfl⟩, rfl, rfl, trivial⟩, fun h => (by cases h)⟩
    | true =>
      rw [if_pos hB, hB] at hM
      refine SemA.seq (fun c' => c' = ⟨[(0, .str s), (2, .ovar 32 0), (3, I 0), (6, I (numL (l.take 4) 0)), (7, .bool true), (8, I (numL (l.drop 5) 0)), (9, .bool true), (16, .bool f4), (36, .bool f7)], [(32, ⟨23, 2, .any, [encD zD]⟩)]⟩) (E49 rfl ⟨i5, _, hM, rfl⟩) ?_
      rintro _ rfl
      refine E49 rfl ⟨[(2, false), (6, false)], rfl, rfl, _, hi4, fun h => ?_, fun h => ?_⟩
      · have h : (((e.toNat : Nat) : Int) != 45) = true := h
        rw [eq45] at h
        have he : (e == 45) = false := by simpa using h
        have hR' := p7b (by rw [hA, hB, he]; rfl)
        subst hR'
        exact ⟨_, _, rfl, ⟨rfl, rfl⟩, rfl, rfl, trivial⟩
      · have h : (((e.toNat : Nat) : Int) != 45) = false := h
        rw [eq45] at h
        have he : e = 45 := by simpa using h
        have h37 := c37 (numL (l.take 4) 0) (numL (l.drop 5) 0)
        by_cases ho : (ofE (numL (l.take 4) 0) (numL (l.drop 5) 0) 1).2 = 0
        · rw [monthR, if_neg (by rw [ho]; simp)] at h37
          have hR' := p7i hA hB he ho
          subst hR'
          exact ⟨_, h37, fun h => (by cases h), fun _ => ⟨_, _, rfl, ⟨rfl, rfl⟩, rfl, rfl, trivial⟩⟩
        · rw [monthR, if_pos ho] at h37
          have hR' := p7o hA hB he ho
          subst hR'
          exact ⟨_, h37, fun _ => ⟨_, _, rfl, ⟨rfl, rfl⟩, rfl, rfl, trivial⟩, fun h => (by cases h)⟩
theorem c49 (l : List UInt8) (hl : l.length ≤ 1000000) : Fn Tryd.prog 49 [.str (bs l)] (.tup [.agg (encD (perR l).1), I (perR l).2]) := by
  by_cases h7 : l.length = 7
  · exact c49_7 l h7
  · exact c49x l hl h7
def spanR (a b : Int) : Dat × Int := if okD ⟨a, b⟩ = false then (zD, 2) else (⟨a, b⟩, 0)
theorem c50 (a b : Int) : Fn Tryd.prog 50 [I a, I b] (.tup [.agg (encD (spanR a b).1), I (spanR a b).2]) := by
  refine mk50 rfl ⟨_, c_rdGood ⟨a, b⟩, fun h => ?_, fun h => ?_⟩
  · rw [spanR, if_pos (by simpa using h)]
    exact ⟨_, _, rfl, ⟨rfl, rfl⟩, rfl, rfl, trivial⟩
  · rw [spanR, if_neg (by simpa using h)]
    exact ⟨_, _, rfl, ⟨rfl, rfl⟩, rfl, rfl, trivial⟩
def worseE (a b : Int) : Int := if a = 3 ∨ b = 3 then 3 else if a ≠ 0 then a else b
theorem c51 (a b : Int) : Fn Tryd.prog 51 [I a, I b] (I (worseE a b)) := by
  refine mk51 rfl ⟨[], fun h => ?_, fun h => ?_⟩
  · rw [worseE, if_pos (by simpa using h)]
    exact ⟨rfl, rfl, rfl⟩
  · rw [worseE, if_neg (by simpa using h)]
    refine ⟨fun h => ?_, fun h => ?_⟩
    · rw [if_pos (by simpa using h)]
      exact ⟨rfl, rfl, rfl⟩
    · rw [if_neg (by simpa using h)]
      exact ⟨rfl, rfl, rfl⟩
end Go.Abs.L03
