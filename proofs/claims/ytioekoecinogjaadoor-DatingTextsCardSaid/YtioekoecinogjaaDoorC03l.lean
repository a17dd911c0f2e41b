import Derived.Test.YtioekoecinogjaaDoorC03k
namespace Go.Abs.L03
open Go Go.Abs Go.Abs.Day Go.Proofs Go.RowKit
set_option linter.unusedVariables false
set_option maxRecDepth 20000
noncomputable def joinR (ps : List (List UInt8)) (J : List Dat → Dat) : Dat × Int :=
  if ps.all shapedB = false then (zD, 3)
  else if ps.all (fun p => (readR p).2) = false then (zD, 2)
  else if okD (J (ps.map fun p => (readR p).1)) = false then (zD, 2) else (J (ps.map fun p => (readR p).1), 0)
noncomputable def parseD (l : List UInt8) : Dat × Int :=
  if l = unknownL then (⟨0, 1048575⟩, 0)
  else if hasP beforeL l = true then joinR [l.drop 7] J2
  else if hasP afterL l = true then joinR [l.drop 6] J3
  else if (Lib.cut l [47]).2.2 = true then joinR [(Lib.cut l [47]).1, (Lib.cut l [47]).2.1] J4
  else joinR [l] J1
theorem cut_len (l : List UInt8) : (Lib.cut l [47]).1.length ≤ l.length ∧ (Lib.cut l [47]).2.1.length ≤ l.length := by
  unfold Lib.cut
  split
  · simp; omega
  · simp
theorem c14b (l : List UInt8) (hl : l.length ≤ 1000) (hu : l ≠ unknownL) (h1 : hasP beforeL l = true) : Fn Tryd.prog 14 [.str (bs l)] (.tup [.agg (encD (parseD l).1), I (parseD l).2]) := by
  obtain ⟨ps, hps⟩ : ∃ ps : List (List UInt8), ps = [l.drop 7] := ⟨_, rfl⟩
  have hk : ps.length = 1 := by rw [hps]; rfl
  have hpl : ∀ p ∈ ps, p.length ≤ 1000 := by
    have hcl := cut_len l
    rw [hps]; intro p hp; simp at hp
    subst hp; simp; omega
  have hspec : parseD l = joinR ps J2 := by rw [hps]; unfold parseD; rw [if_neg hu, if_pos h1]
  rw [hspec]
  have h41 := c41 l (by omega)
  have hb := c42 l beforeL (by omega) (by decide)
  have ha := c42 l afterL (by omega) (by decide)
  rw [cutP, if_pos h1] at hb
  have hn : ((bs l).toList == (bs unknownL).toList) = false := by rw [bs_eq]; simpa using hu
  refine mk14 rfl ⟨_, h41, _, hb, _, ha, fun h => (by rw [show ((bs l).toList == (⟨#[117, 110, 107, 110, 111, 119, 110]⟩ : ByteArray).toList) = false from hn] at h; cases h), fun _ => ?_⟩
  refine ⟨fun _ => ?_, fun h => (by cases h)⟩
  ·
      refine ⟨fun N c => ∃ i : Nat, i ≤ 1 ∧ N = 1 - i ∧ c = ⟨[(2, .ovar 32 0), (3, I 0), (4, .ovar 64 0), (12, .osl 752 1 1), (13, .func 44 [.ovar 64 0]), (60, .osl 752 1 1), (61, I ((1 : Nat) : Int)), (62, I i)], [(32, ⟨23, 2, .any, [encD zD]⟩), (64, ⟨23, 2, .any, [encD zD]⟩), (752, ⟨9, 1, .pure, ps.map (fun p => [AV.str (bs p)])⟩)]⟩ ∧ (ps.drop i).all shapedB = ps.all shapedB, ⟨_, _, Wk.keep [2, 3, 4, 12, 13, 60, 61, 62] [32, 64, 752], 0, by omega, rfl, by rw [hps]; rfl, by simp⟩, ?_⟩
      rintro N c ⟨i, hi, rfl, rfl, hI⟩
      refine ⟨fun h => ?_, fun h => ?_⟩
      · have h : i < 1 := by
          have : ((i : Nat) : Int) < ((1 : Nat) : Int) := of_decide_eq_true h
          omega
        obtain ⟨p, hp, hd, _⟩ := drop_cons (l := ps) (i := i) (by omega)
        rw [hd, List.all_cons] at hI
        have hpb := hpl p (List.mem_of_getElem? hp)
        refine ⟨⟨by omega, by omega⟩, [.str (bs p)], get_map' hp rfl, _, c47 p (by omega), fun hf => ?_, fun hf => ?_⟩
        · have hf : shapedB p = false := by simpa using hf
          rw [hf, Bool.false_and] at hI
          rw [joinR, if_pos hI.symm]
          exact ⟨_, _, rfl, ⟨rfl, rfl⟩, rfl, rfl, trivial⟩
        · have hf : shapedB p = true := by simpa using hf
          rw [hf, Bool.true_and] at hI
          exact ⟨_, wrap64 (by omega) (by omega), _, _, Wk.keep [2, 3, 4, 12, 13, 60, 61, 62] [32, 64, 752], by omega, i + 1, by omega, rfl, rfl, hI⟩
      · have h : ¬ i < 1 := by
          have : ¬ ((i : Nat) : Int) < ((1 : Nat) : Int) := of_decide_eq_false h
          omega
        have hiK : i = 1 := by omega
        subst hiK
        rw [List.drop_of_length_le (by omega), List.all_nil] at hI
        rw [joinR, if_neg (by rw [← hI]; simp)]
        have hsh : ∀ p ∈ ps, shapedB p = true := List.all_eq_true.1 hI.symm
        refine ⟨fun N c => ∃ (i : Nat) (ds : List Dat), i ≤ 1 ∧ ds.length = i ∧ ds = (ps.take i).map (fun p => (readR p).1) ∧ (∀ d ∈ ds, okD d = true) ∧ N = 1 - i ∧ c = ⟨[(2, .ovar 32 0), (3, I 0), (4, .ovar 64 0), (13, .func 44 [.ovar 64 0]), (16, .osl 1408 2 ds.length), (71, .osl 752 1 1), (72, I ((1 : Nat) : Int)), (73, I i)], [(32, ⟨23, 2, .any, [encD zD]⟩), (64, ⟨23, 2, .any, [encD zD]⟩), (752, ⟨9, 1, .pure, ps.map (fun p => [AV.str (bs p)])⟩), (1408, ⟨23, 2, .pure, ds.map encD⟩)]⟩ ∧ (ps.drop i).all (fun p => (readR p).2) = ps.all (fun p => (readR p).2), ⟨_, _, Wk.nilKeep 16 1408 ⟨23, 2, .pure, []⟩ [2, 3, 4, 13, 16, 71, 72, 73] [32, 64, 752, 1408] rfl rfl rfl, 0, [], by omega, rfl, by simp, by simp, rfl, rfl, by simp⟩, ?_⟩
        rintro N c ⟨i, ds, hi, hdl, hds, hdo, rfl, rfl, hJ⟩
        refine ⟨fun h => ?_, fun h => ?_⟩
        · have h : i < 1 := by
            have : ((i : Nat) : Int) < ((1 : Nat) : Int) := of_decide_eq_true h
            omega
          obtain ⟨p, hp, hd, ht⟩ := drop_cons (l := ps) (i := i) (by omega)
          rw [hd, List.all_cons] at hJ
          have hps1 := hsh p (List.mem_of_getElem? hp)
          refine ⟨⟨by omega, by omega⟩, [.str (bs p)], get_map' hp rfl, _, c48 p (shaped_len hps1), fun hf => ?_, fun hf => ?_⟩
          · have hf : (readR p).2 = false := by simpa using hf
            rw [hf, Bool.false_and] at hJ
            rw [if_pos hJ.symm]
            exact ⟨_, _, rfl, ⟨rfl, rfl⟩, rfl, rfl, trivial⟩
          · have hf : (readR p).2 = true := by simpa using hf
            rw [hf, Bool.true_and] at hJ
            refine ⟨⟨by show (_ + 1) * 16 ≤ _; omega, by omega⟩, _, wrap64 (by omega) (by omega), ?_⟩
            refine ⟨_, _, Wk.keep [2, 3, 4, 13, 16, 71, 72, 73] [32, 64, 752, 1408], by omega, i + 1, ds ++ [(readR p).1], by omega, by simp [hdl], by rw [ht, List.map_append, ← hds]; rfl, ?_, rfl, ?_, hJ⟩
            · intro d hd'
              rcases List.mem_append.1 hd' with hd' | hd'
              · exact hdo d hd'
              · simp at hd'; subst hd'; exact read_ok hf
            · rw [List.map_append, List.length_append, ← take_app (n := ds.length) (ds.map encD) _ (by simp)]
              rfl
        · have h : ¬ i < 1 := by
            have : ¬ ((i : Nat) : Int) < ((1 : Nat) : Int) := of_decide_eq_false h
            omega
          have hiK : i = 1 := by omega
          rw [hiK, List.drop_of_length_le (by omega), List.all_nil] at hJ
          rw [if_neg (by rw [← hJ]; simp)]
          have hdA : ps.map (fun p => (readR p).1) = ds := by rw [hds, List.take_of_length_le (by omega)]
          rw [hdA]
          refine ⟨_, _, j44 64 ds (by omega) hdo, ?_⟩
          refine ⟨_, c_dCheck (J2 ds), fun hf => ?_, fun hf => ?_⟩
          · have hf : (chkD (J2 ds) != 0) = true := hf
            rw [chk_bne] at hf
            rw [if_pos (by simpa using hf)]
            exact ⟨_, _, rfl, ⟨rfl, rfl⟩, rfl, rfl, trivial⟩
          · have hf : (chkD (J2 ds) != 0) = false := hf
            rw [chk_bne] at hf
            rw [if_neg (by simpa using hf)]
            exact ⟨_, _, rfl, ⟨rfl, rfl⟩, rfl, rfl, trivial⟩
theorem c14a (l : List UInt8) (hl : l.length ≤ 1000) (hu : l ≠ unknownL) (h1 : hasP beforeL l = false) (h2 : hasP afterL l = true) : Fn Tryd.prog 14 [.str (bs l)] (.tup [.agg (encD (parseD l).1), I (parseD l).2]) := by
  obtain ⟨ps, hps⟩ : ∃ ps : List (List UInt8), ps = [l.drop 6] := ⟨_, rfl⟩
  have hk : ps.length = 1 := by rw [hps]; rfl
  have hpl : ∀ p ∈ ps, p.length ≤ 1000 := by
    have hcl := cut_len l
    rw [hps]; intro p hp; simp at hp
    subst hp; simp; omega
  have hspec : parseD l = joinR ps J3 := by rw [hps]; unfold parseD; rw [if_neg hu, if_neg (by rw [h1]; simp), if_pos h2]
  rw [hspec]
  have h41 := c41 l (by omega)
  have hb := c42 l beforeL (by omega) (by decide)
  have ha := c42 l afterL (by omega) (by decide)
  rw [cutP, if_neg (by rw [h1]; simp)] at hb
  rw [cutP, if_pos h2] at ha
  have hn : ((bs l).toList == (bs unknownL).toList) = false := by rw [bs_eq]; simpa using hu
  refine mk14 rfl ⟨_, h41, _, hb, _, ha, fun h => (by rw [show ((bs l).toList == (⟨#[117, 110, 107, 110, 111, 119, 110]⟩ : ByteArray).toList) = false from hn] at h; cases h), fun _ => ?_⟩
  refine ⟨fun h => (by cases h), fun _ => ⟨fun _ => ?_, fun h => (by cases h)⟩⟩
  ·
      refine ⟨fun N c => ∃ i : Nat, i ≤ 1 ∧ N = 1 - i ∧ c = ⟨[(2, .ovar 32 0), (3, I 0), (4, .ovar 64 0), (12, .osl 832 1 1), (13, .func 45 [.ovar 64 0]), (60, .osl 832 1 1), (61, I ((1 : Nat) : Int)), (62, I i)], [(32, ⟨23, 2, .any, [encD zD]⟩), (64, ⟨23, 2, .any, [encD zD]⟩), (832, ⟨9, 1, .pure, ps.map (fun p => [AV.str (bs p)])⟩)]⟩ ∧ (ps.drop i).all shapedB = ps.all shapedB, ⟨_, _, Wk.keep [2, 3, 4, 12, 13, 60, 61, 62] [32, 64, 832], 0, by omega, rfl, by rw [hps]; rfl, by simp⟩, ?_⟩
      rintro N c ⟨i, hi, rfl, rfl, hI⟩
      refine ⟨fun h => ?_, fun h => ?_⟩
      · have h : i < 1 := by
          have : ((i : Nat) : Int) < ((1 : Nat) : Int) := of_decide_eq_true h
          omega
        obtain ⟨p, hp, hd, _⟩ := drop_cons (l := ps) (i := i) (by omega)
        rw [hd, List.all_cons] at hI
        have hpb := hpl p (List.mem_of_getElem? hp)
        refine ⟨⟨by omega, by omega⟩, [.str (bs p)], get_map' hp rfl, _, c47 p (by omega), fun hf => ?_, fun hf => ?_⟩
        · have hf : shapedB p = false := by simpa using hf
          rw [hf, Bool.false_and] at hI
          rw [joinR, if_pos hI.symm]
          exact ⟨_, _, rfl, ⟨rfl, rfl⟩, rfl, rfl, trivial⟩
        · have hf : shapedB p = true := by simpa using hf
          rw [hf, Bool.true_and] at hI
          exact ⟨_, wrap64 (by omega) (by omega), _, _, Wk.keep [2, 3, 4, 12, 13, 60, 61, 62] [32, 64, 832], by omega, i + 1, by omega, rfl, rfl, hI⟩
      · have h : ¬ i < 1 := by
          have : ¬ ((i : Nat) : Int) < ((1 : Nat) : Int) := of_decide_eq_false h
          omega
        have hiK : i = 1 := by omega
        subst hiK
        rw [List.drop_of_length_le (by omega), List.all_nil] at hI
        rw [joinR, if_neg (by rw [← hI]; simp)]
        have hsh : ∀ p ∈ ps, shapedB p = true := List.all_eq_true.1 hI.symm
        refine ⟨fun N c => ∃ (i : Nat) (ds : List Dat), i ≤ 1 ∧ ds.length = i ∧ ds = (ps.take i).map (fun p => (readR p).1) ∧ (∀ d ∈ ds, okD d = true) ∧ N = 1 - i ∧ c = ⟨[(2, .ovar 32 0), (3, I 0), (4, .ovar 64 0), (13, .func 45 [.ovar 64 0]), (16, .osl 1408 2 ds.length), (71, .osl 832 1 1), (72, I ((1 : Nat) : Int)), (73, I i)], [(32, ⟨23, 2, .any, [encD zD]⟩), (64, ⟨23, 2, .any, [encD zD]⟩), (832, ⟨9, 1, .pure, ps.map (fun p => [AV.str (bs p)])⟩), (1408, ⟨23, 2, .pure, ds.map encD⟩)]⟩ ∧ (ps.drop i).all (fun p => (readR p).2) = ps.all (fun p => (readR p).2), ⟨_, _, Wk.nilKeep 16 1408 ⟨23, 2, .pure, []⟩ [2, 3, 4, 13, 16, 71, 72, 73] [32, 64, 832, 1408] rfl rfl rfl, 0, [], by omega, rfl, by simp, by simp, rfl, rfl, by simp⟩, ?_⟩
        rintro N c ⟨i, ds, hi, hdl, hds, hdo, rfl, rfl, hJ⟩
        refine ⟨fun h => ?_, fun h => ?_⟩
        · have h : i < 1 := by
            have : ((i : Nat) : Int) < ((1 : Nat) : Int) := of_decide_eq_true h
            omega
          obtain ⟨p, hp, hd, ht⟩ := drop_cons (l := ps) (i := i) (by omega)
          rw [hd, List.all_cons] at hJ
          have hps1 := hsh p (List.mem_of_getElem? hp)
          refine ⟨⟨by omega, by omega⟩, [.str (bs p)], get_map' hp rfl, _, c48 p (shaped_len hps1), fun hf => ?_, fun hf => ?_⟩
          · have hf : (readR p).2 = false := by simpa using hf
            rw [hf, Bool.false_and] at hJ
            rw [if_pos hJ.symm]
            exact ⟨_, _, rfl, ⟨rfl, rfl⟩, rfl, rfl, trivial⟩
          · have hf : (readR p).2 = true := by simpa using hf
            rw [hf, Bool.true_and] at hJ
            refine ⟨⟨by show (_ + 1) * 16 ≤ _; omega, by omega⟩, _, wrap64 (by omega) (by omega), ?_⟩
            refine ⟨_, _, Wk.keep [2, 3, 4, 13, 16, 71, 72, 73] [32, 64, 832, 1408], by omega, i + 1, ds ++ [(readR p).1], by omega, by simp [hdl], by rw [ht, List.map_append, ← hds]; rfl, ?_, rfl, ?_, hJ⟩
            · intro d hd'
              rcases List.mem_append.1 hd' with hd' | hd'
              · exact hdo d hd'
              · simp at hd'; subst hd'; exact read_ok hf
            · rw [List.map_append, List.length_append, ← take_app (n := ds.length) (ds.map encD) _ (by simp)]
              rfl
        · have h : ¬ i < 1 := by
            have : ¬ ((i : Nat) : Int) < ((1 : Nat) : Int) := of_decide_eq_false h
            omega
          have hiK : i = 1 := by omega
          rw [hiK, List.drop_of_length_le (by omega), List.all_nil] at hJ
          rw [if_neg (by rw [← hJ]; simp)]
          have hdA : ps.map (fun p => (readR p).1) = ds := by rw [hds, List.take_of_length_le (by omega)]
          rw [hdA]
          refine ⟨_, _, j45 64 ds (by omega) hdo, ?_⟩
          refine ⟨_, c_dCheck (J3 ds), fun hf => ?_, fun hf => ?_⟩
          · have hf : (chkD (J3 ds) != 0) = true := hf
            rw [chk_bne] at hf
            rw [if_pos (by simpa using hf)]
            exact ⟨_, _, rfl, ⟨rfl, rfl⟩, rfl, rfl, trivial⟩
          · have hf : (chkD (J3 ds) != 0) = false := hf
            rw [chk_bne] at hf
            rw [if_neg (by simpa using hf)]
            exact ⟨_, _, rfl, ⟨rfl, rfl⟩, rfl, rfl, trivial⟩
theorem c14c (l : List UInt8) (hl : l.length ≤ 1000) (hu : l ≠ unknownL) (h1 : hasP beforeL l = false) (h2 : hasP afterL l = false) (h3 : (Lib.cut l [47]).2.2 = true) : Fn Tryd.prog 14 [.str (bs l)] (.tup [.agg (encD (parseD l).1), I (parseD l).2]) := by
  obtain ⟨ps, hps⟩ : ∃ ps : List (List UInt8), ps = [(Lib.cut l [47]).1, (Lib.cut l [47]).2.1] := ⟨_, rfl⟩
  have hk : ps.length = 2 := by rw [hps]; rfl
  have hpl : ∀ p ∈ ps, p.length ≤ 1000 := by
    have hcl := cut_len l
    rw [hps]; intro p hp; simp at hp
    rcases hp with rfl | rfl <;> omega
  have hspec : parseD l = joinR ps J4 := by rw [hps]; unfold parseD; rw [if_neg hu, if_neg (by rw [h1]; simp), if_neg (by rw [h2]; simp), if_pos h3]
  rw [hspec]
  have h41 := c41 l (by omega)
  have hb := c42 l beforeL (by omega) (by decide)
  have ha := c42 l afterL (by omega) (by decide)
  rw [cutP, if_neg (by rw [h1]; simp)] at hb
  rw [cutP, if_neg (by rw [h2]; simp)] at ha
  rw [h3] at h41
  have hn : ((bs l).toList == (bs unknownL).toList) = false := by rw [bs_eq]; simpa using hu
  refine mk14 rfl ⟨_, h41, _, hb, _, ha, fun h => (by rw [show ((bs l).toList == (⟨#[117, 110, 107, 110, 111, 119, 110]⟩ : ByteArray).toList) = false from hn] at h; cases h), fun _ => ?_⟩
  refine ⟨fun h => (by cases h), fun _ => ⟨fun h => (by cases h), fun _ => ⟨fun _ => ?_, fun h => (by cases h)⟩⟩⟩
  ·
      refine ⟨fun N c => ∃ i : Nat, i ≤ 2 ∧ N = 2 - i ∧ c = ⟨[(2, .ovar 32 0), (3, I 0), (4, .ovar 64 0), (12, .osl 928 1 2), (13, .func 46 [.ovar 64 0]), (60, .osl 928 1 2), (61, I ((2 : Nat) : Int)), (62, I i)], [(32, ⟨23, 2, .any, [encD zD]⟩), (64, ⟨23, 2, .any, [encD zD]⟩), (928, ⟨9, 1, .pure, ps.map (fun p => [AV.str (bs p)])⟩)]⟩ ∧ (ps.drop i).all shapedB = ps.all shapedB, ⟨_, _, Wk.keep [2, 3, 4, 12, 13, 60, 61, 62] [32, 64, 928], 0, by omega, rfl, by rw [hps]; rfl, by simp⟩, ?_⟩
      rintro N c ⟨i, hi, rfl, rfl, hI⟩
      refine ⟨fun h => ?_, fun h => ?_⟩
      · have h : i < 2 := by
          have : ((i : Nat) : Int) < ((2 : Nat) : Int) := of_decide_eq_true h
          omega
        obtain ⟨p, hp, hd, _⟩ := drop_cons (l := ps) (i := i) (by omega)
        rw [hd, List.all_cons] at hI
        have hpb := hpl p (List.mem_of_getElem? hp)
        refine ⟨⟨by omega, by omega⟩, [.str (bs p)], get_map' hp rfl, _, c47 p (by omega), fun hf => ?_, fun hf => ?_⟩
        · have hf : shapedB p = false := by simpa using hf
          rw [hf, Bool.false_and] at hI
          rw [joinR, if_pos hI.symm]
          exact ⟨_, _, rfl, ⟨rfl, rfl⟩, rfl, rfl, trivial⟩
        · have hf : shapedB p = true := by simpa using hf
          rw [hf, Bool.true_and] at hI
          exact ⟨_, wrap64 (by omega) (by omega), _, _, Wk.keep [2, 3, 4, 12, 13, 60, 61, 62] [32, 64, 928], by omega, i + 1, by omega, rfl, rfl, hI⟩
      · have h : ¬ i < 2 := by
          have : ¬ ((i : Nat) : Int) < ((2 : Nat) : Int) := of_decide_eq_false h
          omega
        have hiK : i = 2 := by omega
        subst hiK
        rw [List.drop_of_length_le (by omega), List.all_nil] at hI
        rw [joinR, if_neg (by rw [← hI]; simp)]
        have hsh : ∀ p ∈ ps, shapedB p = true := List.all_eq_true.1 hI.symm
        refine ⟨fun N c => ∃ (i : Nat) (ds : List Dat), i ≤ 2 ∧ ds.length = i ∧ ds = (ps.take i).map (fun p => (readR p).1) ∧ (∀ d ∈ ds, okD d = true) ∧ N = 2 - i ∧ c = ⟨[(2, .ovar 32 0), (3, I 0), (4, .ovar 64 0), (13, .func 46 [.ovar 64 0]), (16, .osl 1408 2 ds.length), (71, .osl 928 1 2), (72, I ((2 : Nat) : Int)), (73, I i)], [(32, ⟨23, 2, .any, [encD zD]⟩), (64, ⟨23, 2, .any, [encD zD]⟩), (928, ⟨9, 1, .pure, ps.map (fun p => [AV.str (bs p)])⟩), (1408, ⟨23, 2, .pure, ds.map encD⟩)]⟩ ∧ (ps.drop i).all (fun p => (readR p).2) = ps.all (fun p => (readR p).2), ⟨_, _, Wk.nilKeep 16 1408 ⟨23, 2, .pure, []⟩ [2, 3, 4, 13, 16, 71, 72, 73] [32, 64, 928, 1408] rfl rfl rfl, 0, [], by omega, rfl, by simp, by simp, rfl, rfl, by simp⟩, ?_⟩
        rintro N c ⟨i, ds, hi, hdl, hds, hdo, rfl, rfl, hJ⟩
        refine ⟨fun h => ?_, fun h => ?_⟩
        · have h : i < 2 := by
            have : ((i : Nat) : Int) < ((2 : Nat) : Int) := of_decide_eq_true h
            omega
          obtain ⟨p, hp, hd, ht⟩ := drop_cons (l := ps) (i := i) (by omega)
          rw [hd, List.all_cons] at hJ
          have hps1 := hsh p (List.mem_of_getElem? hp)
          refine ⟨⟨by omega, by omega⟩, [.str (bs p)], get_map' hp rfl, _, c48 p (shaped_len hps1), fun hf => ?_, fun hf => ?_⟩
          · have hf : (readR p).2 = false := by simpa using hf
            rw [hf, Bool.false_and] at hJ
            rw [if_pos hJ.symm]
            exact ⟨_, _, rfl, ⟨rfl, rfl⟩, rfl, rfl, trivial⟩
          · have hf : (readR p).2 = true := by simpa using hf
            rw [hf, Bool.true_and] at hJ
            refine ⟨⟨by show (_ + 1) * 16 ≤ _; omega, by omega⟩, _, wrap64 (by omega) (by omega), ?_⟩
            refine ⟨_, _, Wk.keep [2, 3, 4, 13, 16, 71, 72, 73] [32, 64, 928, 1408], by omega, i + 1, ds ++ [(readR p).1], by omega, by simp [hdl], by rw [ht, List.map_append, ← hds]; rfl, ?_, rfl, ?_, hJ⟩
            · intro d hd'
              rcases List.mem_append.1 hd' with hd' | hd'
              · exact hdo d hd'
              · simp at hd'; subst hd'; exact read_ok hf
            · rw [List.map_append, List.length_append, ← take_app (n := ds.length) (ds.map encD) _ (by simp)]
              rfl
        · have h : ¬ i < 2 := by
            have : ¬ ((i : Nat) : Int) < ((2 : Nat) : Int) := of_decide_eq_false h
            omega
          have hiK : i = 2 := by omega
          rw [hiK, List.drop_of_length_le (by omega), List.all_nil] at hJ
          rw [if_neg (by rw [← hJ]; simp)]
          have hdA : ps.map (fun p => (readR p).1) = ds := by rw [hds, List.take_of_length_le (by omega)]
          rw [hdA]
          refine ⟨_, _, j46 64 ds (by omega) hdo, ?_⟩
          refine ⟨_, c_dCheck (J4 ds), fun hf => ?_, fun hf => ?_⟩
          · have hf : (chkD (J4 ds) != 0) = true := hf
            rw [chk_bne] at hf
            rw [if_pos (by simpa using hf)]
            exact ⟨_, _, rfl, ⟨rfl, rfl⟩, rfl, rfl, trivial⟩
          · have hf : (chkD (J4 ds) != 0) = false := hf
            rw [chk_bne] at hf
            rw [if_neg (by simpa using hf)]
            exact ⟨_, _, rfl, ⟨rfl, rfl⟩, rfl, rfl, trivial⟩
theorem c14d (l : List UInt8) (hl : l.length ≤ 1000) (hu : l ≠ unknownL) (h1 : hasP beforeL l = false) (h2 : hasP afterL l = false) (h3 : (Lib.cut l [47]).2.2 = false) : Fn Tryd.prog 14 [.str (bs l)] (.tup [.agg (encD (parseD l).1), I (parseD l).2]) := by
  obtain ⟨ps, hps⟩ : ∃ ps : List (List UInt8), ps = [l] := ⟨_, rfl⟩
  have hk : ps.length = 1 := by rw [hps]; rfl
  have hpl : ∀ p ∈ ps, p.length ≤ 1000 := by
    have hcl := cut_len l
    rw [hps]; intro p hp; simp at hp
    subst hp; omega
  have hspec : parseD l = joinR ps J1 := by rw [hps]; unfold parseD; rw [if_neg hu, if_neg (by rw [h1]; simp), if_neg (by rw [h2]; simp), if_neg (by rw [h3]; simp)]
  rw [hspec]
  have h41 := c41 l (by omega)
  have hb := c42 l beforeL (by omega) (by decide)
  have ha := c42 l afterL (by omega) (by decide)
  rw [cutP, if_neg (by rw [h1]; simp)] at hb
  rw [cutP, if_neg (by rw [h2]; simp)] at ha
  rw [h3] at h41
  have hn : ((bs l).toList == (bs unknownL).toList) = false := by rw [bs_eq]; simpa using hu
  refine mk14 rfl ⟨_, h41, _, hb, _, ha, fun h => (by rw [show ((bs l).toList == (⟨#[117, 110, 107, 110, 111, 119, 110]⟩ : ByteArray).toList) = false from hn] at h; cases h), fun _ => ?_⟩
  refine ⟨fun h => (by cases h), fun _ => ⟨fun h => (by cases h), fun _ => ⟨fun h => (by cases h), fun _ => ?_⟩⟩⟩
  ·
      refine ⟨fun N c => ∃ i : Nat, i ≤ 1 ∧ N = 1 - i ∧ c = ⟨[(2, .ovar 32 0), (3, I 0), (4, .ovar 64 0), (12, .osl 608 1 1), (13, .func 43 [.ovar 64 0]), (60, .osl 608 1 1), (61, I ((1 : Nat) : Int)), (62, I i)], [(32, ⟨23, 2, .any, [encD zD]⟩), (64, ⟨23, 2, .any, [encD zD]⟩), (608, ⟨9, 1, .pure, ps.map (fun p => [AV.str (bs p)])⟩)]⟩ ∧ (ps.drop i).all shapedB = ps.all shapedB, ⟨_, _, Wk.keep [2, 3, 4, 12, 13, 60, 61, 62] [32, 64, 608], 0, by omega, rfl, by rw [hps]; rfl, by simp⟩, ?_⟩
      rintro N c ⟨i, hi, rfl, rfl, hI⟩
      refine ⟨fun h => ?_, fun h => ?_⟩
      · have h : i < 1 := by
          have : ((i : Nat) : Int) < ((1 : Nat) : Int) := of_decide_eq_true h
          omega
        obtain ⟨p, hp, hd, _⟩ := drop_cons (l := ps) (i := i) (by omega)
        rw [hd, List.all_cons] at hI
        have hpb := hpl p (List.mem_of_getElem? hp)
        refine ⟨⟨by omega, by omega⟩, [.str (bs p)], get_map' hp rfl, _, c47 p (by omega), fun hf => ?_, fun hf => ?_⟩
        · have hf : shapedB p = false := by simpa using hf
          rw [hf, Bool.false_and] at hI
          rw [joinR, if_pos hI.symm]
          exact ⟨_, _, rfl, ⟨rfl, rfl⟩, rfl, rfl, trivial⟩
        · have hf : shapedB p = true := by simpa using hf
          rw [hf, Bool.true_and] at hI
          exact ⟨_, wrap64 (by omega) (by omega), _, _, Wk.keep [2, 3, 4, 12, 13, 60, 61, 62] [32, 64, 608], by omega, i + 1, by omega, rfl, rfl, hI⟩
      · have h : ¬ i < 1 := by
          have : ¬ ((i : Nat) : Int) < ((1 : Nat) : Int) := of_decide_eq_false h
          omega
        have hiK : i = 1 := by omega
        subst hiK
        rw [List.drop_of_length_le (by omega), List.all_nil] at hI
        rw [joinR, if_neg (by rw [← hI]; simp)]
        have hsh : ∀ p ∈ ps, shapedB p = true := List.all_eq_true.1 hI.symm
        refine ⟨fun N c => ∃ (i : Nat) (ds : List Dat), i ≤ 1 ∧ ds.length = i ∧ ds = (ps.take i).map (fun p => (readR p).1) ∧ (∀ d ∈ ds, okD d = true) ∧ N = 1 - i ∧ c = ⟨[(2, .ovar 32 0), (3, I 0), (4, .ovar 64 0), (13, .func 43 [.ovar 64 0]), (16, .osl 1408 2 ds.length), (71, .osl 608 1 1), (72, I ((1 : Nat) : Int)), (73, I i)], [(32, ⟨23, 2, .any, [encD zD]⟩), (64, ⟨23, 2, .any, [encD zD]⟩), (608, ⟨9, 1, .pure, ps.map (fun p => [AV.str (bs p)])⟩), (1408, ⟨23, 2, .pure, ds.map encD⟩)]⟩ ∧ (ps.drop i).all (fun p => (readR p).2) = ps.all (fun p => (readR p).2), ⟨_, _, Wk.nilKeep 16 1408 ⟨23, 2, .pure, []⟩ [2, 3, 4, 13, 16, 71, 72, 73] [32, 64, 608, 1408] rfl rfl rfl, 0, [], by omega, rfl, by simp, by simp, rfl, rfl, by simp⟩, ?_⟩
        rintro N c ⟨i, ds, hi, hdl, hds, hdo, rfl, rfl, hJ⟩
        refine ⟨fun h => ?_, fun h => ?_⟩
        · have h : i < 1 := by
            have : ((i : Nat) : Int) < ((1 : Nat) : Int) := of_decide_eq_true h
            omega
          obtain ⟨p, hp, hd, ht⟩ := drop_cons (l := ps) (i := i) (by omega)
          rw [hd, List.all_cons] at hJ
          have hps1 := hsh p (List.mem_of_getElem? hp)
          refine ⟨⟨by omega, by omega⟩, [.str (bs p)], get_map' hp rfl, _, c48 p (shaped_len hps1), fun hf => ?_, fun hf => ?_⟩
          · have hf : (readR p).2 = false := by simpa using hf
            rw [hf, Bool.false_and] at hJ
            rw [if_pos hJ.symm]
            exact ⟨_, _, rfl, ⟨rfl, rfl⟩, rfl, rfl, trivial⟩
          · have hf : (readR p).2 = true := by simpa using hf
            rw [hf, Bool.true_and] at hJ
            refine ⟨⟨by show (_ + 1) * 16 ≤ _; omega, by omega⟩, _, wrap64 (by omega) (by omega), ?_⟩
            refine ⟨_, _, Wk.keep [2, 3, 4, 13, 16, 71, 72, 73] [32, 64, 608, 1408], by omega, i + 1, ds ++ [(readR p).1], by omega, by simp [hdl], by rw [ht, List.map_append, ← hds]; rfl, ?_, rfl, ?_, hJ⟩
            · intro d hd'
              rcases List.mem_append.1 hd' with hd' | hd'
              · exact hdo d hd'
              · simp at hd'; subst hd'; exact read_ok hf
            · rw [List.map_append, List.length_append, ← take_app (n := ds.length) (ds.map encD) _ (by simp)]
              rfl
        · have h : ¬ i < 1 := by
            have : ¬ ((i : Nat) : Int) < ((1 : Nat) : Int) := of_decide_eq_false h
            omega
          have hiK : i = 1 := by omega
          rw [hiK, List.drop_of_length_le (by omega), List.all_nil] at hJ
          rw [if_neg (by rw [← hJ]; simp)]
          have hdA : ps.map (fun p => (readR p).1) = ds := by rw [hds, List.take_of_length_le (by omega)]
          rw [hdA]
          refine ⟨_, _, j43 64 ds (by omega) hdo, ?_⟩
          refine ⟨_, c_dCheck (J1 ds), fun hf => ?_, fun hf => ?_⟩
          · have hf : (chkD (J1 ds) != 0) = true := hf
            rw [chk_bne] at hf
            rw [if_pos (by simpa using hf)]
            exact ⟨_, _, rfl, ⟨rfl, rfl⟩, rfl, rfl, trivial⟩
          · have hf : (chkD (J1 ds) != 0) = false := hf
            rw [chk_bne] at hf
            rw [if_neg (by simpa using hf)]
            exact ⟨_, _, rfl, ⟨rfl, rfl⟩, rfl, rfl, trivial⟩
theorem c14 (l : List UInt8) (hl : l.length ≤ 1000) : Fn Tryd.prog 14 [.str (bs l)] (.tup [.agg (encD (parseD l).1), I (parseD l).2]) := by
  by_cases hu : l = unknownL
  · have hb := c42 l beforeL (by omega) (by decide)
    have ha := c42 l afterL (by omega) (by decide)
    have hn : ((bs l).toList == (bs unknownL).toList) = true := by rw [bs_eq]; simpa using hu
    rw [parseD, if_pos hu]
    refine mk14 rfl ⟨_, c41 l (by omega), _, hb, _, ha, fun _ => ?_, fun h => (by rw [show ((bs l).toList == (⟨#[117, 110, 107, 110, 111, 119, 110]⟩ : ByteArray).toList) = true from hn] at h; cases h)⟩
    exact ⟨_, c31, _, _, rfl, ⟨rfl, rfl⟩, rfl, rfl, trivial⟩
  · cases h1 : hasP beforeL l with
    | true => exact c14b l hl hu h1
    | false =>
      cases h2 : hasP afterL l with
      | true => exact c14a l hl hu h1 h2
      | false =>
        cases h3 : (Lib.cut l [47]).2.2 with
        | true => exact c14c l hl hu h1 h2 h3
        | false => exact c14d l hl hu h1 h2 h3
end Go.Abs.L03
