import Derived.Test.YtioekoecinogjaaDoorC03d
namespace Go.Abs.L03
open Go Go.Abs Go.Abs.Day Go.Proofs Go.RowKit
set_option linter.unusedVariables false
set_option maxRecDepth 20000
theorem c_number' (s : ByteArray) (l : List UInt8) (h : s = bs l) (hl : l.length ≤ 10) : Fn Tryd.prog 81 [.str s] (I (if allDig l = true then numL l 0 else -1)) := by subst h; exact c_number l hl
theorem c_Number' (s : ByteArray) (l : List UInt8) (h : s = bs l) (hl : l.length ≤ 10) : Fn Tryd.prog 70 [.str s] (.tup [I (if allDig l = true then numL l 0 else 0), .bool (allDig l && decide (l.length > 0))]) := by subst h; exact c_Number l hl
theorem ne45 {b : UInt8} (h : b ≠ 45) : ((((b.toNat : Nat) : Int)) != 45) = true := by
  rw [bne_iff_ne]
  intro e
  apply h
  apply UInt8.toNat_inj.1
  rw [show (45 : UInt8).toNat = 45 by decide]; omega
theorem num_cases' (l : List UInt8) : (allDig l = true ∧ 0 ≤ (if allDig l = true then numL l 0 else (-1 : Int)) ∧ (if allDig l = true then numL l 0 else (-1 : Int)) = numL l 0) ∨ (allDig l = false ∧ (if allDig l = true then numL l 0 else (-1 : Int)) = -1) := by
  cases h : allDig l
  · right; simp
  · left; exact ⟨rfl, by simpa using num_nonneg l h, by simp⟩
theorem at4 {l : List UInt8} (h : l.length = 10) (k : Nat) (hk : k < 10) : ∃ b, l[k]? = some b := ⟨l[k]'(by omega), by simp⟩
theorem c_Parse (l : List UInt8) (hl : l.length ≤ 1000000) : Fn Tryd.prog 69 [.str (bs l)] (.tup [I (parseE l).1, I (parseE l).2]) := by
  refine mk69 rfl ?_
  have bad : ¬ dshape l → parseE l = (0, 3) := fun h => by unfold parseE; rw [if_neg h]
  by_cases h10 : l.length = 10
  · obtain ⟨b4, hb4⟩ := at4 h10 4 (by omega)
    obtain ⟨b7, hb7⟩ := at4 h10 7 (by omega)
    by_cases h4 : b4 = 45
    · refine ⟨[(3, false), (8, false)], ?_⟩
      refine ⟨by rw [bs_size, h10]; rfl, _, idx_ok (i := 4) hb4, by subst h4; rfl, _, idx_ok (i := 7) hb7, ?_⟩
      by_cases h7 : b7 = 45
      · subst h4 h7
        have hs : dshape l := ⟨h10, hb4, hb7⟩
        refine ⟨fun h => (by cases h), fun _ => ?_⟩
        obtain ⟨a, ha, hY⟩ : ∃ a : Int, ((allDig (pY l) = true ∧ 0 ≤ a ∧ a = numL (pY l) 0) ∨ (allDig (pY l) = false ∧ a = -1)) ∧ Fn Tryd.prog 81 [.str ((bs l).extract 0 4)] (I a) :=
          ⟨_, num_cases' (pY l), c_number' _ (pY l) (by rw [bs_ext]; rfl) (by simp [pY]; omega)⟩
        obtain ⟨b, hb, hM⟩ : ∃ a : Int, ((allDig (pM l) = true ∧ 0 ≤ a ∧ a = numL (pM l) 0) ∨ (allDig (pM l) = false ∧ a = -1)) ∧ Fn Tryd.prog 81 [.str ((bs l).extract 5 7)] (I a) :=
          ⟨_, num_cases' (pM l), c_number' _ (pM l) (by rw [bs_ext]; rfl) (by simp [pM]; omega)⟩
        obtain ⟨c, hc, hD⟩ : ∃ a : Int, ((allDig (pD l) = true ∧ 0 ≤ a ∧ a = numL (pD l) 0) ∨ (allDig (pD l) = false ∧ a = -1)) ∧ Fn Tryd.prog 81 [.str ((bs l).extract 8 (bs l).size)] (I a) :=
          ⟨_, num_cases' (pD l), c_number' _ (pD l) (by rw [bs_ext, bs_size, List.take_length]; rfl) (by simp [pD]; omega)⟩
        refine ⟨⟨by omega, by rw [bs_size, h10]; decide⟩, _, hY, ⟨by omega, by omega, by rw [bs_size, h10]; decide⟩, _, hM, ⟨by omega, by rw [bs_size, h10]; decide⟩, _, hD, ?_⟩
        by_cases hall : allDig (pY l) = true ∧ allDig (pM l) = true ∧ allDig (pD l) = true
        · obtain ⟨y1, m1, d1⟩ := hall
          have hE : parseE l = ofE (numL (pY l) 0) (numL (pM l) 0) (numL (pD l) 0) := by unfold parseE; rw [if_pos hs, if_pos ⟨y1, m1, d1⟩]
          rw [y1] at ha; rw [m1] at hb; rw [d1] at hc
          simp at ha hb hc
          rw [hE, ← ha.2, ← hb.2, ← hc.2]
          refine ⟨fun h => ?_, fun _ => ⟨_, c_Of _ _ _, _, _, rfl, ⟨rfl, rfl⟩, rfl, rfl, trivial⟩⟩
          have h : minI (minI a b) c < 0 := by simpa using h
          exfalso
          unfold minI at h
          repeat' split at h
          all_goals omega
        · have hE : parseE l = (0, 3) := by
            unfold parseE; rw [if_pos hs, if_neg hall]
          rw [hE]
          refine ⟨fun _ => ⟨_, _, rfl, ⟨rfl, rfl⟩, rfl, rfl, trivial⟩, fun h => ?_⟩
          have h : ¬ minI (minI a b) c < 0 := by simpa using h
          exfalso
          apply hall
          have : 0 ≤ a ∧ 0 ≤ b ∧ 0 ≤ c := by
            unfold minI at h
            repeat' split at h
            all_goals omega
          refine ⟨?_, ?_, ?_⟩
          · rcases ha with h | h; exact h.1; omega
          · rcases hb with h | h; exact h.1; omega
          · rcases hc with h | h; exact h.1; omega
      · rw [bad (fun h => h7 (by have := h.2.2; rw [hb7] at this; injection this))]
        refine ⟨fun _ => ⟨_, _, rfl, ⟨rfl, rfl⟩, rfl, rfl, trivial⟩, fun h => ?_⟩
        have := ne45 h7
        simp only [Bool.or_eq_false_iff] at h
        rw [this] at h
        cases h.2
    · refine ⟨[(3, false), (8, true)], ?_⟩
      refine ⟨by rw [bs_size, h10]; rfl, _, idx_ok (i := 4) hb4, by rw [ne45 h4]; rfl, ?_⟩
      rw [bad (fun h => h4 (by have := h.2.1; rw [hb4] at this; injection this))]
      exact ⟨fun _ => ⟨_, _, rfl, ⟨rfl, rfl⟩, rfl, rfl, trivial⟩, fun h => by cases h⟩
  · refine ⟨[(3, true), (8, true)], ?_⟩
    refine ⟨?_, rfl, ?_⟩
    · rw [bs_size, bne_iff_ne]; omega
    · rw [bad (fun h => h10 h.1)]
      exact ⟨fun _ => ⟨_, _, rfl, ⟨rfl, rfl⟩, rfl, rfl, trivial⟩, fun h => by cases h⟩
theorem c_rParse (l : List UInt8) (hl : l.length ≤ 1000000) : Fn Tryd.prog 71 [.str (bs l)] (.tup [I (parseE l).1, I (parseE l).2]) := by
  refine mk71 rfl ?_
  have bad : ¬ dshape l → parseE l = (0, 3) := fun h => by unfold parseE; rw [if_neg h]
  by_cases h10 : l.length = 10
  · obtain ⟨b4, hb4⟩ := at4 h10 4 (by omega)
    obtain ⟨b7, hb7⟩ := at4 h10 7 (by omega)
    by_cases h4 : b4 = 45
    · refine ⟨[(3, false), (8, false)], ?_⟩
      refine ⟨by rw [bs_size, h10]; rfl, _, idx_ok (i := 4) hb4, by subst h4; rfl, _, idx_ok (i := 7) hb7, ?_⟩
      by_cases h7 : b7 = 45
      · subst h4 h7
        have hs : dshape l := ⟨h10, hb4, hb7⟩
        have lY : (pY l).length = 4 := by simp [pY]; omega
        have lM : (pM l).length = 2 := by simp [pM]; omega
        have lD : (pD l).length = 2 := by simp [pD]; omega
        refine ⟨fun h => (by cases h), fun _ => ?_⟩
        refine ⟨⟨by omega, by rw [bs_size, h10]; decide⟩, _, c_Number' _ (pY l) (by rw [bs_ext]; rfl) (by omega), ⟨by omega, by omega, by rw [bs_size, h10]; decide⟩, _, c_Number' _ (pM l) (by rw [bs_ext]; rfl) (by omega), ⟨by omega, by rw [bs_size, h10]; decide⟩, _, c_Number' _ (pD l) (by rw [bs_ext, bs_size, List.take_length]; rfl) (by omega), ?_⟩
        rw [lY, lM, lD]
        cases y1 : allDig (pY l) <;> cases m1 : allDig (pM l) <;> cases d1 : allDig (pD l)
        all_goals first
          | (have hE : parseE l = (0, 3) := by
               unfold parseE; rw [if_pos hs, if_neg]
               simp_all
             rw [hE]
             exact ⟨[], fun _ => ⟨_, _, rfl, ⟨rfl, rfl⟩, rfl, rfl, trivial⟩, fun h => (by cases h)⟩)
          | (have hE : parseE l = ofE (numL (pY l) 0) (numL (pM l) 0) (numL (pD l) 0) := by unfold parseE; rw [if_pos hs, if_pos ⟨y1, m1, d1⟩]
             rw [hE]
             exact ⟨[], fun h => (by cases h), fun _ => ⟨_, c_rOf _ _ _, _, _, rfl, ⟨rfl, rfl⟩, rfl, rfl, trivial⟩⟩)
      · rw [bad (fun h => h7 (by have := h.2.2; rw [hb7] at this; injection this))]
        refine ⟨fun _ => ⟨_, _, rfl, ⟨rfl, rfl⟩, rfl, rfl, trivial⟩, fun h => ?_⟩
        have := ne45 h7
        simp only [Bool.or_eq_false_iff] at h
        rw [this] at h
        cases h.2
    · refine ⟨[(3, false), (8, true)], ?_⟩
      refine ⟨by rw [bs_size, h10]; rfl, _, idx_ok (i := 4) hb4, by rw [ne45 h4]; rfl, ?_⟩
      rw [bad (fun h => h4 (by have := h.2.1; rw [hb4] at this; injection this))]
      exact ⟨fun _ => ⟨_, _, rfl, ⟨rfl, rfl⟩, rfl, rfl, trivial⟩, fun h => by cases h⟩
  · refine ⟨[(3, true), (8, true)], ?_⟩
    refine ⟨?_, rfl, ?_⟩
    · rw [bs_size, bne_iff_ne]; omega
    · rw [bad (fun h => h10 h.1)]
      exact ⟨fun _ => ⟨_, _, rfl, ⟨rfl, rfl⟩, rfl, rfl, trivial⟩, fun h => by cases h⟩
end Go.Abs.L03
