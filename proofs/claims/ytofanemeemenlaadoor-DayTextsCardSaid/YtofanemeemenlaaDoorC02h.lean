import Derived.Test.YtofanemeemenlaaDoorC02e
import Derived.Test.YtofanemeemenlaaDoorDay2
import Derived.Test.YtofanemeemenlaaDoorC02f
namespace Go.Abs.L02
open Go Go.Abs Go.Abs.Day Go.Proofs Go.RowKit
set_option linter.unusedVariables false
set_option maxRecDepth 20000
theorem l7 (a b n q : Int) (n0 : 0 ≤ n) (n1 : n ≤ 255) (q0 : 0 ≤ q) (q1 : q ≤ 255) : Fn Tryd.prog 7 [I a, I b, .int .u8 n, .int .u8 q] (.bool true) := by
  refine mk7 rfl ⟨_, c10, fun h => (by cases h), fun _ => ⟨_, wrap64 (by omega) (by omega), by decide, _, wrap64 (by omega) (by omega), by decide, ?_⟩⟩
  rw [rem64 n0, rem64 q0]
  obtain ⟨k, hk, k0, k1⟩ : ∃ k, n % 101 = k ∧ 0 ≤ k ∧ k ≤ 100 := ⟨_, rfl, by omega, by omega⟩
  obtain ⟨l, hl, l0, l1⟩ : ∃ l, q % 100 = l ∧ 0 ≤ l ∧ l ≤ 99 := ⟨_, rfl, by omega, by omega⟩
  rw [hk, hl]
  refine ⟨[], fun _ => ⟨rfl, rfl, rfl⟩, fun h => ?_⟩
  simp at h
  obtain ⟨⟨h1, h2⟩, h3⟩ := h
  obtain ⟨y, m, d, hA⟩ := date_ex (d := a) h1 (by omega)
  obtain ⟨y', m', d', hB⟩ := date_ex (d := b) (by omega) h3
  have r1 := years_range hA (by omega) k0
  have r2 := years_mono hA hB h2 k0
  have r3 := years_more hA k0 l0
  obtain ⟨e1, e2, e3, me, ne, hE⟩ := year_end hA (by omega)
  refine ⟨_, c_Years a y m d k hA (by omega) k0 (by omega), _, c_Years b y' m' d' k hB h3 k0 (by omega), _, wrap64 (by omega) (by omega), _, c_Years a y m d (k + l) hA (by omega) (by omega) (by omega), _, c_YearEnd a y m d hA (by omega), ?_⟩
  refine ⟨[], fun h => ?_, fun _ => ?_⟩
  · simp at h; omega
  · have y1 := hA.y1; have y2 := hA.y2
    refine ⟨_, c_Date a y m d hA (by omega), _, c_Date (endE y) y me ne hE e2, [], _, wrap64 (by omega) (by omega), _, wrap64 (by omega) (by omega), _, wrap64 (by omega) (by omega), _, wrap64 (by omega) (by omega), _, wrap64 (by omega) (by omega), rfl, rfl, ?_⟩
    refine congrArg AV.bool ?_
    symm
    simp
    omega
theorem l9 (d : Int) (l : List UInt8) (hl : l.length ≤ 9223372036854775807) : Fn Tryd.prog 9 [I d, .str (bs l)] (.bool true) := by
  refine mk9 rfl ⟨_, c10, fun h => (by cases h), fun _ => ⟨fun _ => ⟨rfl, rfl, rfl⟩, fun h => ?_⟩⟩
  have h40 : l.length ≤ 40 := by
    have : ¬ (((bs l).size : Nat) : Int) > 40 := by simpa using h
    rw [bs_size] at this; omega
  rcases dateR d with ⟨hg, y, m, n, hD⟩ | hg
  · obtain ⟨⟨a1, a2, a3⟩, ⟨b1, b2, b3⟩, g1, g2, g3⟩ := four hD
    have k1 := c_Of y m n
    rw [ofE_date hD hg.2] at k1
    have k2 := c_Parse (txt y m n) (by rw [txt_len]; omega)
    rw [parse_txt a1 a2 b1 b2 g1 g2, ofE_date hD hg.2] at k2
    have hgd := (good_iff d).2 hg
    refine ⟨_, c_Date d y m n hD hg.2, _, c_Format d y m n hD hg.2, [], fun h => ?_, fun _ => ⟨fun _ => ⟨_, k1, _, k2, [], fun h => ?_, fun _ => ?_⟩, fun h => (by cases h)⟩⟩
    · exfalso
      rw [hgd] at h; cases h
    · exfalso
      simp at h
    · refine ⟨_, c_Parse l (by omega), ?_⟩
      rcases parse_cases l with hp | hp | ⟨y2, m2, n2, hp1, hp2, hp3, hp4⟩
      · rw [hp]
        exact ⟨fun _ => ⟨[], rfl, rfl, rfl⟩, fun h => (by cases h)⟩
      · rw [hp]
        exact ⟨fun _ => ⟨[], rfl, rfl, rfl⟩, fun h => (by cases h)⟩
      · rw [hp3]
        generalize (parseE l).1 = x at hp1 hp2
        refine ⟨fun h => (by cases h), fun _ => ⟨_, c_Format x y2 m2 n2 hp1 hp2, [], rfl, rfl, ?_⟩⟩
        show AV.bool true = AV.bool (true && ((bs (txt y2 m2 n2)).toList == (bs l).toList))
        rw [bs_eq, ← hp4]; simp
  · have hgd : (decide (d ≥ 0) && decide (d ≤ 1048575)) = false := by
      rw [Bool.eq_false_iff]; exact fun h => hg ((good_iff d).1 h)
    refine ⟨_, c_DateBad d hg, _, c_FormatBad d hg, [], fun h => ?_, fun _ => ⟨fun h => (by cases h), fun _ => ?_⟩⟩
    · exfalso
      rw [hgd] at h; cases h
    · refine ⟨_, c_Parse l (by omega), ?_⟩
      rcases parse_cases l with hp | hp | ⟨y2, m2, n2, hp1, hp2, hp3, hp4⟩
      · rw [hp]
        exact ⟨fun _ => ⟨[], rfl, rfl, rfl⟩, fun h => (by cases h)⟩
      · rw [hp]
        exact ⟨fun _ => ⟨[], rfl, rfl, rfl⟩, fun h => (by cases h)⟩
      · rw [hp3]
        generalize (parseE l).1 = x at hp1 hp2
        refine ⟨fun h => (by cases h), fun _ => ⟨_, c_Format x y2 m2 n2 hp1 hp2, [], rfl, rfl, ?_⟩⟩
        show AV.bool true = AV.bool (true && ((bs (txt y2 m2 n2)).toList == (bs l).toList))
        rw [bs_eq, ← hp4]; simp
end Go.Abs.L02
