import Derived.Test.YtncihdldkhkajaaC32d
import Derived.Test.YtncihdldkhkajaaTxt2
import Derived.Test.YtncihdldkhkajaaS32
namespace Go.Abs.L32
open Go Go.Abs Go.Abs.Day Go.Proofs Go.RowKit
set_option linter.unusedVariables false
set_option maxRecDepth 20000
theorem c62 (x : Nat) (hx : x ≤ 1114111) : Fn Try.prog 62 [.int .i32 x] (.bool (outP x)) := mk62 rfl ⟨[], rfl, rfl, rfl⟩
theorem two_args {vs : Array Value} (h : 2 = vs.size) : ∃ a b, vs = #[a, b] := by
  match vs, h with
  | ⟨[a, b]⟩, _ => exact ⟨a, b, rfl⟩
theorem c63 (l : List UInt8) (hl : l.length < 4294967281) : Fn Try.prog 63 [.str (bs l), .str ⟨#[32, 32]⟩] (.bool (dbl l)) := by
  refine ⟨⟨_, Try.func63, by kernel_rfl, by kernel_rfl⟩, fun X w vs hw hl' hv => ?_⟩
  obtain ⟨a, b, rfl⟩ := two_args (by simpa using hl')
  have e1 := VR.str_inv (hv 0 _ a rfl rfl)
  have e2 := VR.str_inv (hv 1 _ b rfl rfl)
  subst e1 e2
  obtain ⟨m, hm⟩ := hw
  refine (Any.strings_Contains { Try.laysM144 with } (bs l) ⟨#[32, 32]⟩ m w hl hm).mono ?_
  rintro e w' ⟨rfl, rfl⟩
  refine ⟨_, rfl, ?_, Below.refl _ _⟩
  have : Lib.contains (bs l).data.toList (⟨#[32, 32]⟩ : ByteArray).data.toList = dbl l := contains_dbl l
  rw [this]
  exact .bool
theorem c64 (l : List UInt8) : Fn Try.prog 64 [.str (bs l), .func 62 []] (.bool (!(l.all plainB))) := by
  refine ⟨⟨_, Try.func64, by kernel_rfl, by kernel_rfl⟩, fun X w vs hw hl' hv => ?_⟩
  obtain ⟨a, b, rfl⟩ := two_args (by simpa using hl')
  have e1 := VR.str_inv (hv 0 _ a rfl rfl)
  obtain ⟨cv, e2, hc, _⟩ := VR.func_inv (hv 1 _ b rfl rfl)
  have : cv = #[] := Array.eq_empty_of_size_eq_zero (by simpa using hc.symm)
  subst this e1 e2
  have hp : PredGrows Try.prog 62 #[] outP w := by
    intro W x hx hb
    have := (c62 x hx).2 (fun _ => False) W #[.int .i32 x] (hw.mono hb.size fun g hg => hb.block g hg) rfl (fun j u c hu hc => by
      cases j with
      | zero => simp at hu hc; subst hu hc; exact .int
      | succ j => simp at hu)
    refine this.mono ?_
    rintro e w' ⟨v, rfl, hv, hbl⟩
    exact ⟨by rw [VR.bool_inv hv], hbl⟩
  refine (Any.strings_ContainsFunc_grows Try.laysGw17 62 #[] (enters_of Try.func62 (by kernel_rfl) rfl) outP (bs l) w hp).mono ?_
  rintro e w' ⟨rfl, hbl⟩
  refine ⟨_, rfl, ?_, hbl⟩
  have : decide (0 ≤ Lib.idxFunc outP true (bs l)) = !(l.all plainB) := by
    have := idxFunc_out l (bs l).size 0 (by rw [bs_size]; omega)
    rw [List.drop_zero] at this
    exact this
  rw [this]
  exact .bool
theorem ne32 (b : UInt8) : (((b.toNat : Nat) : Int) != 32) = !(some b == some 32) := by
  by_cases h : b = 32
  · subst h; rfl
  · have h1 : (((b.toNat : Nat) : Int) != 32) = true := by
      rw [bne_iff_ne]; intro e; apply h; apply UInt8.toNat_inj.1
      rw [show (32 : UInt8).toNat = 32 by decide]; omega
    rw [h1]; simp [h]
theorem eq32 (b : UInt8) : (((b.toNat : Nat) : Int) == 32) = (some b == some 32) := by
  have := ne32 b
  rw [bne] at this
  cases h : (((b.toNat : Nat) : Int) == 32) <;> rw [h] at this <;> simp at this ⊢ <;> simp [this]
theorem c50 (l : List UInt8) (hl : l.length ≤ 9223372036854775807) : Fn Try.prog 50 [.str (bs l)] (.bool (nameB l)) := by
  refine mk50 rfl ?_
  by_cases h1 : 1 ≤ l.length
  · by_cases h2 : l.length ≤ 64
    · refine ⟨[(3, true), (8, true)], ?_⟩
      have hb0 : l[0]? = some l[0] := by simp
      have hbz : l[l.length - 1]? = some (l[l.length - 1]'(by omega)) := by simp
      have hix := idx_ok hbz
      rw [show ((l.length - 1 : Nat) : Int) = (l.length : Int) - 1 by omega] at hix
      refine ⟨by rw [bs_size]; simp; omega, by rw [bs_size]; simp; omega, _, idx_ok (i := 0) hb0, _, wrap64 (by rw [bs_size]; omega) (by rw [bs_size]; omega), _, hix, _, c63 l (by omega), _, c64 l, rfl, rfl, ?_⟩
      show AV.bool (nameB l) = AV.bool (true && ((((l[0]).toNat : Nat) : Int) != 32) && (((l[l.length - 1]'(by omega)).toNat : Int) != 32) && !dbl l && !(!(l.all plainB)))
      rw [ne32, ne32, ← hb0, ← hbz, nameB, Bool.not_not]
      simp [h1, h2]
    · have hn : nameB l = false := by unfold nameB; simp [h2]
      rw [hn]
      refine ⟨[(3, true), (8, false), (13, false), (21, false), (26, false)], ?_⟩
      exact ⟨by rw [bs_size]; simp; omega, by rw [bs_size]; simp; omega, rfl, rfl, rfl, rfl, rfl, rfl⟩
  · have hn : nameB l = false := by unfold nameB; simp [h1]
    rw [hn]
    refine ⟨[(3, false), (8, false), (13, false), (21, false), (26, false)], ?_⟩
    exact ⟨by rw [bs_size]; simp; omega, rfl, rfl, rfl, rfl, rfl, rfl, rfl⟩
def prevB (l : List UInt8) (i : Nat) : Option UInt8 := if i = 0 then none else l[i - 1]?
theorem c55 (l : List UInt8) (hl : l.length ≤ 9223372036854775807) : Fn Try.prog 55 [.str (bs l)] (.bool (nameB l)) := by
  refine mk55 rfl ?_
  by_cases h1 : 1 ≤ l.length
  · by_cases h2 : l.length ≤ 64
    · refine ⟨[(3, false), (8, false)], ?_⟩
      have hb0 : l[0]? = some l[0] := by simp
      have hbz : l[l.length - 1]? = some (l[l.length - 1]'(by omega)) := by simp
      have hix := idx_ok hbz
      rw [show ((l.length - 1 : Nat) : Int) = (l.length : Int) - 1 by omega] at hix
      refine ⟨by rw [bs_size]; simp; omega, by rw [bs_size]; simp; omega, _, idx_ok (i := 0) hb0, _, wrap64 (by rw [bs_size]; omega) (by rw [bs_size]; omega), _, hix, ?_⟩
      have hN : nameB l = (!((l[0]? == some 32) || (l[l.length - 1]? == some 32)) && !(scanB none l)) := by
        rw [scan_eq, nameB]
        simp only [Option.toList, List.nil_append, h1, h2, decide_true, Bool.true_and]
        cases (l[0]? == some 32) <;> cases (l[l.length - 1]? == some 32) <;> cases (l.all plainB) <;> cases dbl l <;> rfl
      refine ⟨fun hf => ?_, fun hf => ?_⟩
      · have hf : (((((l[0]).toNat : Nat) : Int) == 32) || (((l[l.length - 1]'(by omega)).toNat : Int) == 32)) = true := hf
        rw [eq32, eq32, ← hb0, ← hbz] at hf
        rw [hN, hf]
        exact ⟨rfl, rfl, rfl⟩
      · have hf : (((((l[0]).toNat : Nat) : Int) == 32) || (((l[l.length - 1]'(by omega)).toNat : Int) == 32)) = false := hf
        rw [eq32, eq32, ← hb0, ← hbz] at hf
        rw [hN, hf, Bool.not_false, Bool.true_and]
        refine ⟨fun N c => ∃ i : Nat, i ≤ l.length ∧ scanB (prevB l i) (l.drop i) = scanB none l ∧ N = l.length - i ∧ c = ⟨[(0, .str (bs l)), (2, .bool false), (3, I i)], []⟩, ⟨_, _, Wk.keep [0, 2, 3] [], 0, by omega, by simp [prevB], rfl, rfl⟩, ?_⟩
        rintro N c ⟨i, hi, hS, rfl, rfl⟩
        have hsz : ((bs l).size : Int) = l.length := rfl
        refine ⟨fun h => ?_, fun h => ?_⟩
        · simp at h
          obtain ⟨b, hb, hd, _⟩ := drop_cons h
          rw [hd, scanB] at hS
          have hpl : (decide (((b.toNat : Nat) : Int) < 32) || decide (((b.toNat : Nat) : Int) > 126)) = !plainB b := by unfold plainB; rw [Bool.not_not]
          have hnext : prevB l (i + 1) = some b := by unfold prevB; rw [if_neg (by omega)]; simpa using hb
          cases hp : plainB b
          · rw [hp] at hpl hS
            simp at hS
            refine ⟨[(10, true)], ?_⟩
            refine ⟨_, idx_ok hb, _, idx_ok hb, hpl, fun _ => ?_, fun h => by cases h⟩
            rw [hS]
            exact ⟨rfl, rfl, rfl⟩
          · rw [hp] at hpl hS
            rw [Bool.not_true, Bool.false_or] at hS
            by_cases hi0 : i = 0
            · subst hi0
              have hpr : prevB l 0 = none := rfl
              rw [hpr] at hS
              refine ⟨[(10, false), (13, false), (19, false)], ?_⟩
              refine ⟨_, idx_ok hb, _, idx_ok hb, hpl, rfl, rfl, fun h => (by cases h), fun _ => ?_⟩
              refine ⟨_, wrap64 (by omega) (by omega), _, _, Wk.keep [0, 2, 3] [], by omega, 1, by omega, ?_, rfl, rfl⟩
              rw [hnext, ← hS]
              simp
            · have hpb : ∃ q, l[i - 1]? = some q := ⟨l[i - 1]'(by omega), by simp⟩
              obtain ⟨q, hq⟩ := hpb
              have hpr : prevB l i = some q := by unfold prevB; rw [if_neg hi0]; exact hq
              rw [hpr] at hS
              have hiq := idx_ok hq
              rw [show ((i - 1 : Nat) : Int) = (i : Int) - 1 by omega] at hiq
              refine ⟨[(10, false), (13, true)], ?_⟩
              refine ⟨_, idx_ok hb, _, idx_ok hb, hpl, by simp; omega, _, idx_ok hb, _, wrap64 (by omega) (by omega), _, hiq, fun hf => ?_, fun hf => ?_⟩
              · have hf : ((((b.toNat : Nat) : Int) == 32) && (((q.toNat : Nat) : Int) == 32)) = true := hf
                rw [eq32, eq32] at hf
                have : (b == 32 && some q == some 32) = true := by simpa using hf
                rw [this, Bool.true_or] at hS
                rw [← hS]
                exact ⟨rfl, rfl, rfl⟩
              · have hf : ((((b.toNat : Nat) : Int) == 32) && (((q.toNat : Nat) : Int) == 32)) = false := hf
                rw [eq32, eq32] at hf
                have : (b == 32 && some q == some 32) = false := by simpa using hf
                rw [this, Bool.false_or] at hS
                refine ⟨_, wrap64 (by omega) (by omega), _, _, Wk.keep [0, 2, 3] [], by omega, i + 1, by omega, ?_, rfl, rfl⟩
                rw [hnext, hS]
        · simp at h
          have : i = l.length := by omega
          subst this
          simp [scanB] at hS
          rw [hS]
          exact ⟨rfl, rfl, rfl⟩
    · have hn : nameB l = false := by unfold nameB; simp [h2]
      rw [hn]
      refine ⟨[(3, false), (8, true), (13, true)], ?_⟩
      exact ⟨by rw [bs_size]; simp; omega, by rw [bs_size]; simp; omega, rfl, fun _ => ⟨rfl, rfl, rfl⟩, fun h => by cases h⟩
  · have hn : nameB l = false := by unfold nameB; simp [h1]
    rw [hn]
    refine ⟨[(3, true), (8, true), (13, true)], ?_⟩
    exact ⟨by rw [bs_size]; simp; omega, rfl, rfl, fun _ => ⟨rfl, rfl, rfl⟩, fun h => by cases h⟩
end Go.Abs.L32
