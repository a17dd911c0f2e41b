import Derived.Test.YtioekoecinogjaaDoorL03b
import Derived.Test.YtioekoecinogjaaDoorShq
import Derived.Test.YtioekoecinogjaaDoorTie
import Derived.Test.YtioekoecinogjaaDoorCards
namespace Go.Proofs.YtioekoecinogjaaDoor
open Go Go.Abs Go.Abs.Day Go.Abs.L03 Go.ChangeShapes Go.WideShapes Go.ChangeAt Go.RowKit
set_option linter.unusedVariables false
set_option maxRecDepth 100000
theorem rd3 {u : AV} (h : RdV Tryd.prog 6 3 u) : ∃ n : Int, u = I n ∧ i64 n := by
  simp only [RdV, Tryd.underlying3, Rd] at h
  obtain ⟨n, hu, hw⟩ := h
  injection hu with hu
  exact ⟨n, hu, wf64 hw⟩
theorem rd5 {u : AV} (h : RdV Tryd.prog 6 5 u) : ∃ n : Int, u = .int .u8 n ∧ 0 ≤ n ∧ n ≤ 255 := by
  simp only [RdV, Tryd.underlying5, Rd] at h
  obtain ⟨n, hu, hw⟩ := h
  injection hu with hu
  refine ⟨n, hu, ?_⟩
  simp [Lit.wf, IntKind.min, IntKind.max, IntKind.bits, IntKind.signed] at hw
  omega
theorem rd35 {u : AV} (h : RdV Tryd.prog 6 35 u) : ∃ n : Int, u = .int .u32 n ∧ 0 ≤ n ∧ n ≤ 4294967295 := by
  simp only [RdV, Tryd.underlying35, Rd] at h
  obtain ⟨n, hu, hw⟩ := h
  injection hu with hu
  refine ⟨n, hu, ?_⟩
  simp [Lit.wf, IntKind.min, IntKind.max, IntKind.bits, IntKind.signed] at hw
  omega
theorem rd9 {u : AV} (h : RdV Tryd.prog 6 9 u) : ∃ l : List UInt8, u = .str (bs l) ∧ l.length ≤ 9223372036854775807 := by
  simp only [RdV, Tryd.underlying9, Rd] at h
  obtain ⟨s, hu, hw⟩ := h
  injection hu with hu
  refine ⟨s.data.toList, by rw [bs_data]; exact hu, ?_⟩
  rw [show s.data.toList.length = s.size by simp]
  unfold maxLen at hw; omega
theorem dat {d : Nat} {us : List AV} (h : Rd Tryd.prog (d + 2) 23 us) : ∃ x : Dat, us = encD x ∧ i64 x.lo ∧ i64 x.hi := by
  simp only [Rd, Tryd.underlying23, RdFs, Tryd.underlying3] at h
  obtain ⟨_, _, rfl, ⟨n0, rfl, w0⟩, _, _, rfl, ⟨n1, rfl, w1⟩, rfl⟩ := h
  exact ⟨⟨n0, n1⟩, rfl, wf64 w0, wf64 w1⟩
theorem rd23 {u : AV} (h : RdV Tryd.prog 6 23 u) : ∃ x : Dat, u = .agg (encD x) ∧ i64 x.lo ∧ i64 x.hi := by
  simp only [RdV, Tryd.underlying23] at h
  obtain ⟨us, rfl, h⟩ := h
  obtain ⟨x, rfl, hx⟩ := dat (d := 4) h
  exact ⟨x, rfl, hx⟩
theorem dats {d : Nat} : ∀ rows : List (List AV), (∀ row ∈ rows, Rd Tryd.prog (d + 2) 23 row) → ∃ l : List Dat, rows = l.map encD
  | [], _ => ⟨[], rfl⟩
  | r :: rs, h => by
    obtain ⟨x, rfl, _⟩ := dat (h r (by simp))
    obtain ⟨l, rfl⟩ := dats rs fun x hx => h x (by simp [hx])
    exact ⟨x :: l, rfl⟩
theorem rd40 {u : AV} (h : RdV Tryd.prog 6 40 u) : ∃ l : List Dat, u = D l := by
  simp only [RdV, Tryd.underlying40] at h
  rw [Rd] at h
  simp only [Tryd.underlying40] at h
  obtain ⟨rows, hu, hw, hr⟩ := h
  injection hu with hu
  obtain ⟨l, rfl⟩ := dats (d := 3) rows hr
  refine ⟨l, ?_⟩
  rw [hu, show Tryd.prog.cellsOf 23 = 2 by kernel_rfl]; simp
theorem own : ownKnob Tryd.prog.godebug = none := by kernel_rfl
theorem laidOut : laidOutB Tryd.prog = true := by kernel_rfl
abbrev L3 : List (String × DataW Unit) := Rows.datingTextsRow.laid
theorem tabD : (Rows.laid_internal_strconv_uint64pow10 : DataW Unit) = Lib.tabData .u64 Lib.pow10Tab := by kernel_rfl
theorem wi_of (w : World) (hs : w.ShapedOpen Tryd.prog) (h : laidMetH Tryd.prog L3 w) : WI w := by
  refine ⟨Tryd.laysM145.s1_3 w hs, ?_⟩
  rw [MakeChecks.laidMetH_plain _ _ _ (by kernel_rfl)] at h
  have h2 : laidMet Tryd.prog [(_, Rows.laid_internal_strconv_uint64pow10)] w := laidMet.tail (laidMet.tail h)
  rw [tabD] at h2
  have h3 := Lib.tabIs_of_head (g := 1) (t := 95) (e := 88) (n := 20) (by kernel_rfl) (by kernel_rfl) (by kernel_rfl) (by kernel_rfl) (by kernel_rfl) (by kernel_rfl) h2
  unfold Lib.TabIs World.var? at h3
  rw [show Tryd.prog.globalNamed _ = some 1 from by kernel_rfl] at h3
  simp only [Option.bind_some] at h3
  split at h3
  · rename_i cs t0 s0 he
    injection h3 with h3
    exact ⟨t0, s0, by rw [he, h3]⟩
  · cases h3
theorem door_met (os : Os) (args : Array Value) : laidMetH Tryd.prog L3 ((World.doorLaid Tryd.prog 400 os).forCall (fun _ _ => 0) ⟨#[], args, []⟩).memory :=
  laidMetH_of_parts3 (fuel := 8) (laidMet_of_run' 8 (by kernel_rfl) (by kernel_rfl)) (by kernel_rfl) (by kernel_rfl)
end Go.Proofs.YtioekoecinogjaaDoor
