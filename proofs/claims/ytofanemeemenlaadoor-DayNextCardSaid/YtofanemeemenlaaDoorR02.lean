import Derived.Test.YtofanemeemenlaaDoorC02h
import Derived.Test.YtofanemeemenlaaDoorC02g
import Derived.Test.YtofanemeemenlaaDoorA3
import Derived.Test.YtofanemeemenlaaDoorTie
import Derived.Test.YtofanemeemenlaaDoorCards
namespace Go.Proofs.YtofanemeemenlaaDoor
open Go Go.Abs Go.Abs.Day Go.Abs.L02 Go.ChangeShapes Go.WideShapes Go.ChangeAt Go.RowKit
set_option linter.unusedVariables false
set_option maxRecDepth 100000
theorem rd3 {u : AV} (h : RdV Tryd.prog 6 3 u) : ∃ n : Int, u = I n ∧ i64 n := by
  simp only [RdV, Tryd.underlying3, Rd] at h
  obtain ⟨n, hu, hw⟩ := h
  injection hu with hu
  exact ⟨n, hu, wf64 hw⟩
theorem rd5 {u : AV} (h : RdV Tryd.prog 6 5 u) : ∃ n : Int, u = .int .u8 n ∧ 0 ≤ n ∧ n ≤ 255 := by
  simp only [RdV, Tryd.underlying5, Rd] at h
  obtain ⟨n, hu, hw⟩ := h
  injection hu with hu
  refine ⟨n, hu, ?_⟩
  simp [Lit.wf, IntKind.min, IntKind.max, IntKind.bits, IntKind.signed] at hw
  omega
theorem rd9 {u : AV} (h : RdV Tryd.prog 6 9 u) : ∃ l : List UInt8, u = .str (bs l) ∧ l.length ≤ 9223372036854775807 := by
  simp only [RdV, Tryd.underlying9, Rd] at h
  obtain ⟨s, hu, hw⟩ := h
  injection hu with hu
  refine ⟨s.data.toList, by rw [bs_data]; exact hu, ?_⟩
  rw [show s.data.toList.length = s.size by simp]
  unfold maxLen at hw; omega
theorem rd22 {u : AV} (h : RdV Tryd.prog 6 22 u) : ∃ x y z : Int, u = .agg [I x, I y, I z] := by
  simp only [RdV, Tryd.underlying22] at h
  obtain ⟨us, rfl, h⟩ := h
  simp only [Rd, Tryd.underlying22, RdN, Tryd.underlying3] at h
  obtain ⟨_, _, rfl, ⟨n0, rfl, w0⟩, _, _, rfl, ⟨n1, rfl, w1⟩, _, _, rfl, ⟨n2, rfl, w2⟩, rfl⟩ := h
  exact ⟨n0, n1, n2, rfl⟩
theorem own : ownKnob Tryd.prog.godebug = none := by kernel_rfl
theorem laidOut : laidOutB Tryd.prog = true := by kernel_rfl
abbrev L3 : List (String × DataW Unit) := Rows.dayConvertsRow.laid
theorem tabD : (Rows.laid_internal_strconv_uint64pow10 : DataW Unit) = Lib.tabData .u64 Lib.pow10Tab := by kernel_rfl
theorem wi_of (w : World) (h : laidMetH Tryd.prog L3 w) : WI w := by
  rw [MakeChecks.laidMetH_plain _ _ _ (by kernel_rfl)] at h
  have h2 : laidMet Tryd.prog [(_, Rows.laid_internal_strconv_uint64pow10)] w := laidMet.tail (laidMet.tail h)
  rw [tabD] at h2
  have h3 := Lib.tabIs_of_head (g := 0) (t := 57) (e := 50) (n := 20) (by kernel_rfl) (by kernel_rfl) (by kernel_rfl) (by kernel_rfl) (by kernel_rfl) (by kernel_rfl) h2
  unfold Lib.TabIs World.var? at h3
  rw [show Tryd.prog.globalNamed _ = some 0 from by kernel_rfl] at h3
  simp only [Option.bind_some] at h3
  split at h3
  · rename_i cs t0 s0 he
    injection h3 with h3
    exact ⟨t0, s0, by rw [he, h3]⟩
  · cases h3
theorem door_met (os : Os) (args : Array Value) : laidMetH Tryd.prog L3 ((World.doorLaid Tryd.prog 400 os).forCall (fun _ _ => 0) ⟨#[], args, []⟩).memory :=
  laidMetH_of_parts3 (fuel := 8) (laidMet_of_run' 8 (by kernel_rfl) (by kernel_rfl)) (by kernel_rfl) (by kernel_rfl)
end Go.Proofs.YtofanemeemenlaaDoor
