/-
  NARROWER THAN 'FOR EVERY INPUT', by the rows' own cells (each row's printed sentence says how): DayConverts: laid · DayNext: laid · DayCycle: laid · DayLater: laid · DayKeeps: laid · DayTexts: laid · DayBack: laid.
  DERIVED. THE GIVEN ROWS OF THIS SEAT. 7 by the template 'for every input the law returns true; each argument reads behind the call as it read before'; 0 by the template 'total and deterministic' (their statements: YtofanemeemenlaaDoorTotals.lean).
  GIVEN WITH THE SEED: the statements are not yours to turn. If you find one false, say at which input.
  Laid BY PROGRAM, IN A SANDBOX (cutbox-rows.mjs): the forced cells as the released guide's own fill.sh prints them over the translation e3e5d5a14ef8f6ee… (all of the seat's roots in one cut). By AI agents, Wed Nov 11 2026. No macro, syntax, notation, axiom, sorry.
-/
import Derived.Test.YtofanemeemenlaaDoorChecked
import GoSem.Claim
import GoSem.ClaimJoined
import GoSem.ClaimMapViews
import Derived.JoinedTies
import Derived.KernelRfl
namespace Go.Proofs.YtofanemeemenlaaDoor
/- THE CELL 'sum', in the pinned program and in every row, IS THE sha256 OF THE DUMP (.gsa) THAT YtofanemeemenlaaDoorProg.lean LOADS. Nothing in Lean hashes anything: it is a label: what it is worth is what the hold of that sum in a sandbox is worth. -/
noncomputable def Tryd.pinned : Pinned := { name := "ytofanemeemenlaadoor", sum := "e3e5d5a14ef8f6ee9c2e1717c4e053b9aa3237ab41ec92b2d9e36b745db8d6a8", checked := Tryd.checked }
namespace Rows
def none {H : Type} : Left H := { results := [], args := [] }

/- WHAT THE LISTED PACKAGE-LEVEL VARIABLES READ AS WHEN THE CALL BEGINS. Each datum BY PROGRAM (the guide's laid-datum.mjs) off the statement by which the dump's own 'gosem.cut.vars' lays the variable. In a bare row this is a premise. The card (YtofanemeemenlaaDoorCards.lean) ties it to the program's text. -/
def laid_math_bits_deBruijn32tab {H : Type} : DataW H := .agg [.lit (.int .u8 0), .lit (.int .u8 1), .lit (.int .u8 28), .lit (.int .u8 2), .lit (.int .u8 29), .lit (.int .u8 14), .lit (.int .u8 24), .lit (.int .u8 3), .lit (.int .u8 30), .lit (.int .u8 22), .lit (.int .u8 20), .lit (.int .u8 15), .lit (.int .u8 25), .lit (.int .u8 17), .lit (.int .u8 4), .lit (.int .u8 8), .lit (.int .u8 31), .lit (.int .u8 27), .lit (.int .u8 13), .lit (.int .u8 23), .lit (.int .u8 21), .lit (.int .u8 19), .lit (.int .u8 16), .lit (.int .u8 7), .lit (.int .u8 26), .lit (.int .u8 12), .lit (.int .u8 18), .lit (.int .u8 6), .lit (.int .u8 11), .lit (.int .u8 5), .lit (.int .u8 10), .lit (.int .u8 9)]
def laid_math_bits_deBruijn64tab {H : Type} : DataW H := .agg [.lit (.int .u8 0), .lit (.int .u8 1), .lit (.int .u8 56), .lit (.int .u8 2), .lit (.int .u8 57), .lit (.int .u8 49), .lit (.int .u8 28), .lit (.int .u8 3), .lit (.int .u8 61), .lit (.int .u8 58), .lit (.int .u8 42), .lit (.int .u8 50), .lit (.int .u8 38), .lit (.int .u8 29), .lit (.int .u8 17), .lit (.int .u8 4), .lit (.int .u8 62), .lit (.int .u8 47), .lit (.int .u8 59), .lit (.int .u8 36), .lit (.int .u8 45), .lit (.int .u8 43), .lit (.int .u8 51), .lit (.int .u8 22), .lit (.int .u8 53), .lit (.int .u8 39), .lit (.int .u8 33), .lit (.int .u8 30), .lit (.int .u8 24), .lit (.int .u8 18), .lit (.int .u8 12), .lit (.int .u8 5), .lit (.int .u8 63), .lit (.int .u8 55), .lit (.int .u8 48), .lit (.int .u8 27), .lit (.int .u8 60), .lit (.int .u8 41), .lit (.int .u8 37), .lit (.int .u8 16), .lit (.int .u8 46), .lit (.int .u8 35), .lit (.int .u8 44), .lit (.int .u8 21), .lit (.int .u8 52), .lit (.int .u8 32), .lit (.int .u8 23), .lit (.int .u8 11), .lit (.int .u8 54), .lit (.int .u8 26), .lit (.int .u8 40), .lit (.int .u8 15), .lit (.int .u8 34), .lit (.int .u8 20), .lit (.int .u8 31), .lit (.int .u8 10), .lit (.int .u8 25), .lit (.int .u8 14), .lit (.int .u8 19), .lit (.int .u8 9), .lit (.int .u8 13), .lit (.int .u8 8), .lit (.int .u8 7), .lit (.int .u8 6)]
def laid_internal_strconv_uint64pow10 {H : Type} : DataW H := .agg [.lit (.int .u64 1), .lit (.int .u64 10), .lit (.int .u64 100), .lit (.int .u64 1000), .lit (.int .u64 10000), .lit (.int .u64 100000), .lit (.int .u64 1000000), .lit (.int .u64 10000000), .lit (.int .u64 100000000), .lit (.int .u64 1000000000), .lit (.int .u64 10000000000), .lit (.int .u64 100000000000), .lit (.int .u64 1000000000000), .lit (.int .u64 10000000000000), .lit (.int .u64 100000000000000), .lit (.int .u64 1000000000000000), .lit (.int .u64 10000000000000000), .lit (.int .u64 100000000000000000), .lit (.int .u64 1000000000000000000), .lit (.int .u64 10000000000000000000)]

/-- 'archivumlaw02.DayConverts': WHATEVER THE INPUT: true; the input reads as it did. -/
def dayConvertsSpec : ChangeSpec := { name := "dayConverts", fn := fun _ => fun
  | [d1, d2] => { results := [.lit (.bool true)], args := [d1, d2] }
  | _ => none }
def dayConvertsRow : OpenClaim := { program := "ytofanemeemenlaadoor", sum := "e3e5d5a14ef8f6ee9c2e1717c4e053b9aa3237ab41ec92b2d9e36b745db8d6a8", func := "archivum/archivumlaw02.DayConverts", spec := "dayConverts", named := ["internal/strconv.uint64pow10", "math/bits.deBruijn32tab", "math/bits.deBruijn64tab"], apart := false, laid := [("math/bits.deBruijn32tab", laid_math_bits_deBruijn32tab), ("math/bits.deBruijn64tab", laid_math_bits_deBruijn64tab), ("internal/strconv.uint64pow10", laid_internal_strconv_uint64pow10)] }
def DayConvertsSaid : Prop := dayConvertsRow.holds Tryd.pinned (OpenSpec.ofChange dayConvertsSpec)

/-- ITS FALSE NEIGHBOUR: 'it returns false'. Refute it at one input. -/
def dayConvertsWrong : ChangeSpec := { name := "dayConverts", fn := fun _ => fun
  | [d1, d2] => { results := [.lit (.bool false)], args := [d1, d2] }
  | _ => none }
def DayConvertsWrongFalsely : Prop := dayConvertsRow.holds Tryd.pinned (OpenSpec.ofChange dayConvertsWrong)

/-- 'archivumlaw02.DayNext': WHATEVER THE INPUT: true; the input reads as it did. -/
def dayNextSpec : ChangeSpec := { name := "dayNext", fn := fun _ => fun
  | [d] => { results := [.lit (.bool true)], args := [d] }
  | _ => none }
def dayNextRow : OpenClaim := { program := "ytofanemeemenlaadoor", sum := "e3e5d5a14ef8f6ee9c2e1717c4e053b9aa3237ab41ec92b2d9e36b745db8d6a8", func := "archivum/archivumlaw02.DayNext", spec := "dayNext", named := ["internal/strconv.uint64pow10", "math/bits.deBruijn32tab", "math/bits.deBruijn64tab"], apart := false, laid := [("math/bits.deBruijn32tab", laid_math_bits_deBruijn32tab), ("math/bits.deBruijn64tab", laid_math_bits_deBruijn64tab), ("internal/strconv.uint64pow10", laid_internal_strconv_uint64pow10)] }
def DayNextSaid : Prop := dayNextRow.holds Tryd.pinned (OpenSpec.ofChange dayNextSpec)

/-- ITS FALSE NEIGHBOUR: 'it returns false'. Refute it at one input. -/
def dayNextWrong : ChangeSpec := { name := "dayNext", fn := fun _ => fun
  | [d] => { results := [.lit (.bool false)], args := [d] }
  | _ => none }
def DayNextWrongFalsely : Prop := dayNextRow.holds Tryd.pinned (OpenSpec.ofChange dayNextWrong)

/-- 'archivumlaw02.DayCycle': WHATEVER THE INPUT: true; the input reads as it did. -/
def dayCycleSpec : ChangeSpec := { name := "dayCycle", fn := fun _ => fun
  | [d] => { results := [.lit (.bool true)], args := [d] }
  | _ => none }
def dayCycleRow : OpenClaim := { program := "ytofanemeemenlaadoor", sum := "e3e5d5a14ef8f6ee9c2e1717c4e053b9aa3237ab41ec92b2d9e36b745db8d6a8", func := "archivum/archivumlaw02.DayCycle", spec := "dayCycle", named := ["internal/strconv.uint64pow10", "math/bits.deBruijn32tab", "math/bits.deBruijn64tab"], apart := false, laid := [("math/bits.deBruijn32tab", laid_math_bits_deBruijn32tab), ("math/bits.deBruijn64tab", laid_math_bits_deBruijn64tab), ("internal/strconv.uint64pow10", laid_internal_strconv_uint64pow10)] }
def DayCycleSaid : Prop := dayCycleRow.holds Tryd.pinned (OpenSpec.ofChange dayCycleSpec)

/-- ITS FALSE NEIGHBOUR: 'it returns false'. Refute it at one input. -/
def dayCycleWrong : ChangeSpec := { name := "dayCycle", fn := fun _ => fun
  | [d] => { results := [.lit (.bool false)], args := [d] }
  | _ => none }
def DayCycleWrongFalsely : Prop := dayCycleRow.holds Tryd.pinned (OpenSpec.ofChange dayCycleWrong)

/-- 'archivumlaw02.DayLater': WHATEVER THE INPUT: true; the input reads as it did. -/
def dayLaterSpec : ChangeSpec := { name := "dayLater", fn := fun _ => fun
  | [d1, d2, d3, d4] => { results := [.lit (.bool true)], args := [d1, d2, d3, d4] }
  | _ => none }
def dayLaterRow : OpenClaim := { program := "ytofanemeemenlaadoor", sum := "e3e5d5a14ef8f6ee9c2e1717c4e053b9aa3237ab41ec92b2d9e36b745db8d6a8", func := "archivum/archivumlaw02.DayLater", spec := "dayLater", named := ["internal/strconv.uint64pow10", "math/bits.deBruijn32tab", "math/bits.deBruijn64tab"], apart := false, laid := [("math/bits.deBruijn32tab", laid_math_bits_deBruijn32tab), ("math/bits.deBruijn64tab", laid_math_bits_deBruijn64tab), ("internal/strconv.uint64pow10", laid_internal_strconv_uint64pow10)] }
def DayLaterSaid : Prop := dayLaterRow.holds Tryd.pinned (OpenSpec.ofChange dayLaterSpec)

/-- ITS FALSE NEIGHBOUR: 'it returns false'. Refute it at one input. -/
def dayLaterWrong : ChangeSpec := { name := "dayLater", fn := fun _ => fun
  | [d1, d2, d3, d4] => { results := [.lit (.bool false)], args := [d1, d2, d3, d4] }
  | _ => none }
def DayLaterWrongFalsely : Prop := dayLaterRow.holds Tryd.pinned (OpenSpec.ofChange dayLaterWrong)

/-- 'archivumlaw02.DayKeeps': WHATEVER THE INPUT: true; the input reads as it did. -/
def dayKeepsSpec : ChangeSpec := { name := "dayKeeps", fn := fun _ => fun
  | [d1, d2, d3, d4] => { results := [.lit (.bool true)], args := [d1, d2, d3, d4] }
  | _ => none }
def dayKeepsRow : OpenClaim := { program := "ytofanemeemenlaadoor", sum := "e3e5d5a14ef8f6ee9c2e1717c4e053b9aa3237ab41ec92b2d9e36b745db8d6a8", func := "archivum/archivumlaw02.DayKeeps", spec := "dayKeeps", named := ["internal/strconv.uint64pow10", "math/bits.deBruijn32tab", "math/bits.deBruijn64tab"], apart := false, laid := [("math/bits.deBruijn32tab", laid_math_bits_deBruijn32tab), ("math/bits.deBruijn64tab", laid_math_bits_deBruijn64tab), ("internal/strconv.uint64pow10", laid_internal_strconv_uint64pow10)] }
def DayKeepsSaid : Prop := dayKeepsRow.holds Tryd.pinned (OpenSpec.ofChange dayKeepsSpec)

/-- ITS FALSE NEIGHBOUR: 'it returns false'. Refute it at one input. -/
def dayKeepsWrong : ChangeSpec := { name := "dayKeeps", fn := fun _ => fun
  | [d1, d2, d3, d4] => { results := [.lit (.bool false)], args := [d1, d2, d3, d4] }
  | _ => none }
def DayKeepsWrongFalsely : Prop := dayKeepsRow.holds Tryd.pinned (OpenSpec.ofChange dayKeepsWrong)

/-- 'archivumlaw02.DayTexts': WHATEVER THE INPUT: true; the input reads as it did. -/
def dayTextsSpec : ChangeSpec := { name := "dayTexts", fn := fun _ => fun
  | [d1, d2] => { results := [.lit (.bool true)], args := [d1, d2] }
  | _ => none }
def dayTextsRow : OpenClaim := { program := "ytofanemeemenlaadoor", sum := "e3e5d5a14ef8f6ee9c2e1717c4e053b9aa3237ab41ec92b2d9e36b745db8d6a8", func := "archivum/archivumlaw02.DayTexts", spec := "dayTexts", named := ["internal/strconv.uint64pow10", "math/bits.deBruijn32tab", "math/bits.deBruijn64tab"], apart := false, laid := [("math/bits.deBruijn32tab", laid_math_bits_deBruijn32tab), ("math/bits.deBruijn64tab", laid_math_bits_deBruijn64tab), ("internal/strconv.uint64pow10", laid_internal_strconv_uint64pow10)] }
def DayTextsSaid : Prop := dayTextsRow.holds Tryd.pinned (OpenSpec.ofChange dayTextsSpec)

/-- ITS FALSE NEIGHBOUR: 'it returns false'. Refute it at one input. -/
def dayTextsWrong : ChangeSpec := { name := "dayTexts", fn := fun _ => fun
  | [d1, d2] => { results := [.lit (.bool false)], args := [d1, d2] }
  | _ => none }
def DayTextsWrongFalsely : Prop := dayTextsRow.holds Tryd.pinned (OpenSpec.ofChange dayTextsWrong)

/-- 'archivumlaw02.DayBack': WHATEVER THE INPUT: true; the input reads as it did. -/
def dayBackSpec : ChangeSpec := { name := "dayBack", fn := fun _ => fun
  | [d1, d2] => { results := [.lit (.bool true)], args := [d1, d2] }
  | _ => none }
def dayBackRow : OpenClaim := { program := "ytofanemeemenlaadoor", sum := "e3e5d5a14ef8f6ee9c2e1717c4e053b9aa3237ab41ec92b2d9e36b745db8d6a8", func := "archivum/archivumlaw02.DayBack", spec := "dayBack", named := ["internal/strconv.uint64pow10", "math/bits.deBruijn32tab", "math/bits.deBruijn64tab"], apart := false, laid := [("math/bits.deBruijn32tab", laid_math_bits_deBruijn32tab), ("math/bits.deBruijn64tab", laid_math_bits_deBruijn64tab), ("internal/strconv.uint64pow10", laid_internal_strconv_uint64pow10)] }
def DayBackSaid : Prop := dayBackRow.holds Tryd.pinned (OpenSpec.ofChange dayBackSpec)

/-- ITS FALSE NEIGHBOUR: 'it returns false'. Refute it at one input. -/
def dayBackWrong : ChangeSpec := { name := "dayBack", fn := fun _ => fun
  | [d1, d2] => { results := [.lit (.bool false)], args := [d1, d2] }
  | _ => none }
def DayBackWrongFalsely : Prop := dayBackRow.holds Tryd.pinned (OpenSpec.ofChange dayBackWrong)

/- THE SECOND FORM. 'bulk': how many values and letters a reading holds, each counted each time it is reached (what is shared counts as often as it is met; a slice's spare places count too). A statement '..UptoSaid' is the law's where the arguments, and the package variables that the reading takes, are together of bulk at most 1048576: NARROWER than '..Said'. Prove '..Said' where nothing that the law and all that it calls make is longer than what came in: it says more and counts as full. Else prove '..UptoSaid'. A law counts once. -/
mutual
def uptoBulk {H : Type} : DataW H → Nat
  | .lit (.string bytes) => bytes.length + 1
  | .lit _ => 1
  | .nil => 1
  | .ptr d => uptoBulk d + 1
  | .slice elems spare => uptoBulkAll elems + uptoBulkAll spare + 1
  | .agg parts => uptoBulkAll parts + 1
  | .iface _ d => uptoBulk d + 1
  | .map entries => uptoBulkEntries entries + 1
  | .held _ => 1
def uptoBulkAll {H : Type} : List (DataW H) → Nat
  | [] => 0
  | d :: r => uptoBulk d + uptoBulkAll r
def uptoBulkEntries {H : Type} : List (Lit × DataW H) → Nat
  | [] => 0
  | x :: r => uptoBulkEntry x + uptoBulkEntries r
def uptoBulkEntry {H : Type} : Lit × DataW H → Nat
  | (.string bytes, d) => bytes.length + uptoBulk d + 1
  | (_, d) => uptoBulk d + 1
 end
def uptoSmall : (H : Type) → List (DataW H) → Bool := fun _ ds => decide (uptoBulkAll ds ≤ 1048576)
def OpenSpec.upto (s : _root_.Go.ChangeSpec) : _root_.Go.OpenSpec := { _root_.Go.OpenSpec.ofChange s with cond := some uptoSmall }

/-- 'archivumlaw02.DayConverts', WHERE WHAT IT READS IS OF BULK AT MOST 1048576: true; the input reads as it did. -/
def dayConvertsUptoRow : OpenClaim := { program := "ytofanemeemenlaadoor", sum := "e3e5d5a14ef8f6ee9c2e1717c4e053b9aa3237ab41ec92b2d9e36b745db8d6a8", func := "archivum/archivumlaw02.DayConverts", spec := "dayConverts", named := ["internal/strconv.uint64pow10", "math/bits.deBruijn32tab", "math/bits.deBruijn64tab"], apart := false, laid := [("math/bits.deBruijn32tab", laid_math_bits_deBruijn32tab), ("math/bits.deBruijn64tab", laid_math_bits_deBruijn64tab), ("internal/strconv.uint64pow10", laid_internal_strconv_uint64pow10)], narrowed := true }
def DayConvertsUptoSaid : Prop := dayConvertsUptoRow.holds Tryd.pinned (OpenSpec.upto dayConvertsSpec)

/-- 'archivumlaw02.DayNext', WHERE WHAT IT READS IS OF BULK AT MOST 1048576: true; the input reads as it did. -/
def dayNextUptoRow : OpenClaim := { program := "ytofanemeemenlaadoor", sum := "e3e5d5a14ef8f6ee9c2e1717c4e053b9aa3237ab41ec92b2d9e36b745db8d6a8", func := "archivum/archivumlaw02.DayNext", spec := "dayNext", named := ["internal/strconv.uint64pow10", "math/bits.deBruijn32tab", "math/bits.deBruijn64tab"], apart := false, laid := [("math/bits.deBruijn32tab", laid_math_bits_deBruijn32tab), ("math/bits.deBruijn64tab", laid_math_bits_deBruijn64tab), ("internal/strconv.uint64pow10", laid_internal_strconv_uint64pow10)], narrowed := true }
def DayNextUptoSaid : Prop := dayNextUptoRow.holds Tryd.pinned (OpenSpec.upto dayNextSpec)

/-- 'archivumlaw02.DayCycle', WHERE WHAT IT READS IS OF BULK AT MOST 1048576: true; the input reads as it did. -/
def dayCycleUptoRow : OpenClaim := { program := "ytofanemeemenlaadoor", sum := "e3e5d5a14ef8f6ee9c2e1717c4e053b9aa3237ab41ec92b2d9e36b745db8d6a8", func := "archivum/archivumlaw02.DayCycle", spec := "dayCycle", named := ["internal/strconv.uint64pow10", "math/bits.deBruijn32tab", "math/bits.deBruijn64tab"], apart := false, laid := [("math/bits.deBruijn32tab", laid_math_bits_deBruijn32tab), ("math/bits.deBruijn64tab", laid_math_bits_deBruijn64tab), ("internal/strconv.uint64pow10", laid_internal_strconv_uint64pow10)], narrowed := true }
def DayCycleUptoSaid : Prop := dayCycleUptoRow.holds Tryd.pinned (OpenSpec.upto dayCycleSpec)

/-- 'archivumlaw02.DayLater', WHERE WHAT IT READS IS OF BULK AT MOST 1048576: true; the input reads as it did. -/
def dayLaterUptoRow : OpenClaim := { program := "ytofanemeemenlaadoor", sum := "e3e5d5a14ef8f6ee9c2e1717c4e053b9aa3237ab41ec92b2d9e36b745db8d6a8", func := "archivum/archivumlaw02.DayLater", spec := "dayLater", named := ["internal/strconv.uint64pow10", "math/bits.deBruijn32tab", "math/bits.deBruijn64tab"], apart := false, laid := [("math/bits.deBruijn32tab", laid_math_bits_deBruijn32tab), ("math/bits.deBruijn64tab", laid_math_bits_deBruijn64tab), ("internal/strconv.uint64pow10", laid_internal_strconv_uint64pow10)], narrowed := true }
def DayLaterUptoSaid : Prop := dayLaterUptoRow.holds Tryd.pinned (OpenSpec.upto dayLaterSpec)

/-- 'archivumlaw02.DayKeeps', WHERE WHAT IT READS IS OF BULK AT MOST 1048576: true; the input reads as it did. -/
def dayKeepsUptoRow : OpenClaim := { program := "ytofanemeemenlaadoor", sum := "e3e5d5a14ef8f6ee9c2e1717c4e053b9aa3237ab41ec92b2d9e36b745db8d6a8", func := "archivum/archivumlaw02.DayKeeps", spec := "dayKeeps", named := ["internal/strconv.uint64pow10", "math/bits.deBruijn32tab", "math/bits.deBruijn64tab"], apart := false, laid := [("math/bits.deBruijn32tab", laid_math_bits_deBruijn32tab), ("math/bits.deBruijn64tab", laid_math_bits_deBruijn64tab), ("internal/strconv.uint64pow10", laid_internal_strconv_uint64pow10)], narrowed := true }
def DayKeepsUptoSaid : Prop := dayKeepsUptoRow.holds Tryd.pinned (OpenSpec.upto dayKeepsSpec)

/-- 'archivumlaw02.DayTexts', WHERE WHAT IT READS IS OF BULK AT MOST 1048576: true; the input reads as it did. -/
def dayTextsUptoRow : OpenClaim := { program := "ytofanemeemenlaadoor", sum := "e3e5d5a14ef8f6ee9c2e1717c4e053b9aa3237ab41ec92b2d9e36b745db8d6a8", func := "archivum/archivumlaw02.DayTexts", spec := "dayTexts", named := ["internal/strconv.uint64pow10", "math/bits.deBruijn32tab", "math/bits.deBruijn64tab"], apart := false, laid := [("math/bits.deBruijn32tab", laid_math_bits_deBruijn32tab), ("math/bits.deBruijn64tab", laid_math_bits_deBruijn64tab), ("internal/strconv.uint64pow10", laid_internal_strconv_uint64pow10)], narrowed := true }
def DayTextsUptoSaid : Prop := dayTextsUptoRow.holds Tryd.pinned (OpenSpec.upto dayTextsSpec)

/-- 'archivumlaw02.DayBack', WHERE WHAT IT READS IS OF BULK AT MOST 1048576: true; the input reads as it did. -/
def dayBackUptoRow : OpenClaim := { program := "ytofanemeemenlaadoor", sum := "e3e5d5a14ef8f6ee9c2e1717c4e053b9aa3237ab41ec92b2d9e36b745db8d6a8", func := "archivum/archivumlaw02.DayBack", spec := "dayBack", named := ["internal/strconv.uint64pow10", "math/bits.deBruijn32tab", "math/bits.deBruijn64tab"], apart := false, laid := [("math/bits.deBruijn32tab", laid_math_bits_deBruijn32tab), ("math/bits.deBruijn64tab", laid_math_bits_deBruijn64tab), ("internal/strconv.uint64pow10", laid_internal_strconv_uint64pow10)], narrowed := true }
def DayBackUptoSaid : Prop := dayBackUptoRow.holds Tryd.pinned (OpenSpec.upto dayBackSpec)

end Rows
end Go.Proofs.YtofanemeemenlaaDoor
