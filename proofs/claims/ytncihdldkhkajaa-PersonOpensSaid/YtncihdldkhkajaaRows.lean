/-
  No cell of these rows narrows 'for every input' (looked for: loops, veiled, ifaces, maps, wideKeys, modest, calm, conditions, laid).
  DERIVED. THE GIVEN ROWS OF THIS SEAT. 8 by the template 'for every input the law returns true; each argument reads behind the call as it read before'; 0 by the template 'total and deterministic' (their statements: YtncihdldkhkajaaTotals.lean).
  GIVEN WITH THE SEED: the statements are not yours to turn. If you find one false, say at which input.
  Laid BY PROGRAM, IN A SANDBOX (cutbox-rows.mjs): the forced cells as the released guide's own fill.sh prints them over the translation 3bc974a5a9dddf04… (all of the seat's roots in one cut). By AI agents, Wed Nov 11 2026. No macro, syntax, notation, axiom, sorry.
-/
import Derived.Test.YtncihdldkhkajaaChecked
import GoSem.Claim
import GoSem.ClaimJoined
import GoSem.ClaimMapViews
import Derived.JoinedTies
import Derived.KernelRfl
namespace Go.Proofs.Ytncihdldkhkajaa
/- THE CELL 'sum', in the pinned program and in every row, IS THE sha256 OF THE DUMP (.gsa) THAT YtncihdldkhkajaaProg.lean LOADS. Nothing in Lean hashes anything: it is a label: what it is worth is what the hold of that sum in a sandbox is worth. -/
noncomputable def Try.pinned : Pinned := { name := "ytncihdldkhkajaa", sum := "3bc974a5a9dddf04f3c83fff3a1c22dcbd46971a4ab3e7ea0d055b57f18ae54a", checked := Try.checked }
namespace Rows
def none {H : Type} : Left H := { results := [], args := [] }

/-- 'archivumlaw32.PersonGrounds': WHATEVER THE INPUT: true; the input reads as it did. -/
def personGroundsSpec : ChangeSpec := { name := "personGrounds", fn := fun _ => fun
  | [d1, d2, d3] => { results := [.lit (.bool true)], args := [d1, d2, d3] }
  | _ => none }
def personGroundsRow : OpenClaim := { program := "ytncihdldkhkajaa", sum := "3bc974a5a9dddf04f3c83fff3a1c22dcbd46971a4ab3e7ea0d055b57f18ae54a", func := "archivum/archivumlaw32.PersonGrounds", spec := "personGrounds", inPlace := ["internal/bytealg.IndexByteString", "internal/bytealg.IndexString"], unfollowed := true, recurses := true, named := ["internal/bytealg.MaxLen"], apart := false }
def PersonGroundsSaid : Prop := personGroundsRow.holds Try.pinned (OpenSpec.ofChange personGroundsSpec)

/-- ITS FALSE NEIGHBOUR: 'it returns false'. Refute it at one input. -/
def personGroundsWrong : ChangeSpec := { name := "personGrounds", fn := fun _ => fun
  | [d1, d2, d3] => { results := [.lit (.bool false)], args := [d1, d2, d3] }
  | _ => none }
def PersonGroundsWrongFalsely : Prop := personGroundsRow.holds Try.pinned (OpenSpec.ofChange personGroundsWrong)

/-- 'archivumlaw32.PersonOrder': WHATEVER THE INPUT: true; the input reads as it did. -/
def personOrderSpec : ChangeSpec := { name := "personOrder", fn := fun _ => fun
  | [d1, d2, d3] => { results := [.lit (.bool true)], args := [d1, d2, d3] }
  | _ => none }
def personOrderRow : OpenClaim := { program := "ytncihdldkhkajaa", sum := "3bc974a5a9dddf04f3c83fff3a1c22dcbd46971a4ab3e7ea0d055b57f18ae54a", func := "archivum/archivumlaw32.PersonOrder", spec := "personOrder", inPlace := ["internal/bytealg.IndexByteString", "internal/bytealg.IndexString"], unfollowed := true, recurses := true, named := ["internal/bytealg.MaxLen"], apart := false }
def PersonOrderSaid : Prop := personOrderRow.holds Try.pinned (OpenSpec.ofChange personOrderSpec)

/-- ITS FALSE NEIGHBOUR: 'it returns false'. Refute it at one input. -/
def personOrderWrong : ChangeSpec := { name := "personOrder", fn := fun _ => fun
  | [d1, d2, d3] => { results := [.lit (.bool false)], args := [d1, d2, d3] }
  | _ => none }
def PersonOrderWrongFalsely : Prop := personOrderRow.holds Try.pinned (OpenSpec.ofChange personOrderWrong)

/-- 'archivumlaw32.PersonSafe': WHATEVER THE INPUT: true; the input reads as it did. -/
def personSafeSpec : ChangeSpec := { name := "personSafe", fn := fun _ => fun
  | [d1, d2, d3] => { results := [.lit (.bool true)], args := [d1, d2, d3] }
  | _ => none }
def personSafeRow : OpenClaim := { program := "ytncihdldkhkajaa", sum := "3bc974a5a9dddf04f3c83fff3a1c22dcbd46971a4ab3e7ea0d055b57f18ae54a", func := "archivum/archivumlaw32.PersonSafe", spec := "personSafe", inPlace := ["internal/bytealg.IndexByteString", "internal/bytealg.IndexString"], unfollowed := true, recurses := true, named := ["internal/bytealg.MaxLen"], apart := false }
def PersonSafeSaid : Prop := personSafeRow.holds Try.pinned (OpenSpec.ofChange personSafeSpec)

/-- ITS FALSE NEIGHBOUR: 'it returns false'. Refute it at one input. -/
def personSafeWrong : ChangeSpec := { name := "personSafe", fn := fun _ => fun
  | [d1, d2, d3] => { results := [.lit (.bool false)], args := [d1, d2, d3] }
  | _ => none }
def PersonSafeWrongFalsely : Prop := personSafeRow.holds Try.pinned (OpenSpec.ofChange personSafeWrong)

/-- 'archivumlaw32.PersonChecks': WHATEVER THE INPUT: true; the input reads as it did. -/
def personChecksSpec : ChangeSpec := { name := "personChecks", fn := fun _ => fun
  | [d1, d2] => { results := [.lit (.bool true)], args := [d1, d2] }
  | _ => none }
def personChecksRow : OpenClaim := { program := "ytncihdldkhkajaa", sum := "3bc974a5a9dddf04f3c83fff3a1c22dcbd46971a4ab3e7ea0d055b57f18ae54a", func := "archivum/archivumlaw32.PersonChecks", spec := "personChecks", inPlace := ["internal/bytealg.IndexByteString", "internal/bytealg.IndexString"], unfollowed := true, recurses := true, named := ["internal/bytealg.MaxLen"], apart := false }
def PersonChecksSaid : Prop := personChecksRow.holds Try.pinned (OpenSpec.ofChange personChecksSpec)

/-- ITS FALSE NEIGHBOUR: 'it returns false'. Refute it at one input. -/
def personChecksWrong : ChangeSpec := { name := "personChecks", fn := fun _ => fun
  | [d1, d2] => { results := [.lit (.bool false)], args := [d1, d2] }
  | _ => none }
def PersonChecksWrongFalsely : Prop := personChecksRow.holds Try.pinned (OpenSpec.ofChange personChecksWrong)

/-- 'archivumlaw32.PersonOpens': WHATEVER THE INPUT: true; the input reads as it did. -/
def personOpensSpec : ChangeSpec := { name := "personOpens", fn := fun _ => fun
  | [d1, d2, d3] => { results := [.lit (.bool true)], args := [d1, d2, d3] }
  | _ => none }
def personOpensRow : OpenClaim := { program := "ytncihdldkhkajaa", sum := "3bc974a5a9dddf04f3c83fff3a1c22dcbd46971a4ab3e7ea0d055b57f18ae54a", func := "archivum/archivumlaw32.PersonOpens", spec := "personOpens", inPlace := ["internal/bytealg.IndexByteString", "internal/bytealg.IndexString"], unfollowed := true, recurses := true, named := ["internal/bytealg.MaxLen"], apart := false }
def PersonOpensSaid : Prop := personOpensRow.holds Try.pinned (OpenSpec.ofChange personOpensSpec)

/-- ITS FALSE NEIGHBOUR: 'it returns false'. Refute it at one input. -/
def personOpensWrong : ChangeSpec := { name := "personOpens", fn := fun _ => fun
  | [d1, d2, d3] => { results := [.lit (.bool false)], args := [d1, d2, d3] }
  | _ => none }
def PersonOpensWrongFalsely : Prop := personOpensRow.holds Try.pinned (OpenSpec.ofChange personOpensWrong)

/-- 'archivumlaw32.PersonDays': WHATEVER THE INPUT: true; the input reads as it did. -/
def personDaysSpec : ChangeSpec := { name := "personDays", fn := fun _ => fun
  | [d1, d2, d3] => { results := [.lit (.bool true)], args := [d1, d2, d3] }
  | _ => none }
def personDaysRow : OpenClaim := { program := "ytncihdldkhkajaa", sum := "3bc974a5a9dddf04f3c83fff3a1c22dcbd46971a4ab3e7ea0d055b57f18ae54a", func := "archivum/archivumlaw32.PersonDays", spec := "personDays", inPlace := ["internal/bytealg.IndexByteString", "internal/bytealg.IndexString"], unfollowed := true, recurses := true, named := ["internal/bytealg.MaxLen"], apart := false }
def PersonDaysSaid : Prop := personDaysRow.holds Try.pinned (OpenSpec.ofChange personDaysSpec)

/-- ITS FALSE NEIGHBOUR: 'it returns false'. Refute it at one input. -/
def personDaysWrong : ChangeSpec := { name := "personDays", fn := fun _ => fun
  | [d1, d2, d3] => { results := [.lit (.bool false)], args := [d1, d2, d3] }
  | _ => none }
def PersonDaysWrongFalsely : Prop := personDaysRow.holds Try.pinned (OpenSpec.ofChange personDaysWrong)

/-- 'archivumlaw32.PersonLearns': WHATEVER THE INPUT: true; the input reads as it did. -/
def personLearnsSpec : ChangeSpec := { name := "personLearns", fn := fun _ => fun
  | [d1, d2, d3] => { results := [.lit (.bool true)], args := [d1, d2, d3] }
  | _ => none }
def personLearnsRow : OpenClaim := { program := "ytncihdldkhkajaa", sum := "3bc974a5a9dddf04f3c83fff3a1c22dcbd46971a4ab3e7ea0d055b57f18ae54a", func := "archivum/archivumlaw32.PersonLearns", spec := "personLearns", inPlace := ["internal/bytealg.IndexByteString", "internal/bytealg.IndexString"], unfollowed := true, recurses := true, named := ["internal/bytealg.MaxLen"], apart := false }
def PersonLearnsSaid : Prop := personLearnsRow.holds Try.pinned (OpenSpec.ofChange personLearnsSpec)

/-- ITS FALSE NEIGHBOUR: 'it returns false'. Refute it at one input. -/
def personLearnsWrong : ChangeSpec := { name := "personLearns", fn := fun _ => fun
  | [d1, d2, d3] => { results := [.lit (.bool false)], args := [d1, d2, d3] }
  | _ => none }
def PersonLearnsWrongFalsely : Prop := personLearnsRow.holds Try.pinned (OpenSpec.ofChange personLearnsWrong)

/-- 'archivumlaw32.PersonLives': WHATEVER THE INPUT: true; the input reads as it did. -/
def personLivesSpec : ChangeSpec := { name := "personLives", fn := fun _ => fun
  | [d1, d2] => { results := [.lit (.bool true)], args := [d1, d2] }
  | _ => none }
def personLivesRow : OpenClaim := { program := "ytncihdldkhkajaa", sum := "3bc974a5a9dddf04f3c83fff3a1c22dcbd46971a4ab3e7ea0d055b57f18ae54a", func := "archivum/archivumlaw32.PersonLives", spec := "personLives", inPlace := ["internal/bytealg.IndexByteString", "internal/bytealg.IndexString"], unfollowed := true, recurses := true, named := ["internal/bytealg.MaxLen"], apart := false }
def PersonLivesSaid : Prop := personLivesRow.holds Try.pinned (OpenSpec.ofChange personLivesSpec)

/-- ITS FALSE NEIGHBOUR: 'it returns false'. Refute it at one input. -/
def personLivesWrong : ChangeSpec := { name := "personLives", fn := fun _ => fun
  | [d1, d2] => { results := [.lit (.bool false)], args := [d1, d2] }
  | _ => none }
def PersonLivesWrongFalsely : Prop := personLivesRow.holds Try.pinned (OpenSpec.ofChange personLivesWrong)

/- THE SECOND FORM. 'bulk': how many values and letters a reading holds, each counted each time it is reached (what is shared counts as often as it is met; a slice's spare places count too). A statement '..UptoSaid' is the law's where the arguments, and the package variables that the reading takes, are together of bulk at most 1048576: NARROWER than '..Said'. Prove '..Said' where nothing that the law and all that it calls make is longer than what came in: it says more and counts as full. Else prove '..UptoSaid'. A law counts once. -/
mutual
def uptoBulk {H : Type} : DataW H → Nat
  | .lit (.string bytes) => bytes.length + 1
  | .lit _ => 1
  | .nil => 1
  | .ptr d => uptoBulk d + 1
  | .slice elems spare => uptoBulkAll elems + uptoBulkAll spare + 1
  | .agg parts => uptoBulkAll parts + 1
  | .iface _ d => uptoBulk d + 1
  | .map entries => uptoBulkEntries entries + 1
  | .held _ => 1
def uptoBulkAll {H : Type} : List (DataW H) → Nat
  | [] => 0
  | d :: r => uptoBulk d + uptoBulkAll r
def uptoBulkEntries {H : Type} : List (Lit × DataW H) → Nat
  | [] => 0
  | x :: r => uptoBulkEntry x + uptoBulkEntries r
def uptoBulkEntry {H : Type} : Lit × DataW H → Nat
  | (.string bytes, d) => bytes.length + uptoBulk d + 1
  | (_, d) => uptoBulk d + 1
 end
def uptoSmall : (H : Type) → List (DataW H) → Bool := fun _ ds => decide (uptoBulkAll ds ≤ 1048576)
def OpenSpec.upto (s : _root_.Go.ChangeSpec) : _root_.Go.OpenSpec := { _root_.Go.OpenSpec.ofChange s with cond := some uptoSmall }

/-- 'archivumlaw32.PersonGrounds', WHERE WHAT IT READS IS OF BULK AT MOST 1048576: true; the input reads as it did. -/
def personGroundsUptoRow : OpenClaim := { program := "ytncihdldkhkajaa", sum := "3bc974a5a9dddf04f3c83fff3a1c22dcbd46971a4ab3e7ea0d055b57f18ae54a", func := "archivum/archivumlaw32.PersonGrounds", spec := "personGrounds", inPlace := ["internal/bytealg.IndexByteString", "internal/bytealg.IndexString"], unfollowed := true, recurses := true, named := ["internal/bytealg.MaxLen"], apart := false, narrowed := true }
def PersonGroundsUptoSaid : Prop := personGroundsUptoRow.holds Try.pinned (OpenSpec.upto personGroundsSpec)

/-- 'archivumlaw32.PersonOrder', WHERE WHAT IT READS IS OF BULK AT MOST 1048576: true; the input reads as it did. -/
def personOrderUptoRow : OpenClaim := { program := "ytncihdldkhkajaa", sum := "3bc974a5a9dddf04f3c83fff3a1c22dcbd46971a4ab3e7ea0d055b57f18ae54a", func := "archivum/archivumlaw32.PersonOrder", spec := "personOrder", inPlace := ["internal/bytealg.IndexByteString", "internal/bytealg.IndexString"], unfollowed := true, recurses := true, named := ["internal/bytealg.MaxLen"], apart := false, narrowed := true }
def PersonOrderUptoSaid : Prop := personOrderUptoRow.holds Try.pinned (OpenSpec.upto personOrderSpec)

/-- 'archivumlaw32.PersonSafe', WHERE WHAT IT READS IS OF BULK AT MOST 1048576: true; the input reads as it did. -/
def personSafeUptoRow : OpenClaim := { program := "ytncihdldkhkajaa", sum := "3bc974a5a9dddf04f3c83fff3a1c22dcbd46971a4ab3e7ea0d055b57f18ae54a", func := "archivum/archivumlaw32.PersonSafe", spec := "personSafe", inPlace := ["internal/bytealg.IndexByteString", "internal/bytealg.IndexString"], unfollowed := true, recurses := true, named := ["internal/bytealg.MaxLen"], apart := false, narrowed := true }
def PersonSafeUptoSaid : Prop := personSafeUptoRow.holds Try.pinned (OpenSpec.upto personSafeSpec)

/-- 'archivumlaw32.PersonChecks', WHERE WHAT IT READS IS OF BULK AT MOST 1048576: true; the input reads as it did. -/
def personChecksUptoRow : OpenClaim := { program := "ytncihdldkhkajaa", sum := "3bc974a5a9dddf04f3c83fff3a1c22dcbd46971a4ab3e7ea0d055b57f18ae54a", func := "archivum/archivumlaw32.PersonChecks", spec := "personChecks", inPlace := ["internal/bytealg.IndexByteString", "internal/bytealg.IndexString"], unfollowed := true, recurses := true, named := ["internal/bytealg.MaxLen"], apart := false, narrowed := true }
def PersonChecksUptoSaid : Prop := personChecksUptoRow.holds Try.pinned (OpenSpec.upto personChecksSpec)

/-- 'archivumlaw32.PersonOpens', WHERE WHAT IT READS IS OF BULK AT MOST 1048576: true; the input reads as it did. -/
def personOpensUptoRow : OpenClaim := { program := "ytncihdldkhkajaa", sum := "3bc974a5a9dddf04f3c83fff3a1c22dcbd46971a4ab3e7ea0d055b57f18ae54a", func := "archivum/archivumlaw32.PersonOpens", spec := "personOpens", inPlace := ["internal/bytealg.IndexByteString", "internal/bytealg.IndexString"], unfollowed := true, recurses := true, named := ["internal/bytealg.MaxLen"], apart := false, narrowed := true }
def PersonOpensUptoSaid : Prop := personOpensUptoRow.holds Try.pinned (OpenSpec.upto personOpensSpec)

/-- 'archivumlaw32.PersonDays', WHERE WHAT IT READS IS OF BULK AT MOST 1048576: true; the input reads as it did. -/
def personDaysUptoRow : OpenClaim := { program := "ytncihdldkhkajaa", sum := "3bc974a5a9dddf04f3c83fff3a1c22dcbd46971a4ab3e7ea0d055b57f18ae54a", func := "archivum/archivumlaw32.PersonDays", spec := "personDays", inPlace := ["internal/bytealg.IndexByteString", "internal/bytealg.IndexString"], unfollowed := true, recurses := true, named := ["internal/bytealg.MaxLen"], apart := false, narrowed := true }
def PersonDaysUptoSaid : Prop := personDaysUptoRow.holds Try.pinned (OpenSpec.upto personDaysSpec)

/-- 'archivumlaw32.PersonLearns', WHERE WHAT IT READS IS OF BULK AT MOST 1048576: true; the input reads as it did. -/
def personLearnsUptoRow : OpenClaim := { program := "ytncihdldkhkajaa", sum := "3bc974a5a9dddf04f3c83fff3a1c22dcbd46971a4ab3e7ea0d055b57f18ae54a", func := "archivum/archivumlaw32.PersonLearns", spec := "personLearns", inPlace := ["internal/bytealg.IndexByteString", "internal/bytealg.IndexString"], unfollowed := true, recurses := true, named := ["internal/bytealg.MaxLen"], apart := false, narrowed := true }
def PersonLearnsUptoSaid : Prop := personLearnsUptoRow.holds Try.pinned (OpenSpec.upto personLearnsSpec)

/-- 'archivumlaw32.PersonLives', WHERE WHAT IT READS IS OF BULK AT MOST 1048576: true; the input reads as it did. -/
def personLivesUptoRow : OpenClaim := { program := "ytncihdldkhkajaa", sum := "3bc974a5a9dddf04f3c83fff3a1c22dcbd46971a4ab3e7ea0d055b57f18ae54a", func := "archivum/archivumlaw32.PersonLives", spec := "personLives", inPlace := ["internal/bytealg.IndexByteString", "internal/bytealg.IndexString"], unfollowed := true, recurses := true, named := ["internal/bytealg.MaxLen"], apart := false, narrowed := true }
def PersonLivesUptoSaid : Prop := personLivesUptoRow.holds Try.pinned (OpenSpec.upto personLivesSpec)

end Rows
end Go.Proofs.Ytncihdldkhkajaa
