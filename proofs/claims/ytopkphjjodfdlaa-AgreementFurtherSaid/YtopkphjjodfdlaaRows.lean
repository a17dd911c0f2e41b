/-
  No cell of these rows narrows 'for every input' (looked for: loops, veiled, ifaces, maps, wideKeys, modest, calm, conditions, laid).
  DERIVED. THE GIVEN ROWS OF THIS SEAT. 7 by the template 'for every input the law returns true; each argument reads behind the call as it read before'; 0 by the template 'total and deterministic' (their statements: YtopkphjjodfdlaaTotals.lean).
  GIVEN WITH THE SEED: the statements are not yours to turn. If you find one false, say at which input.
  Laid BY PROGRAM, IN A SANDBOX (cutbox-rows.mjs): the forced cells as the released guide's own fill.sh prints them over the translation 0d4b5ee88d9ec413… (all of the seat's roots in one cut). By AI agents, Wed Nov 11 2026. No macro, syntax, notation, axiom, sorry.
-/
import Derived.Test.YtopkphjjodfdlaaChecked
import GoSem.Claim
import GoSem.ClaimJoined
import GoSem.ClaimMapViews
import Derived.JoinedTies
import Derived.KernelRfl
namespace Go.Proofs.Ytopkphjjodfdlaa
/- THE CELL 'sum', in the pinned program and in every row, IS THE sha256 OF THE DUMP (.gsa) THAT YtopkphjjodfdlaaProg.lean LOADS. Nothing in Lean hashes anything: it is a label: what it is worth is what the hold of that sum in a sandbox is worth. -/
noncomputable def Try.pinned : Pinned := { name := "ytopkphjjodfdlaa", sum := "0d4b5ee88d9ec4136e030876c9dee962b53eae38093126c9e091bcc755b3e4ab", checked := Try.checked }
namespace Rows
def none {H : Type} : Left H := { results := [], args := [] }

/-- 'archivumlaw33.AgreementChecks': WHATEVER THE INPUT: true; the input reads as it did. -/
def agreementChecksSpec : ChangeSpec := { name := "agreementChecks", fn := fun _ => fun
  | [d1, d2] => { results := [.lit (.bool true)], args := [d1, d2] }
  | _ => none }
def agreementChecksRow : OpenClaim := { program := "ytopkphjjodfdlaa", sum := "0d4b5ee88d9ec4136e030876c9dee962b53eae38093126c9e091bcc755b3e4ab", func := "archivum/archivumlaw33.AgreementChecks", spec := "agreementChecks", unfollowed := true, recurses := true, apart := false }
def AgreementChecksSaid : Prop := agreementChecksRow.holds Try.pinned (OpenSpec.ofChange agreementChecksSpec)

/-- ITS FALSE NEIGHBOUR: 'it returns false'. Refute it at one input. -/
def agreementChecksWrong : ChangeSpec := { name := "agreementChecks", fn := fun _ => fun
  | [d1, d2] => { results := [.lit (.bool false)], args := [d1, d2] }
  | _ => none }
def AgreementChecksWrongFalsely : Prop := agreementChecksRow.holds Try.pinned (OpenSpec.ofChange agreementChecksWrong)

/-- 'archivumlaw33.AgreementGrounds': WHATEVER THE INPUT: true; the input reads as it did. -/
def agreementGroundsSpec : ChangeSpec := { name := "agreementGrounds", fn := fun _ => fun
  | [d1, d2, d3] => { results := [.lit (.bool true)], args := [d1, d2, d3] }
  | _ => none }
def agreementGroundsRow : OpenClaim := { program := "ytopkphjjodfdlaa", sum := "0d4b5ee88d9ec4136e030876c9dee962b53eae38093126c9e091bcc755b3e4ab", func := "archivum/archivumlaw33.AgreementGrounds", spec := "agreementGrounds", unfollowed := true, recurses := true, apart := false }
def AgreementGroundsSaid : Prop := agreementGroundsRow.holds Try.pinned (OpenSpec.ofChange agreementGroundsSpec)

/-- ITS FALSE NEIGHBOUR: 'it returns false'. Refute it at one input. -/
def agreementGroundsWrong : ChangeSpec := { name := "agreementGrounds", fn := fun _ => fun
  | [d1, d2, d3] => { results := [.lit (.bool false)], args := [d1, d2, d3] }
  | _ => none }
def AgreementGroundsWrongFalsely : Prop := agreementGroundsRow.holds Try.pinned (OpenSpec.ofChange agreementGroundsWrong)

/-- 'archivumlaw33.AgreementAmends': WHATEVER THE INPUT: true; the input reads as it did. -/
def agreementAmendsSpec : ChangeSpec := { name := "agreementAmends", fn := fun _ => fun
  | [d1, d2, d3] => { results := [.lit (.bool true)], args := [d1, d2, d3] }
  | _ => none }
def agreementAmendsRow : OpenClaim := { program := "ytopkphjjodfdlaa", sum := "0d4b5ee88d9ec4136e030876c9dee962b53eae38093126c9e091bcc755b3e4ab", func := "archivum/archivumlaw33.AgreementAmends", spec := "agreementAmends", unfollowed := true, recurses := true, apart := false }
def AgreementAmendsSaid : Prop := agreementAmendsRow.holds Try.pinned (OpenSpec.ofChange agreementAmendsSpec)

/-- ITS FALSE NEIGHBOUR: 'it returns false'. Refute it at one input. -/
def agreementAmendsWrong : ChangeSpec := { name := "agreementAmends", fn := fun _ => fun
  | [d1, d2, d3] => { results := [.lit (.bool false)], args := [d1, d2, d3] }
  | _ => none }
def AgreementAmendsWrongFalsely : Prop := agreementAmendsRow.holds Try.pinned (OpenSpec.ofChange agreementAmendsWrong)

/-- 'archivumlaw33.AgreementOpens': WHATEVER THE INPUT: true; the input reads as it did. -/
def agreementOpensSpec : ChangeSpec := { name := "agreementOpens", fn := fun _ => fun
  | [d1, d2] => { results := [.lit (.bool true)], args := [d1, d2] }
  | _ => none }
def agreementOpensRow : OpenClaim := { program := "ytopkphjjodfdlaa", sum := "0d4b5ee88d9ec4136e030876c9dee962b53eae38093126c9e091bcc755b3e4ab", func := "archivum/archivumlaw33.AgreementOpens", spec := "agreementOpens", unfollowed := true, recurses := true, apart := false }
def AgreementOpensSaid : Prop := agreementOpensRow.holds Try.pinned (OpenSpec.ofChange agreementOpensSpec)

/-- ITS FALSE NEIGHBOUR: 'it returns false'. Refute it at one input. -/
def agreementOpensWrong : ChangeSpec := { name := "agreementOpens", fn := fun _ => fun
  | [d1, d2] => { results := [.lit (.bool false)], args := [d1, d2] }
  | _ => none }
def AgreementOpensWrongFalsely : Prop := agreementOpensRow.holds Try.pinned (OpenSpec.ofChange agreementOpensWrong)

/-- 'archivumlaw33.AgreementApart': WHATEVER THE INPUT: true; the input reads as it did. -/
def agreementApartSpec : ChangeSpec := { name := "agreementApart", fn := fun _ => fun
  | [d1, d2, d3] => { results := [.lit (.bool true)], args := [d1, d2, d3] }
  | _ => none }
def agreementApartRow : OpenClaim := { program := "ytopkphjjodfdlaa", sum := "0d4b5ee88d9ec4136e030876c9dee962b53eae38093126c9e091bcc755b3e4ab", func := "archivum/archivumlaw33.AgreementApart", spec := "agreementApart", unfollowed := true, recurses := true, apart := false }
def AgreementApartSaid : Prop := agreementApartRow.holds Try.pinned (OpenSpec.ofChange agreementApartSpec)

/-- ITS FALSE NEIGHBOUR: 'it returns false'. Refute it at one input. -/
def agreementApartWrong : ChangeSpec := { name := "agreementApart", fn := fun _ => fun
  | [d1, d2, d3] => { results := [.lit (.bool false)], args := [d1, d2, d3] }
  | _ => none }
def AgreementApartWrongFalsely : Prop := agreementApartRow.holds Try.pinned (OpenSpec.ofChange agreementApartWrong)

/-- 'archivumlaw33.AgreementNone': WHATEVER THE INPUT: true; the input reads as it did. -/
def agreementNoneSpec : ChangeSpec := { name := "agreementNone", fn := fun _ => fun
  | [d1, d2, d3] => { results := [.lit (.bool true)], args := [d1, d2, d3] }
  | _ => none }
def agreementNoneRow : OpenClaim := { program := "ytopkphjjodfdlaa", sum := "0d4b5ee88d9ec4136e030876c9dee962b53eae38093126c9e091bcc755b3e4ab", func := "archivum/archivumlaw33.AgreementNone", spec := "agreementNone", unfollowed := true, recurses := true, apart := false }
def AgreementNoneSaid : Prop := agreementNoneRow.holds Try.pinned (OpenSpec.ofChange agreementNoneSpec)

/-- ITS FALSE NEIGHBOUR: 'it returns false'. Refute it at one input. -/
def agreementNoneWrong : ChangeSpec := { name := "agreementNone", fn := fun _ => fun
  | [d1, d2, d3] => { results := [.lit (.bool false)], args := [d1, d2, d3] }
  | _ => none }
def AgreementNoneWrongFalsely : Prop := agreementNoneRow.holds Try.pinned (OpenSpec.ofChange agreementNoneWrong)

/-- 'archivumlaw33.AgreementFurther': WHATEVER THE INPUT: true; the input reads as it did. -/
def agreementFurtherSpec : ChangeSpec := { name := "agreementFurther", fn := fun _ => fun
  | [d1, d2, d3] => { results := [.lit (.bool true)], args := [d1, d2, d3] }
  | _ => none }
def agreementFurtherRow : OpenClaim := { program := "ytopkphjjodfdlaa", sum := "0d4b5ee88d9ec4136e030876c9dee962b53eae38093126c9e091bcc755b3e4ab", func := "archivum/archivumlaw33.AgreementFurther", spec := "agreementFurther", unfollowed := true, recurses := true, apart := false }
def AgreementFurtherSaid : Prop := agreementFurtherRow.holds Try.pinned (OpenSpec.ofChange agreementFurtherSpec)

/-- ITS FALSE NEIGHBOUR: 'it returns false'. Refute it at one input. -/
def agreementFurtherWrong : ChangeSpec := { name := "agreementFurther", fn := fun _ => fun
  | [d1, d2, d3] => { results := [.lit (.bool false)], args := [d1, d2, d3] }
  | _ => none }
def AgreementFurtherWrongFalsely : Prop := agreementFurtherRow.holds Try.pinned (OpenSpec.ofChange agreementFurtherWrong)

/- THE SECOND FORM. 'bulk': how many values and letters a reading holds, each counted each time it is reached (what is shared counts as often as it is met; a slice's spare places count too). A statement '..UptoSaid' is the law's where the arguments, and the package variables that the reading takes, are together of bulk at most 1048576: NARROWER than '..Said'. Prove '..Said' where nothing that the law and all that it calls make is longer than what came in: it says more and counts as full. Else prove '..UptoSaid'. A law counts once. -/
mutual
def uptoBulk {H : Type} : DataW H → Nat
  | .lit (.string bytes) => bytes.length + 1
  | .lit _ => 1
  | .nil => 1
  | .ptr d => uptoBulk d + 1
  | .slice elems spare => uptoBulkAll elems + uptoBulkAll spare + 1
  | .agg parts => uptoBulkAll parts + 1
  | .iface _ d => uptoBulk d + 1
  | .map entries => uptoBulkEntries entries + 1
  | .held _ => 1
def uptoBulkAll {H : Type} : List (DataW H) → Nat
  | [] => 0
  | d :: r => uptoBulk d + uptoBulkAll r
def uptoBulkEntries {H : Type} : List (Lit × DataW H) → Nat
  | [] => 0
  | x :: r => uptoBulkEntry x + uptoBulkEntries r
def uptoBulkEntry {H : Type} : Lit × DataW H → Nat
  | (.string bytes, d) => bytes.length + uptoBulk d + 1
  | (_, d) => uptoBulk d + 1
 end
def uptoSmall : (H : Type) → List (DataW H) → Bool := fun _ ds => decide (uptoBulkAll ds ≤ 1048576)
def OpenSpec.upto (s : _root_.Go.ChangeSpec) : _root_.Go.OpenSpec := { _root_.Go.OpenSpec.ofChange s with cond := some uptoSmall }

/-- 'archivumlaw33.AgreementChecks', WHERE WHAT IT READS IS OF BULK AT MOST 1048576: true; the input reads as it did. -/
def agreementChecksUptoRow : OpenClaim := { program := "ytopkphjjodfdlaa", sum := "0d4b5ee88d9ec4136e030876c9dee962b53eae38093126c9e091bcc755b3e4ab", func := "archivum/archivumlaw33.AgreementChecks", spec := "agreementChecks", unfollowed := true, recurses := true, apart := false, narrowed := true }
def AgreementChecksUptoSaid : Prop := agreementChecksUptoRow.holds Try.pinned (OpenSpec.upto agreementChecksSpec)

/-- 'archivumlaw33.AgreementGrounds', WHERE WHAT IT READS IS OF BULK AT MOST 1048576: true; the input reads as it did. -/
def agreementGroundsUptoRow : OpenClaim := { program := "ytopkphjjodfdlaa", sum := "0d4b5ee88d9ec4136e030876c9dee962b53eae38093126c9e091bcc755b3e4ab", func := "archivum/archivumlaw33.AgreementGrounds", spec := "agreementGrounds", unfollowed := true, recurses := true, apart := false, narrowed := true }
def AgreementGroundsUptoSaid : Prop := agreementGroundsUptoRow.holds Try.pinned (OpenSpec.upto agreementGroundsSpec)

/-- 'archivumlaw33.AgreementAmends', WHERE WHAT IT READS IS OF BULK AT MOST 1048576: true; the input reads as it did. -/
def agreementAmendsUptoRow : OpenClaim := { program := "ytopkphjjodfdlaa", sum := "0d4b5ee88d9ec4136e030876c9dee962b53eae38093126c9e091bcc755b3e4ab", func := "archivum/archivumlaw33.AgreementAmends", spec := "agreementAmends", unfollowed := true, recurses := true, apart := false, narrowed := true }
def AgreementAmendsUptoSaid : Prop := agreementAmendsUptoRow.holds Try.pinned (OpenSpec.upto agreementAmendsSpec)

/-- 'archivumlaw33.AgreementOpens', WHERE WHAT IT READS IS OF BULK AT MOST 1048576: true; the input reads as it did. -/
def agreementOpensUptoRow : OpenClaim := { program := "ytopkphjjodfdlaa", sum := "0d4b5ee88d9ec4136e030876c9dee962b53eae38093126c9e091bcc755b3e4ab", func := "archivum/archivumlaw33.AgreementOpens", spec := "agreementOpens", unfollowed := true, recurses := true, apart := false, narrowed := true }
def AgreementOpensUptoSaid : Prop := agreementOpensUptoRow.holds Try.pinned (OpenSpec.upto agreementOpensSpec)

/-- 'archivumlaw33.AgreementApart', WHERE WHAT IT READS IS OF BULK AT MOST 1048576: true; the input reads as it did. -/
def agreementApartUptoRow : OpenClaim := { program := "ytopkphjjodfdlaa", sum := "0d4b5ee88d9ec4136e030876c9dee962b53eae38093126c9e091bcc755b3e4ab", func := "archivum/archivumlaw33.AgreementApart", spec := "agreementApart", unfollowed := true, recurses := true, apart := false, narrowed := true }
def AgreementApartUptoSaid : Prop := agreementApartUptoRow.holds Try.pinned (OpenSpec.upto agreementApartSpec)

/-- 'archivumlaw33.AgreementNone', WHERE WHAT IT READS IS OF BULK AT MOST 1048576: true; the input reads as it did. -/
def agreementNoneUptoRow : OpenClaim := { program := "ytopkphjjodfdlaa", sum := "0d4b5ee88d9ec4136e030876c9dee962b53eae38093126c9e091bcc755b3e4ab", func := "archivum/archivumlaw33.AgreementNone", spec := "agreementNone", unfollowed := true, recurses := true, apart := false, narrowed := true }
def AgreementNoneUptoSaid : Prop := agreementNoneUptoRow.holds Try.pinned (OpenSpec.upto agreementNoneSpec)

/-- 'archivumlaw33.AgreementFurther', WHERE WHAT IT READS IS OF BULK AT MOST 1048576: true; the input reads as it did. -/
def agreementFurtherUptoRow : OpenClaim := { program := "ytopkphjjodfdlaa", sum := "0d4b5ee88d9ec4136e030876c9dee962b53eae38093126c9e091bcc755b3e4ab", func := "archivum/archivumlaw33.AgreementFurther", spec := "agreementFurther", unfollowed := true, recurses := true, apart := false, narrowed := true }
def AgreementFurtherUptoSaid : Prop := agreementFurtherUptoRow.holds Try.pinned (OpenSpec.upto agreementFurtherSpec)

end Rows
end Go.Proofs.Ytopkphjjodfdlaa
