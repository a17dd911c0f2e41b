/-
  No cell of these rows narrows 'for every input' (looked for: loops, veiled, ifaces, maps, wideKeys, modest, calm, conditions, laid).
  DERIVED. THE GIVEN ROWS OF THIS SEAT. 8 by the template 'for every input the law returns true; each argument reads behind the call as it read before'; 0 by the template 'total and deterministic' (their statements: YtjpcpnakcapojaaTotals.lean).
  GIVEN WITH THE SEED: the statements are not yours to turn. If you find one false, say at which input.
  Laid BY PROGRAM, IN A SANDBOX (cutbox-rows.mjs): the forced cells as the released guide's own fill.sh prints them over the translation 907c6eaef8677795… (all of the seat's roots in one cut). By AI agents, Wed Nov 11 2026. No macro, syntax, notation, axiom, sorry.
-/
import Derived.Test.YtjpcpnakcapojaaChecked
import GoSem.Claim
import GoSem.ClaimJoined
import GoSem.ClaimMapViews
import Derived.JoinedTies
import Derived.KernelRfl
namespace Go.Proofs.Ytjpcpnakcapojaa
/- THE CELL 'sum', in the pinned program and in every row, IS THE sha256 OF THE DUMP (.gsa) THAT YtjpcpnakcapojaaProg.lean LOADS. Nothing in Lean hashes anything: it is a label: what it is worth is what the hold of that sum in a sandbox is worth. -/
noncomputable def Try.pinned : Pinned := { name := "ytjpcpnakcapojaa", sum := "907c6eaef8677795ffcee3f3b187f47ae50bce389792e9cca294865b14b3d479", checked := Try.checked }
namespace Rows
def none {H : Type} : Left H := { results := [], args := [] }

/-- 'archivumlaw38.AssignCheapest': WHATEVER THE INPUT: true; the input reads as it did. -/
def assignCheapestSpec : ChangeSpec := { name := "assignCheapest", fn := fun _ => fun
  | [d] => { results := [.lit (.bool true)], args := [d] }
  | _ => none }
def assignCheapestRow : OpenClaim := { program := "ytjpcpnakcapojaa", sum := "907c6eaef8677795ffcee3f3b187f47ae50bce389792e9cca294865b14b3d479", func := "archivum/archivumlaw38.AssignCheapest", spec := "assignCheapest", unfollowed := true, recurses := true, apart := false }
def AssignCheapestSaid : Prop := assignCheapestRow.holds Try.pinned (OpenSpec.ofChange assignCheapestSpec)

/-- ITS FALSE NEIGHBOUR: 'it returns false'. Refute it at one input. -/
def assignCheapestWrong : ChangeSpec := { name := "assignCheapest", fn := fun _ => fun
  | [d] => { results := [.lit (.bool false)], args := [d] }
  | _ => none }
def AssignCheapestWrongFalsely : Prop := assignCheapestRow.holds Try.pinned (OpenSpec.ofChange assignCheapestWrong)

/-- 'archivumlaw38.AssignBounds': WHATEVER THE INPUT: true; the input reads as it did. -/
def assignBoundsSpec : ChangeSpec := { name := "assignBounds", fn := fun _ => fun
  | [d1, d2] => { results := [.lit (.bool true)], args := [d1, d2] }
  | _ => none }
def assignBoundsRow : OpenClaim := { program := "ytjpcpnakcapojaa", sum := "907c6eaef8677795ffcee3f3b187f47ae50bce389792e9cca294865b14b3d479", func := "archivum/archivumlaw38.AssignBounds", spec := "assignBounds", unfollowed := true, recurses := true, apart := false }
def AssignBoundsSaid : Prop := assignBoundsRow.holds Try.pinned (OpenSpec.ofChange assignBoundsSpec)

/-- ITS FALSE NEIGHBOUR: 'it returns false'. Refute it at one input. -/
def assignBoundsWrong : ChangeSpec := { name := "assignBounds", fn := fun _ => fun
  | [d1, d2] => { results := [.lit (.bool false)], args := [d1, d2] }
  | _ => none }
def AssignBoundsWrongFalsely : Prop := assignBoundsRow.holds Try.pinned (OpenSpec.ofChange assignBoundsWrong)

/-- 'archivumlaw38.AssignWider': WHATEVER THE INPUT: true; the input reads as it did. -/
def assignWiderSpec : ChangeSpec := { name := "assignWider", fn := fun _ => fun
  | [d1, d2] => { results := [.lit (.bool true)], args := [d1, d2] }
  | _ => none }
def assignWiderRow : OpenClaim := { program := "ytjpcpnakcapojaa", sum := "907c6eaef8677795ffcee3f3b187f47ae50bce389792e9cca294865b14b3d479", func := "archivum/archivumlaw38.AssignWider", spec := "assignWider", unfollowed := true, recurses := true, apart := false }
def AssignWiderSaid : Prop := assignWiderRow.holds Try.pinned (OpenSpec.ofChange assignWiderSpec)

/-- ITS FALSE NEIGHBOUR: 'it returns false'. Refute it at one input. -/
def assignWiderWrong : ChangeSpec := { name := "assignWider", fn := fun _ => fun
  | [d1, d2] => { results := [.lit (.bool false)], args := [d1, d2] }
  | _ => none }
def AssignWiderWrongFalsely : Prop := assignWiderRow.holds Try.pinned (OpenSpec.ofChange assignWiderWrong)

/-- 'archivumlaw38.AssignNarrow': WHATEVER THE INPUT: true; the input reads as it did. -/
def assignNarrowSpec : ChangeSpec := { name := "assignNarrow", fn := fun _ => fun
  | [d1, d2] => { results := [.lit (.bool true)], args := [d1, d2] }
  | _ => none }
def assignNarrowRow : OpenClaim := { program := "ytjpcpnakcapojaa", sum := "907c6eaef8677795ffcee3f3b187f47ae50bce389792e9cca294865b14b3d479", func := "archivum/archivumlaw38.AssignNarrow", spec := "assignNarrow", unfollowed := true, recurses := true, apart := false }
def AssignNarrowSaid : Prop := assignNarrowRow.holds Try.pinned (OpenSpec.ofChange assignNarrowSpec)

/-- ITS FALSE NEIGHBOUR: 'it returns false'. Refute it at one input. -/
def assignNarrowWrong : ChangeSpec := { name := "assignNarrow", fn := fun _ => fun
  | [d1, d2] => { results := [.lit (.bool false)], args := [d1, d2] }
  | _ => none }
def AssignNarrowWrongFalsely : Prop := assignNarrowRow.holds Try.pinned (OpenSpec.ofChange assignNarrowWrong)

/-- 'archivumlaw38.AssignEither': WHATEVER THE INPUT: true; the input reads as it did. -/
def assignEitherSpec : ChangeSpec := { name := "assignEither", fn := fun _ => fun
  | [d1, d2] => { results := [.lit (.bool true)], args := [d1, d2] }
  | _ => none }
def assignEitherRow : OpenClaim := { program := "ytjpcpnakcapojaa", sum := "907c6eaef8677795ffcee3f3b187f47ae50bce389792e9cca294865b14b3d479", func := "archivum/archivumlaw38.AssignEither", spec := "assignEither", unfollowed := true, recurses := true, apart := false }
def AssignEitherSaid : Prop := assignEitherRow.holds Try.pinned (OpenSpec.ofChange assignEitherSpec)

/-- ITS FALSE NEIGHBOUR: 'it returns false'. Refute it at one input. -/
def assignEitherWrong : ChangeSpec := { name := "assignEither", fn := fun _ => fun
  | [d1, d2] => { results := [.lit (.bool false)], args := [d1, d2] }
  | _ => none }
def AssignEitherWrongFalsely : Prop := assignEitherRow.holds Try.pinned (OpenSpec.ofChange assignEitherWrong)

/-- 'archivumlaw38.AssignChecks': WHATEVER THE INPUT: true; the input reads as it did. -/
def assignChecksSpec : ChangeSpec := { name := "assignChecks", fn := fun _ => fun
  | [d1, d2] => { results := [.lit (.bool true)], args := [d1, d2] }
  | _ => none }
def assignChecksRow : OpenClaim := { program := "ytjpcpnakcapojaa", sum := "907c6eaef8677795ffcee3f3b187f47ae50bce389792e9cca294865b14b3d479", func := "archivum/archivumlaw38.AssignChecks", spec := "assignChecks", unfollowed := true, recurses := true, apart := false }
def AssignChecksSaid : Prop := assignChecksRow.holds Try.pinned (OpenSpec.ofChange assignChecksSpec)

/-- ITS FALSE NEIGHBOUR: 'it returns false'. Refute it at one input. -/
def assignChecksWrong : ChangeSpec := { name := "assignChecks", fn := fun _ => fun
  | [d1, d2] => { results := [.lit (.bool false)], args := [d1, d2] }
  | _ => none }
def AssignChecksWrongFalsely : Prop := assignChecksRow.holds Try.pinned (OpenSpec.ofChange assignChecksWrong)

/-- 'archivumlaw38.AssignProves': WHATEVER THE INPUT: true; the input reads as it did. -/
def assignProvesSpec : ChangeSpec := { name := "assignProves", fn := fun _ => fun
  | [d] => { results := [.lit (.bool true)], args := [d] }
  | _ => none }
def assignProvesRow : OpenClaim := { program := "ytjpcpnakcapojaa", sum := "907c6eaef8677795ffcee3f3b187f47ae50bce389792e9cca294865b14b3d479", func := "archivum/archivumlaw38.AssignProves", spec := "assignProves", unfollowed := true, recurses := true, apart := false }
def AssignProvesSaid : Prop := assignProvesRow.holds Try.pinned (OpenSpec.ofChange assignProvesSpec)

/-- ITS FALSE NEIGHBOUR: 'it returns false'. Refute it at one input. -/
def assignProvesWrong : ChangeSpec := { name := "assignProves", fn := fun _ => fun
  | [d] => { results := [.lit (.bool false)], args := [d] }
  | _ => none }
def AssignProvesWrongFalsely : Prop := assignProvesRow.holds Try.pinned (OpenSpec.ofChange assignProvesWrong)

/-- 'archivumlaw38.AssignLeast': WHATEVER THE INPUT: true; the input reads as it did. -/
def assignLeastSpec : ChangeSpec := { name := "assignLeast", fn := fun _ => fun
  | [d1, d2, d3] => { results := [.lit (.bool true)], args := [d1, d2, d3] }
  | _ => none }
def assignLeastRow : OpenClaim := { program := "ytjpcpnakcapojaa", sum := "907c6eaef8677795ffcee3f3b187f47ae50bce389792e9cca294865b14b3d479", func := "archivum/archivumlaw38.AssignLeast", spec := "assignLeast", unfollowed := true, recurses := true, apart := false }
def AssignLeastSaid : Prop := assignLeastRow.holds Try.pinned (OpenSpec.ofChange assignLeastSpec)

/-- ITS FALSE NEIGHBOUR: 'it returns false'. Refute it at one input. -/
def assignLeastWrong : ChangeSpec := { name := "assignLeast", fn := fun _ => fun
  | [d1, d2, d3] => { results := [.lit (.bool false)], args := [d1, d2, d3] }
  | _ => none }
def AssignLeastWrongFalsely : Prop := assignLeastRow.holds Try.pinned (OpenSpec.ofChange assignLeastWrong)

/- THE SECOND FORM. 'bulk': how many values and letters a reading holds, each counted each time it is reached (what is shared counts as often as it is met; a slice's spare places count too). A statement '..UptoSaid' is the law's where the arguments, and the package variables that the reading takes, are together of bulk at most 1048576: NARROWER than '..Said'. Prove '..Said' where nothing that the law and all that it calls make is longer than what came in: it says more and counts as full. Else prove '..UptoSaid'. A law counts once. -/
mutual
def uptoBulk {H : Type} : DataW H → Nat
  | .lit (.string bytes) => bytes.length + 1
  | .lit _ => 1
  | .nil => 1
  | .ptr d => uptoBulk d + 1
  | .slice elems spare => uptoBulkAll elems + uptoBulkAll spare + 1
  | .agg parts => uptoBulkAll parts + 1
  | .iface _ d => uptoBulk d + 1
  | .map entries => uptoBulkEntries entries + 1
  | .held _ => 1
def uptoBulkAll {H : Type} : List (DataW H) → Nat
  | [] => 0
  | d :: r => uptoBulk d + uptoBulkAll r
def uptoBulkEntries {H : Type} : List (Lit × DataW H) → Nat
  | [] => 0
  | x :: r => uptoBulkEntry x + uptoBulkEntries r
def uptoBulkEntry {H : Type} : Lit × DataW H → Nat
  | (.string bytes, d) => bytes.length + uptoBulk d + 1
  | (_, d) => uptoBulk d + 1
 end
def uptoSmall : (H : Type) → List (DataW H) → Bool := fun _ ds => decide (uptoBulkAll ds ≤ 1048576)
def OpenSpec.upto (s : _root_.Go.ChangeSpec) : _root_.Go.OpenSpec := { _root_.Go.OpenSpec.ofChange s with cond := some uptoSmall }

/-- 'archivumlaw38.AssignCheapest', WHERE WHAT IT READS IS OF BULK AT MOST 1048576: true; the input reads as it did. -/
def assignCheapestUptoRow : OpenClaim := { program := "ytjpcpnakcapojaa", sum := "907c6eaef8677795ffcee3f3b187f47ae50bce389792e9cca294865b14b3d479", func := "archivum/archivumlaw38.AssignCheapest", spec := "assignCheapest", unfollowed := true, recurses := true, apart := false, narrowed := true }
def AssignCheapestUptoSaid : Prop := assignCheapestUptoRow.holds Try.pinned (OpenSpec.upto assignCheapestSpec)

/-- 'archivumlaw38.AssignBounds', WHERE WHAT IT READS IS OF BULK AT MOST 1048576: true; the input reads as it did. -/
def assignBoundsUptoRow : OpenClaim := { program := "ytjpcpnakcapojaa", sum := "907c6eaef8677795ffcee3f3b187f47ae50bce389792e9cca294865b14b3d479", func := "archivum/archivumlaw38.AssignBounds", spec := "assignBounds", unfollowed := true, recurses := true, apart := false, narrowed := true }
def AssignBoundsUptoSaid : Prop := assignBoundsUptoRow.holds Try.pinned (OpenSpec.upto assignBoundsSpec)

/-- 'archivumlaw38.AssignWider', WHERE WHAT IT READS IS OF BULK AT MOST 1048576: true; the input reads as it did. -/
def assignWiderUptoRow : OpenClaim := { program := "ytjpcpnakcapojaa", sum := "907c6eaef8677795ffcee3f3b187f47ae50bce389792e9cca294865b14b3d479", func := "archivum/archivumlaw38.AssignWider", spec := "assignWider", unfollowed := true, recurses := true, apart := false, narrowed := true }
def AssignWiderUptoSaid : Prop := assignWiderUptoRow.holds Try.pinned (OpenSpec.upto assignWiderSpec)

/-- 'archivumlaw38.AssignNarrow', WHERE WHAT IT READS IS OF BULK AT MOST 1048576: true; the input reads as it did. -/
def assignNarrowUptoRow : OpenClaim := { program := "ytjpcpnakcapojaa", sum := "907c6eaef8677795ffcee3f3b187f47ae50bce389792e9cca294865b14b3d479", func := "archivum/archivumlaw38.AssignNarrow", spec := "assignNarrow", unfollowed := true, recurses := true, apart := false, narrowed := true }
def AssignNarrowUptoSaid : Prop := assignNarrowUptoRow.holds Try.pinned (OpenSpec.upto assignNarrowSpec)

/-- 'archivumlaw38.AssignEither', WHERE WHAT IT READS IS OF BULK AT MOST 1048576: true; the input reads as it did. -/
def assignEitherUptoRow : OpenClaim := { program := "ytjpcpnakcapojaa", sum := "907c6eaef8677795ffcee3f3b187f47ae50bce389792e9cca294865b14b3d479", func := "archivum/archivumlaw38.AssignEither", spec := "assignEither", unfollowed := true, recurses := true, apart := false, narrowed := true }
def AssignEitherUptoSaid : Prop := assignEitherUptoRow.holds Try.pinned (OpenSpec.upto assignEitherSpec)

/-- 'archivumlaw38.AssignChecks', WHERE WHAT IT READS IS OF BULK AT MOST 1048576: true; the input reads as it did. -/
def assignChecksUptoRow : OpenClaim := { program := "ytjpcpnakcapojaa", sum := "907c6eaef8677795ffcee3f3b187f47ae50bce389792e9cca294865b14b3d479", func := "archivum/archivumlaw38.AssignChecks", spec := "assignChecks", unfollowed := true, recurses := true, apart := false, narrowed := true }
def AssignChecksUptoSaid : Prop := assignChecksUptoRow.holds Try.pinned (OpenSpec.upto assignChecksSpec)

/-- 'archivumlaw38.AssignProves', WHERE WHAT IT READS IS OF BULK AT MOST 1048576: true; the input reads as it did. -/
def assignProvesUptoRow : OpenClaim := { program := "ytjpcpnakcapojaa", sum := "907c6eaef8677795ffcee3f3b187f47ae50bce389792e9cca294865b14b3d479", func := "archivum/archivumlaw38.AssignProves", spec := "assignProves", unfollowed := true, recurses := true, apart := false, narrowed := true }
def AssignProvesUptoSaid : Prop := assignProvesUptoRow.holds Try.pinned (OpenSpec.upto assignProvesSpec)

/-- 'archivumlaw38.AssignLeast', WHERE WHAT IT READS IS OF BULK AT MOST 1048576: true; the input reads as it did. -/
def assignLeastUptoRow : OpenClaim := { program := "ytjpcpnakcapojaa", sum := "907c6eaef8677795ffcee3f3b187f47ae50bce389792e9cca294865b14b3d479", func := "archivum/archivumlaw38.AssignLeast", spec := "assignLeast", unfollowed := true, recurses := true, apart := false, narrowed := true }
def AssignLeastUptoSaid : Prop := assignLeastUptoRow.holds Try.pinned (OpenSpec.upto assignLeastSpec)

end Rows
end Go.Proofs.Ytjpcpnakcapojaa
