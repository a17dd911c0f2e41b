/-
  No cell of these rows narrows 'for every input' (looked for: loops, veiled, ifaces, maps, wideKeys, modest, calm, conditions, laid).
  DERIVED. THE GIVEN ROWS OF THIS SEAT. 7 by the template 'for every input the law returns true; each argument reads behind the call as it read before'; 0 by the template 'total and deterministic' (their statements: YtnmpnlhlbjemeaaTotals.lean).
  GIVEN WITH THE SEED: the statements are not yours to turn. If you find one false, say at which input.
  Laid BY PROGRAM, IN A SANDBOX (cutbox-rows.mjs): the forced cells as the released guide's own fill.sh prints them over the translation 85739f1f31b50c61… (all of the seat's roots in one cut). By AI agents, Wed Nov 11 2026. No macro, syntax, notation, axiom, sorry.
-/
import Derived.Test.YtnmpnlhlbjemeaaChecked
import GoSem.Claim
import GoSem.ClaimJoined
import GoSem.ClaimMapViews
import Derived.JoinedTies
import Derived.KernelRfl
namespace Go.Proofs.Ytnmpnlhlbjemeaa
/- THE CELL 'sum', in the pinned program and in every row, IS THE sha256 OF THE DUMP (.gsa) THAT YtnmpnlhlbjemeaaProg.lean LOADS. Nothing in Lean hashes anything: it is a label: what it is worth is what the hold of that sum in a sandbox is worth. -/
noncomputable def Try.pinned : Pinned := { name := "ytnmpnlhlbjemeaa", sum := "85739f1f31b50c61c59d9eeb16f91c1c084f7fd8efb53457c177462b87ff6afa", checked := Try.checked }
namespace Rows
def none {H : Type} : Left H := { results := [], args := [] }

/-- 'archivumlaw39.PackOrders': WHATEVER THE INPUT: true; the input reads as it did. -/
def packOrdersSpec : ChangeSpec := { name := "packOrders", fn := fun _ => fun
  | [d1, d2] => { results := [.lit (.bool true)], args := [d1, d2] }
  | _ => none }
def packOrdersRow : OpenClaim := { program := "ytnmpnlhlbjemeaa", sum := "85739f1f31b50c61c59d9eeb16f91c1c084f7fd8efb53457c177462b87ff6afa", func := "archivum/archivumlaw39.PackOrders", spec := "packOrders", unfollowed := true, recurses := true, apart := false }
def PackOrdersSaid : Prop := packOrdersRow.holds Try.pinned (OpenSpec.ofChange packOrdersSpec)

/-- ITS FALSE NEIGHBOUR: 'it returns false'. Refute it at one input. -/
def packOrdersWrong : ChangeSpec := { name := "packOrders", fn := fun _ => fun
  | [d1, d2] => { results := [.lit (.bool false)], args := [d1, d2] }
  | _ => none }
def PackOrdersWrongFalsely : Prop := packOrdersRow.holds Try.pinned (OpenSpec.ofChange packOrdersWrong)

/-- 'archivumlaw39.PackExact': WHATEVER THE INPUT: true; the input reads as it did. -/
def packExactSpec : ChangeSpec := { name := "packExact", fn := fun _ => fun
  | [d1, d2] => { results := [.lit (.bool true)], args := [d1, d2] }
  | _ => none }
def packExactRow : OpenClaim := { program := "ytnmpnlhlbjemeaa", sum := "85739f1f31b50c61c59d9eeb16f91c1c084f7fd8efb53457c177462b87ff6afa", func := "archivum/archivumlaw39.PackExact", spec := "packExact", unfollowed := true, recurses := true, apart := false }
def PackExactSaid : Prop := packExactRow.holds Try.pinned (OpenSpec.ofChange packExactSpec)

/-- ITS FALSE NEIGHBOUR: 'it returns false'. Refute it at one input. -/
def packExactWrong : ChangeSpec := { name := "packExact", fn := fun _ => fun
  | [d1, d2] => { results := [.lit (.bool false)], args := [d1, d2] }
  | _ => none }
def PackExactWrongFalsely : Prop := packExactRow.holds Try.pinned (OpenSpec.ofChange packExactWrong)

/-- 'archivumlaw39.PackMore': WHATEVER THE INPUT: true; the input reads as it did. -/
def packMoreSpec : ChangeSpec := { name := "packMore", fn := fun _ => fun
  | [d1, d2, d3] => { results := [.lit (.bool true)], args := [d1, d2, d3] }
  | _ => none }
def packMoreRow : OpenClaim := { program := "ytnmpnlhlbjemeaa", sum := "85739f1f31b50c61c59d9eeb16f91c1c084f7fd8efb53457c177462b87ff6afa", func := "archivum/archivumlaw39.PackMore", spec := "packMore", unfollowed := true, recurses := true, apart := false }
def PackMoreSaid : Prop := packMoreRow.holds Try.pinned (OpenSpec.ofChange packMoreSpec)

/-- ITS FALSE NEIGHBOUR: 'it returns false'. Refute it at one input. -/
def packMoreWrong : ChangeSpec := { name := "packMore", fn := fun _ => fun
  | [d1, d2, d3] => { results := [.lit (.bool false)], args := [d1, d2, d3] }
  | _ => none }
def PackMoreWrongFalsely : Prop := packMoreRow.holds Try.pinned (OpenSpec.ofChange packMoreWrong)

/-- 'archivumlaw39.PackSets': WHATEVER THE INPUT: true; the input reads as it did. -/
def packSetsSpec : ChangeSpec := { name := "packSets", fn := fun _ => fun
  | [d1, d2, d3] => { results := [.lit (.bool true)], args := [d1, d2, d3] }
  | _ => none }
def packSetsRow : OpenClaim := { program := "ytnmpnlhlbjemeaa", sum := "85739f1f31b50c61c59d9eeb16f91c1c084f7fd8efb53457c177462b87ff6afa", func := "archivum/archivumlaw39.PackSets", spec := "packSets", unfollowed := true, recurses := true, apart := false }
def PackSetsSaid : Prop := packSetsRow.holds Try.pinned (OpenSpec.ofChange packSetsSpec)

/-- ITS FALSE NEIGHBOUR: 'it returns false'. Refute it at one input. -/
def packSetsWrong : ChangeSpec := { name := "packSets", fn := fun _ => fun
  | [d1, d2, d3] => { results := [.lit (.bool false)], args := [d1, d2, d3] }
  | _ => none }
def PackSetsWrongFalsely : Prop := packSetsRow.holds Try.pinned (OpenSpec.ofChange packSetsWrong)

/-- 'archivumlaw39.PackTables': WHATEVER THE INPUT: true; the input reads as it did. -/
def packTablesSpec : ChangeSpec := { name := "packTables", fn := fun _ => fun
  | [d1, d2, d3] => { results := [.lit (.bool true)], args := [d1, d2, d3] }
  | _ => none }
def packTablesRow : OpenClaim := { program := "ytnmpnlhlbjemeaa", sum := "85739f1f31b50c61c59d9eeb16f91c1c084f7fd8efb53457c177462b87ff6afa", func := "archivum/archivumlaw39.PackTables", spec := "packTables", unfollowed := true, recurses := true, apart := false }
def PackTablesSaid : Prop := packTablesRow.holds Try.pinned (OpenSpec.ofChange packTablesSpec)

/-- ITS FALSE NEIGHBOUR: 'it returns false'. Refute it at one input. -/
def packTablesWrong : ChangeSpec := { name := "packTables", fn := fun _ => fun
  | [d1, d2, d3] => { results := [.lit (.bool false)], args := [d1, d2, d3] }
  | _ => none }
def PackTablesWrongFalsely : Prop := packTablesRow.holds Try.pinned (OpenSpec.ofChange packTablesWrong)

/-- 'archivumlaw39.PackFewest': WHATEVER THE INPUT: true; the input reads as it did. -/
def packFewestSpec : ChangeSpec := { name := "packFewest", fn := fun _ => fun
  | [d1, d2, d3] => { results := [.lit (.bool true)], args := [d1, d2, d3] }
  | _ => none }
def packFewestRow : OpenClaim := { program := "ytnmpnlhlbjemeaa", sum := "85739f1f31b50c61c59d9eeb16f91c1c084f7fd8efb53457c177462b87ff6afa", func := "archivum/archivumlaw39.PackFewest", spec := "packFewest", unfollowed := true, recurses := true, apart := false }
def PackFewestSaid : Prop := packFewestRow.holds Try.pinned (OpenSpec.ofChange packFewestSpec)

/-- ITS FALSE NEIGHBOUR: 'it returns false'. Refute it at one input. -/
def packFewestWrong : ChangeSpec := { name := "packFewest", fn := fun _ => fun
  | [d1, d2, d3] => { results := [.lit (.bool false)], args := [d1, d2, d3] }
  | _ => none }
def PackFewestWrongFalsely : Prop := packFewestRow.holds Try.pinned (OpenSpec.ofChange packFewestWrong)

/-- 'archivumlaw39.PackKeepsOrder': WHATEVER THE INPUT: true; the input reads as it did. -/
def packKeepsOrderSpec : ChangeSpec := { name := "packKeepsOrder", fn := fun _ => fun
  | [d1, d2, d3] => { results := [.lit (.bool true)], args := [d1, d2, d3] }
  | _ => none }
def packKeepsOrderRow : OpenClaim := { program := "ytnmpnlhlbjemeaa", sum := "85739f1f31b50c61c59d9eeb16f91c1c084f7fd8efb53457c177462b87ff6afa", func := "archivum/archivumlaw39.PackKeepsOrder", spec := "packKeepsOrder", unfollowed := true, recurses := true, apart := false }
def PackKeepsOrderSaid : Prop := packKeepsOrderRow.holds Try.pinned (OpenSpec.ofChange packKeepsOrderSpec)

/-- ITS FALSE NEIGHBOUR: 'it returns false'. Refute it at one input. -/
def packKeepsOrderWrong : ChangeSpec := { name := "packKeepsOrder", fn := fun _ => fun
  | [d1, d2, d3] => { results := [.lit (.bool false)], args := [d1, d2, d3] }
  | _ => none }
def PackKeepsOrderWrongFalsely : Prop := packKeepsOrderRow.holds Try.pinned (OpenSpec.ofChange packKeepsOrderWrong)

/- THE SECOND FORM. 'bulk': how many values and letters a reading holds, each counted each time it is reached (what is shared counts as often as it is met; a slice's spare places count too). A statement '..UptoSaid' is the law's where the arguments, and the package variables that the reading takes, are together of bulk at most 1048576: NARROWER than '..Said'. Prove '..Said' where nothing that the law and all that it calls make is longer than what came in: it says more and counts as full. Else prove '..UptoSaid'. A law counts once. -/
mutual
def uptoBulk {H : Type} : DataW H → Nat
  | .lit (.string bytes) => bytes.length + 1
  | .lit _ => 1
  | .nil => 1
  | .ptr d => uptoBulk d + 1
  | .slice elems spare => uptoBulkAll elems + uptoBulkAll spare + 1
  | .agg parts => uptoBulkAll parts + 1
  | .iface _ d => uptoBulk d + 1
  | .map entries => uptoBulkEntries entries + 1
  | .held _ => 1
def uptoBulkAll {H : Type} : List (DataW H) → Nat
  | [] => 0
  | d :: r => uptoBulk d + uptoBulkAll r
def uptoBulkEntries {H : Type} : List (Lit × DataW H) → Nat
  | [] => 0
  | x :: r => uptoBulkEntry x + uptoBulkEntries r
def uptoBulkEntry {H : Type} : Lit × DataW H → Nat
  | (.string bytes, d) => bytes.length + uptoBulk d + 1
  | (_, d) => uptoBulk d + 1
 end
def uptoSmall : (H : Type) → List (DataW H) → Bool := fun _ ds => decide (uptoBulkAll ds ≤ 1048576)
def OpenSpec.upto (s : _root_.Go.ChangeSpec) : _root_.Go.OpenSpec := { _root_.Go.OpenSpec.ofChange s with cond := some uptoSmall }

/-- 'archivumlaw39.PackOrders', WHERE WHAT IT READS IS OF BULK AT MOST 1048576: true; the input reads as it did. -/
def packOrdersUptoRow : OpenClaim := { program := "ytnmpnlhlbjemeaa", sum := "85739f1f31b50c61c59d9eeb16f91c1c084f7fd8efb53457c177462b87ff6afa", func := "archivum/archivumlaw39.PackOrders", spec := "packOrders", unfollowed := true, recurses := true, apart := false, narrowed := true }
def PackOrdersUptoSaid : Prop := packOrdersUptoRow.holds Try.pinned (OpenSpec.upto packOrdersSpec)

/-- 'archivumlaw39.PackExact', WHERE WHAT IT READS IS OF BULK AT MOST 1048576: true; the input reads as it did. -/
def packExactUptoRow : OpenClaim := { program := "ytnmpnlhlbjemeaa", sum := "85739f1f31b50c61c59d9eeb16f91c1c084f7fd8efb53457c177462b87ff6afa", func := "archivum/archivumlaw39.PackExact", spec := "packExact", unfollowed := true, recurses := true, apart := false, narrowed := true }
def PackExactUptoSaid : Prop := packExactUptoRow.holds Try.pinned (OpenSpec.upto packExactSpec)

/-- 'archivumlaw39.PackMore', WHERE WHAT IT READS IS OF BULK AT MOST 1048576: true; the input reads as it did. -/
def packMoreUptoRow : OpenClaim := { program := "ytnmpnlhlbjemeaa", sum := "85739f1f31b50c61c59d9eeb16f91c1c084f7fd8efb53457c177462b87ff6afa", func := "archivum/archivumlaw39.PackMore", spec := "packMore", unfollowed := true, recurses := true, apart := false, narrowed := true }
def PackMoreUptoSaid : Prop := packMoreUptoRow.holds Try.pinned (OpenSpec.upto packMoreSpec)

/-- 'archivumlaw39.PackSets', WHERE WHAT IT READS IS OF BULK AT MOST 1048576: true; the input reads as it did. -/
def packSetsUptoRow : OpenClaim := { program := "ytnmpnlhlbjemeaa", sum := "85739f1f31b50c61c59d9eeb16f91c1c084f7fd8efb53457c177462b87ff6afa", func := "archivum/archivumlaw39.PackSets", spec := "packSets", unfollowed := true, recurses := true, apart := false, narrowed := true }
def PackSetsUptoSaid : Prop := packSetsUptoRow.holds Try.pinned (OpenSpec.upto packSetsSpec)

/-- 'archivumlaw39.PackTables', WHERE WHAT IT READS IS OF BULK AT MOST 1048576: true; the input reads as it did. -/
def packTablesUptoRow : OpenClaim := { program := "ytnmpnlhlbjemeaa", sum := "85739f1f31b50c61c59d9eeb16f91c1c084f7fd8efb53457c177462b87ff6afa", func := "archivum/archivumlaw39.PackTables", spec := "packTables", unfollowed := true, recurses := true, apart := false, narrowed := true }
def PackTablesUptoSaid : Prop := packTablesUptoRow.holds Try.pinned (OpenSpec.upto packTablesSpec)

/-- 'archivumlaw39.PackFewest', WHERE WHAT IT READS IS OF BULK AT MOST 1048576: true; the input reads as it did. -/
def packFewestUptoRow : OpenClaim := { program := "ytnmpnlhlbjemeaa", sum := "85739f1f31b50c61c59d9eeb16f91c1c084f7fd8efb53457c177462b87ff6afa", func := "archivum/archivumlaw39.PackFewest", spec := "packFewest", unfollowed := true, recurses := true, apart := false, narrowed := true }
def PackFewestUptoSaid : Prop := packFewestUptoRow.holds Try.pinned (OpenSpec.upto packFewestSpec)

/-- 'archivumlaw39.PackKeepsOrder', WHERE WHAT IT READS IS OF BULK AT MOST 1048576: true; the input reads as it did. -/
def packKeepsOrderUptoRow : OpenClaim := { program := "ytnmpnlhlbjemeaa", sum := "85739f1f31b50c61c59d9eeb16f91c1c084f7fd8efb53457c177462b87ff6afa", func := "archivum/archivumlaw39.PackKeepsOrder", spec := "packKeepsOrder", unfollowed := true, recurses := true, apart := false, narrowed := true }
def PackKeepsOrderUptoSaid : Prop := packKeepsOrderUptoRow.holds Try.pinned (OpenSpec.upto packKeepsOrderSpec)

end Rows
end Go.Proofs.Ytnmpnlhlbjemeaa
