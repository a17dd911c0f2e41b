/-
  No cell of these rows narrows 'for every input' (looked for: loops, veiled, ifaces, maps, wideKeys, modest, calm, conditions, laid).
  DERIVED. THE GIVEN ROWS OF THIS SEAT. 7 by the template 'for every input the law returns true; each argument reads behind the call as it read before'; 0 by the template 'total and deterministic' (their statements: YtknbomaidhlnlaaTotals.lean).
  GIVEN WITH THE SEED: the statements are not yours to turn. If you find one false, say at which input.
  Laid BY PROGRAM, IN A SANDBOX (cutbox-rows.mjs): the forced cells as the released guide's own fill.sh prints them over the translation 5344a5efaff37407… (all of the seat's roots in one cut). By AI agents, Wed Nov 11 2026. No macro, syntax, notation, axiom, sorry.
-/
import Derived.Test.YtknbomaidhlnlaaChecked
import GoSem.Claim
import GoSem.ClaimJoined
import GoSem.ClaimMapViews
import Derived.JoinedTies
import Derived.KernelRfl
namespace Go.Proofs.Ytknbomaidhlnlaa
/- THE CELL 'sum', in the pinned program and in every row, IS THE sha256 OF THE DUMP (.gsa) THAT YtknbomaidhlnlaaProg.lean LOADS. Nothing in Lean hashes anything: it is a label: what it is worth is what the hold of that sum in a sandbox is worth. -/
noncomputable def Try.pinned : Pinned := { name := "ytknbomaidhlnlaa", sum := "5344a5efaff374075a1c34444a4c95a4633e832036989113791a8082ce9144fb", checked := Try.checked }
namespace Rows
def none {H : Type} : Left H := { results := [], args := [] }

/-- 'archivumlaw42.RequestChecks': WHATEVER THE INPUT: true; the input reads as it did. -/
def requestChecksSpec : ChangeSpec := { name := "requestChecks", fn := fun _ => fun
  | [d1, d2] => { results := [.lit (.bool true)], args := [d1, d2] }
  | _ => none }
def requestChecksRow : OpenClaim := { program := "ytknbomaidhlnlaa", sum := "5344a5efaff374075a1c34444a4c95a4633e832036989113791a8082ce9144fb", func := "archivum/archivumlaw42.RequestChecks", spec := "requestChecks", unfollowed := true, recurses := true, apart := false }
def RequestChecksSaid : Prop := requestChecksRow.holds Try.pinned (OpenSpec.ofChange requestChecksSpec)

/-- ITS FALSE NEIGHBOUR: 'it returns false'. Refute it at one input. -/
def requestChecksWrong : ChangeSpec := { name := "requestChecks", fn := fun _ => fun
  | [d1, d2] => { results := [.lit (.bool false)], args := [d1, d2] }
  | _ => none }
def RequestChecksWrongFalsely : Prop := requestChecksRow.holds Try.pinned (OpenSpec.ofChange requestChecksWrong)

/-- 'archivumlaw42.RequestFull': WHATEVER THE INPUT: true; the input reads as it did. -/
def requestFullSpec : ChangeSpec := { name := "requestFull", fn := fun _ => fun
  | [d1, d2] => { results := [.lit (.bool true)], args := [d1, d2] }
  | _ => none }
def requestFullRow : OpenClaim := { program := "ytknbomaidhlnlaa", sum := "5344a5efaff374075a1c34444a4c95a4633e832036989113791a8082ce9144fb", func := "archivum/archivumlaw42.RequestFull", spec := "requestFull", unfollowed := true, recurses := true, apart := false }
def RequestFullSaid : Prop := requestFullRow.holds Try.pinned (OpenSpec.ofChange requestFullSpec)

/-- ITS FALSE NEIGHBOUR: 'it returns false'. Refute it at one input. -/
def requestFullWrong : ChangeSpec := { name := "requestFull", fn := fun _ => fun
  | [d1, d2] => { results := [.lit (.bool false)], args := [d1, d2] }
  | _ => none }
def RequestFullWrongFalsely : Prop := requestFullRow.holds Try.pinned (OpenSpec.ofChange requestFullWrong)

/-- 'archivumlaw42.RequestFair': WHATEVER THE INPUT: true; the input reads as it did. -/
def requestFairSpec : ChangeSpec := { name := "requestFair", fn := fun _ => fun
  | [d1, d2] => { results := [.lit (.bool true)], args := [d1, d2] }
  | _ => none }
def requestFairRow : OpenClaim := { program := "ytknbomaidhlnlaa", sum := "5344a5efaff374075a1c34444a4c95a4633e832036989113791a8082ce9144fb", func := "archivum/archivumlaw42.RequestFair", spec := "requestFair", unfollowed := true, recurses := true, apart := false }
def RequestFairSaid : Prop := requestFairRow.holds Try.pinned (OpenSpec.ofChange requestFairSpec)

/-- ITS FALSE NEIGHBOUR: 'it returns false'. Refute it at one input. -/
def requestFairWrong : ChangeSpec := { name := "requestFair", fn := fun _ => fun
  | [d1, d2] => { results := [.lit (.bool false)], args := [d1, d2] }
  | _ => none }
def RequestFairWrongFalsely : Prop := requestFairRow.holds Try.pinned (OpenSpec.ofChange requestFairWrong)

/-- 'archivumlaw42.RequestChanges': WHATEVER THE INPUT: true; the input reads as it did. -/
def requestChangesSpec : ChangeSpec := { name := "requestChanges", fn := fun _ => fun
  | [d1, d2, d3] => { results := [.lit (.bool true)], args := [d1, d2, d3] }
  | _ => none }
def requestChangesRow : OpenClaim := { program := "ytknbomaidhlnlaa", sum := "5344a5efaff374075a1c34444a4c95a4633e832036989113791a8082ce9144fb", func := "archivum/archivumlaw42.RequestChanges", spec := "requestChanges", unfollowed := true, recurses := true, apart := false }
def RequestChangesSaid : Prop := requestChangesRow.holds Try.pinned (OpenSpec.ofChange requestChangesSpec)

/-- ITS FALSE NEIGHBOUR: 'it returns false'. Refute it at one input. -/
def requestChangesWrong : ChangeSpec := { name := "requestChanges", fn := fun _ => fun
  | [d1, d2, d3] => { results := [.lit (.bool false)], args := [d1, d2, d3] }
  | _ => none }
def RequestChangesWrongFalsely : Prop := requestChangesRow.holds Try.pinned (OpenSpec.ofChange requestChangesWrong)

/-- 'archivumlaw42.RequestOne': WHATEVER THE INPUT: true; the input reads as it did. -/
def requestOneSpec : ChangeSpec := { name := "requestOne", fn := fun _ => fun
  | [d1, d2] => { results := [.lit (.bool true)], args := [d1, d2] }
  | _ => none }
def requestOneRow : OpenClaim := { program := "ytknbomaidhlnlaa", sum := "5344a5efaff374075a1c34444a4c95a4633e832036989113791a8082ce9144fb", func := "archivum/archivumlaw42.RequestOne", spec := "requestOne", unfollowed := true, recurses := true, apart := false }
def RequestOneSaid : Prop := requestOneRow.holds Try.pinned (OpenSpec.ofChange requestOneSpec)

/-- ITS FALSE NEIGHBOUR: 'it returns false'. Refute it at one input. -/
def requestOneWrong : ChangeSpec := { name := "requestOne", fn := fun _ => fun
  | [d1, d2] => { results := [.lit (.bool false)], args := [d1, d2] }
  | _ => none }
def RequestOneWrongFalsely : Prop := requestOneRow.holds Try.pinned (OpenSpec.ofChange requestOneWrong)

/-- 'archivumlaw42.RequestNearer': WHATEVER THE INPUT: true; the input reads as it did. -/
def requestNearerSpec : ChangeSpec := { name := "requestNearer", fn := fun _ => fun
  | [d1, d2, d3] => { results := [.lit (.bool true)], args := [d1, d2, d3] }
  | _ => none }
def requestNearerRow : OpenClaim := { program := "ytknbomaidhlnlaa", sum := "5344a5efaff374075a1c34444a4c95a4633e832036989113791a8082ce9144fb", func := "archivum/archivumlaw42.RequestNearer", spec := "requestNearer", unfollowed := true, recurses := true, apart := false }
def RequestNearerSaid : Prop := requestNearerRow.holds Try.pinned (OpenSpec.ofChange requestNearerSpec)

/-- ITS FALSE NEIGHBOUR: 'it returns false'. Refute it at one input. -/
def requestNearerWrong : ChangeSpec := { name := "requestNearer", fn := fun _ => fun
  | [d1, d2, d3] => { results := [.lit (.bool false)], args := [d1, d2, d3] }
  | _ => none }
def RequestNearerWrongFalsely : Prop := requestNearerRow.holds Try.pinned (OpenSpec.ofChange requestNearerWrong)

/-- 'archivumlaw42.RequestFinds': WHATEVER THE INPUT: true; the input reads as it did. -/
def requestFindsSpec : ChangeSpec := { name := "requestFinds", fn := fun _ => fun
  | [d1, d2] => { results := [.lit (.bool true)], args := [d1, d2] }
  | _ => none }
def requestFindsRow : OpenClaim := { program := "ytknbomaidhlnlaa", sum := "5344a5efaff374075a1c34444a4c95a4633e832036989113791a8082ce9144fb", func := "archivum/archivumlaw42.RequestFinds", spec := "requestFinds", unfollowed := true, recurses := true, apart := false }
def RequestFindsSaid : Prop := requestFindsRow.holds Try.pinned (OpenSpec.ofChange requestFindsSpec)

/-- ITS FALSE NEIGHBOUR: 'it returns false'. Refute it at one input. -/
def requestFindsWrong : ChangeSpec := { name := "requestFinds", fn := fun _ => fun
  | [d1, d2] => { results := [.lit (.bool false)], args := [d1, d2] }
  | _ => none }
def RequestFindsWrongFalsely : Prop := requestFindsRow.holds Try.pinned (OpenSpec.ofChange requestFindsWrong)

/- THE SECOND FORM. 'bulk': how many values and letters a reading holds, each counted each time it is reached (what is shared counts as often as it is met; a slice's spare places count too). A statement '..UptoSaid' is the law's where the arguments, and the package variables that the reading takes, are together of bulk at most 1048576: NARROWER than '..Said'. Prove '..Said' where nothing that the law and all that it calls make is longer than what came in: it says more and counts as full. Else prove '..UptoSaid'. A law counts once. -/
mutual
def uptoBulk {H : Type} : DataW H → Nat
  | .lit (.string bytes) => bytes.length + 1
  | .lit _ => 1
  | .nil => 1
  | .ptr d => uptoBulk d + 1
  | .slice elems spare => uptoBulkAll elems + uptoBulkAll spare + 1
  | .agg parts => uptoBulkAll parts + 1
  | .iface _ d => uptoBulk d + 1
  | .map entries => uptoBulkEntries entries + 1
  | .held _ => 1
def uptoBulkAll {H : Type} : List (DataW H) → Nat
  | [] => 0
  | d :: r => uptoBulk d + uptoBulkAll r
def uptoBulkEntries {H : Type} : List (Lit × DataW H) → Nat
  | [] => 0
  | x :: r => uptoBulkEntry x + uptoBulkEntries r
def uptoBulkEntry {H : Type} : Lit × DataW H → Nat
  | (.string bytes, d) => bytes.length + uptoBulk d + 1
  | (_, d) => uptoBulk d + 1
 end
def uptoSmall : (H : Type) → List (DataW H) → Bool := fun _ ds => decide (uptoBulkAll ds ≤ 1048576)
def OpenSpec.upto (s : _root_.Go.ChangeSpec) : _root_.Go.OpenSpec := { _root_.Go.OpenSpec.ofChange s with cond := some uptoSmall }

/-- 'archivumlaw42.RequestChecks', WHERE WHAT IT READS IS OF BULK AT MOST 1048576: true; the input reads as it did. -/
def requestChecksUptoRow : OpenClaim := { program := "ytknbomaidhlnlaa", sum := "5344a5efaff374075a1c34444a4c95a4633e832036989113791a8082ce9144fb", func := "archivum/archivumlaw42.RequestChecks", spec := "requestChecks", unfollowed := true, recurses := true, apart := false, narrowed := true }
def RequestChecksUptoSaid : Prop := requestChecksUptoRow.holds Try.pinned (OpenSpec.upto requestChecksSpec)

/-- 'archivumlaw42.RequestFull', WHERE WHAT IT READS IS OF BULK AT MOST 1048576: true; the input reads as it did. -/
def requestFullUptoRow : OpenClaim := { program := "ytknbomaidhlnlaa", sum := "5344a5efaff374075a1c34444a4c95a4633e832036989113791a8082ce9144fb", func := "archivum/archivumlaw42.RequestFull", spec := "requestFull", unfollowed := true, recurses := true, apart := false, narrowed := true }
def RequestFullUptoSaid : Prop := requestFullUptoRow.holds Try.pinned (OpenSpec.upto requestFullSpec)

/-- 'archivumlaw42.RequestFair', WHERE WHAT IT READS IS OF BULK AT MOST 1048576: true; the input reads as it did. -/
def requestFairUptoRow : OpenClaim := { program := "ytknbomaidhlnlaa", sum := "5344a5efaff374075a1c34444a4c95a4633e832036989113791a8082ce9144fb", func := "archivum/archivumlaw42.RequestFair", spec := "requestFair", unfollowed := true, recurses := true, apart := false, narrowed := true }
def RequestFairUptoSaid : Prop := requestFairUptoRow.holds Try.pinned (OpenSpec.upto requestFairSpec)

/-- 'archivumlaw42.RequestChanges', WHERE WHAT IT READS IS OF BULK AT MOST 1048576: true; the input reads as it did. -/
def requestChangesUptoRow : OpenClaim := { program := "ytknbomaidhlnlaa", sum := "5344a5efaff374075a1c34444a4c95a4633e832036989113791a8082ce9144fb", func := "archivum/archivumlaw42.RequestChanges", spec := "requestChanges", unfollowed := true, recurses := true, apart := false, narrowed := true }
def RequestChangesUptoSaid : Prop := requestChangesUptoRow.holds Try.pinned (OpenSpec.upto requestChangesSpec)

/-- 'archivumlaw42.RequestOne', WHERE WHAT IT READS IS OF BULK AT MOST 1048576: true; the input reads as it did. -/
def requestOneUptoRow : OpenClaim := { program := "ytknbomaidhlnlaa", sum := "5344a5efaff374075a1c34444a4c95a4633e832036989113791a8082ce9144fb", func := "archivum/archivumlaw42.RequestOne", spec := "requestOne", unfollowed := true, recurses := true, apart := false, narrowed := true }
def RequestOneUptoSaid : Prop := requestOneUptoRow.holds Try.pinned (OpenSpec.upto requestOneSpec)

/-- 'archivumlaw42.RequestNearer', WHERE WHAT IT READS IS OF BULK AT MOST 1048576: true; the input reads as it did. -/
def requestNearerUptoRow : OpenClaim := { program := "ytknbomaidhlnlaa", sum := "5344a5efaff374075a1c34444a4c95a4633e832036989113791a8082ce9144fb", func := "archivum/archivumlaw42.RequestNearer", spec := "requestNearer", unfollowed := true, recurses := true, apart := false, narrowed := true }
def RequestNearerUptoSaid : Prop := requestNearerUptoRow.holds Try.pinned (OpenSpec.upto requestNearerSpec)

/-- 'archivumlaw42.RequestFinds', WHERE WHAT IT READS IS OF BULK AT MOST 1048576: true; the input reads as it did. -/
def requestFindsUptoRow : OpenClaim := { program := "ytknbomaidhlnlaa", sum := "5344a5efaff374075a1c34444a4c95a4633e832036989113791a8082ce9144fb", func := "archivum/archivumlaw42.RequestFinds", spec := "requestFinds", unfollowed := true, recurses := true, apart := false, narrowed := true }
def RequestFindsUptoSaid : Prop := requestFindsUptoRow.holds Try.pinned (OpenSpec.upto requestFindsSpec)

end Rows
end Go.Proofs.Ytknbomaidhlnlaa
