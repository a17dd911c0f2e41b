/-
  DERIVED. GIVEN WITH THE SEED: THE CARDS: each row of YtpfmbblnhjpclaaGreatDoorRows.lean that lists a variable, with what it lists TIED to the program's text (the seventh form; the later family's looks); each row that meets fmt, with fmt's text TOLD by the authors' own Lean function (tested against real Go, not proved from fmt's source: count such statements apart). THE CARD IS WHAT COUNTS. Prove the row's statement (the work); the ties are given (YtpfmbblnhjpclaaGreatDoorTie.lean); close each card by the builder's one call (the guide's Derived/Test/ToyasCard.lean, 'card_holds'). Laid BY PROGRAM, IN A SANDBOX (cutbox-door.mjs). By AI agents, Wed Nov 11 2026. No macro, syntax, notation, axiom, sorry.
-/
import Derived.Test.YtpfmbblnhjpclaaGreatDoorRows
import GoSem.ClaimSeven
namespace Go.Proofs.YtpfmbblnhjpclaaGreatDoor
namespace Rows

/-- THE TIED CARD OF 'archivumtop.TopOnlyOpens'. -/
def topOnlyOpensCard : Claim7 := { stood := { row := topOnlyOpensRow, standIns := [], harness := (true, "53a9f526dfcf8274c711f8a438f75d02e7fa1651d3aea274aec3248ac68bffff"), looks := false }, kinds := [], alts := [], laidByText := true, laidKinds := [.data, .data, .data], laidTests := true, laidLooks := .later }
def TopOnlyOpensCardSaid : Prop := Claim7.holds Tryz.pinned (.plain (OpenSpec.ofChange topOnlyOpensSpec)) topOnlyOpensCard

/-- THE SECOND FORM's CARD OF 'archivumtop.TopOnlyOpens'. -/
def topOnlyOpensUptoCard : Claim7 := { stood := { row := topOnlyOpensUptoRow, standIns := [], harness := (true, "53a9f526dfcf8274c711f8a438f75d02e7fa1651d3aea274aec3248ac68bffff"), looks := false }, kinds := [], alts := [], laidByText := true, laidKinds := [.data, .data, .data], laidTests := true, laidLooks := .later }
def TopOnlyOpensUptoCardSaid : Prop := Claim7.holds Tryz.pinned (.plain (OpenSpec.upto topOnlyOpensSpec)) topOnlyOpensUptoCard
end Rows
end Go.Proofs.YtpfmbblnhjpclaaGreatDoor
