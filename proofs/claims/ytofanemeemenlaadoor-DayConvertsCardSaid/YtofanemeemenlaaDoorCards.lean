/-
  DERIVED. GIVEN WITH THE SEED: THE CARDS: each row of YtofanemeemenlaaDoorRows.lean that lists a variable, with what it lists TIED to the program's text (the seventh form; the later family's looks); each row that meets fmt, with fmt's text TOLD by the authors' own Lean function (tested against real Go, not proved from fmt's source: count such statements apart). THE CARD IS WHAT COUNTS. Prove the row's statement (the work); the ties are given (YtofanemeemenlaaDoorTie.lean); close each card by the builder's one call (the guide's Derived/Test/ToyasCard.lean, 'card_holds'). Laid BY PROGRAM, IN A SANDBOX (cutbox-door.mjs). By AI agents, Wed Nov 11 2026. No macro, syntax, notation, axiom, sorry.
-/
import Derived.Test.YtofanemeemenlaaDoorRows
import GoSem.ClaimSeven
namespace Go.Proofs.YtofanemeemenlaaDoor
namespace Rows

/-- THE TIED CARD OF 'archivumlaw02.DayConverts'. -/
def dayConvertsCard : Claim7 := { stood := { row := dayConvertsRow, standIns := [], harness := (true, "8130ce27e1338f24b475b132a94cd72ecefaa570fef97fa557f6c415cabbcc15"), looks := false }, kinds := [], alts := [], laidByText := true, laidKinds := [.data, .data, .data], laidTests := true, laidLooks := .later }
def DayConvertsCardSaid : Prop := Claim7.holds Tryd.pinned (.plain (OpenSpec.ofChange dayConvertsSpec)) dayConvertsCard

/-- THE TIED CARD OF 'archivumlaw02.DayNext'. -/
def dayNextCard : Claim7 := { stood := { row := dayNextRow, standIns := [], harness := (true, "8130ce27e1338f24b475b132a94cd72ecefaa570fef97fa557f6c415cabbcc15"), looks := false }, kinds := [], alts := [], laidByText := true, laidKinds := [.data, .data, .data], laidTests := true, laidLooks := .later }
def DayNextCardSaid : Prop := Claim7.holds Tryd.pinned (.plain (OpenSpec.ofChange dayNextSpec)) dayNextCard

/-- THE TIED CARD OF 'archivumlaw02.DayCycle'. -/
def dayCycleCard : Claim7 := { stood := { row := dayCycleRow, standIns := [], harness := (true, "8130ce27e1338f24b475b132a94cd72ecefaa570fef97fa557f6c415cabbcc15"), looks := false }, kinds := [], alts := [], laidByText := true, laidKinds := [.data, .data, .data], laidTests := true, laidLooks := .later }
def DayCycleCardSaid : Prop := Claim7.holds Tryd.pinned (.plain (OpenSpec.ofChange dayCycleSpec)) dayCycleCard

/-- THE TIED CARD OF 'archivumlaw02.DayLater'. -/
def dayLaterCard : Claim7 := { stood := { row := dayLaterRow, standIns := [], harness := (true, "8130ce27e1338f24b475b132a94cd72ecefaa570fef97fa557f6c415cabbcc15"), looks := false }, kinds := [], alts := [], laidByText := true, laidKinds := [.data, .data, .data], laidTests := true, laidLooks := .later }
def DayLaterCardSaid : Prop := Claim7.holds Tryd.pinned (.plain (OpenSpec.ofChange dayLaterSpec)) dayLaterCard

/-- THE TIED CARD OF 'archivumlaw02.DayKeeps'. -/
def dayKeepsCard : Claim7 := { stood := { row := dayKeepsRow, standIns := [], harness := (true, "8130ce27e1338f24b475b132a94cd72ecefaa570fef97fa557f6c415cabbcc15"), looks := false }, kinds := [], alts := [], laidByText := true, laidKinds := [.data, .data, .data], laidTests := true, laidLooks := .later }
def DayKeepsCardSaid : Prop := Claim7.holds Tryd.pinned (.plain (OpenSpec.ofChange dayKeepsSpec)) dayKeepsCard

/-- THE TIED CARD OF 'archivumlaw02.DayTexts'. -/
def dayTextsCard : Claim7 := { stood := { row := dayTextsRow, standIns := [], harness := (true, "8130ce27e1338f24b475b132a94cd72ecefaa570fef97fa557f6c415cabbcc15"), looks := false }, kinds := [], alts := [], laidByText := true, laidKinds := [.data, .data, .data], laidTests := true, laidLooks := .later }
def DayTextsCardSaid : Prop := Claim7.holds Tryd.pinned (.plain (OpenSpec.ofChange dayTextsSpec)) dayTextsCard

/-- THE TIED CARD OF 'archivumlaw02.DayBack'. -/
def dayBackCard : Claim7 := { stood := { row := dayBackRow, standIns := [], harness := (true, "8130ce27e1338f24b475b132a94cd72ecefaa570fef97fa557f6c415cabbcc15"), looks := false }, kinds := [], alts := [], laidByText := true, laidKinds := [.data, .data, .data], laidTests := true, laidLooks := .later }
def DayBackCardSaid : Prop := Claim7.holds Tryd.pinned (.plain (OpenSpec.ofChange dayBackSpec)) dayBackCard

/-- THE SECOND FORM's CARD OF 'archivumlaw02.DayConverts'. -/
def dayConvertsUptoCard : Claim7 := { stood := { row := dayConvertsUptoRow, standIns := [], harness := (true, "8130ce27e1338f24b475b132a94cd72ecefaa570fef97fa557f6c415cabbcc15"), looks := false }, kinds := [], alts := [], laidByText := true, laidKinds := [.data, .data, .data], laidTests := true, laidLooks := .later }
def DayConvertsUptoCardSaid : Prop := Claim7.holds Tryd.pinned (.plain (OpenSpec.upto dayConvertsSpec)) dayConvertsUptoCard

/-- THE SECOND FORM's CARD OF 'archivumlaw02.DayNext'. -/
def dayNextUptoCard : Claim7 := { stood := { row := dayNextUptoRow, standIns := [], harness := (true, "8130ce27e1338f24b475b132a94cd72ecefaa570fef97fa557f6c415cabbcc15"), looks := false }, kinds := [], alts := [], laidByText := true, laidKinds := [.data, .data, .data], laidTests := true, laidLooks := .later }
def DayNextUptoCardSaid : Prop := Claim7.holds Tryd.pinned (.plain (OpenSpec.upto dayNextSpec)) dayNextUptoCard

/-- THE SECOND FORM's CARD OF 'archivumlaw02.DayCycle'. -/
def dayCycleUptoCard : Claim7 := { stood := { row := dayCycleUptoRow, standIns := [], harness := (true, "8130ce27e1338f24b475b132a94cd72ecefaa570fef97fa557f6c415cabbcc15"), looks := false }, kinds := [], alts := [], laidByText := true, laidKinds := [.data, .data, .data], laidTests := true, laidLooks := .later }
def DayCycleUptoCardSaid : Prop := Claim7.holds Tryd.pinned (.plain (OpenSpec.upto dayCycleSpec)) dayCycleUptoCard

/-- THE SECOND FORM's CARD OF 'archivumlaw02.DayLater'. -/
def dayLaterUptoCard : Claim7 := { stood := { row := dayLaterUptoRow, standIns := [], harness := (true, "8130ce27e1338f24b475b132a94cd72ecefaa570fef97fa557f6c415cabbcc15"), looks := false }, kinds := [], alts := [], laidByText := true, laidKinds := [.data, .data, .data], laidTests := true, laidLooks := .later }
def DayLaterUptoCardSaid : Prop := Claim7.holds Tryd.pinned (.plain (OpenSpec.upto dayLaterSpec)) dayLaterUptoCard

/-- THE SECOND FORM's CARD OF 'archivumlaw02.DayKeeps'. -/
def dayKeepsUptoCard : Claim7 := { stood := { row := dayKeepsUptoRow, standIns := [], harness := (true, "8130ce27e1338f24b475b132a94cd72ecefaa570fef97fa557f6c415cabbcc15"), looks := false }, kinds := [], alts := [], laidByText := true, laidKinds := [.data, .data, .data], laidTests := true, laidLooks := .later }
def DayKeepsUptoCardSaid : Prop := Claim7.holds Tryd.pinned (.plain (OpenSpec.upto dayKeepsSpec)) dayKeepsUptoCard

/-- THE SECOND FORM's CARD OF 'archivumlaw02.DayTexts'. -/
def dayTextsUptoCard : Claim7 := { stood := { row := dayTextsUptoRow, standIns := [], harness := (true, "8130ce27e1338f24b475b132a94cd72ecefaa570fef97fa557f6c415cabbcc15"), looks := false }, kinds := [], alts := [], laidByText := true, laidKinds := [.data, .data, .data], laidTests := true, laidLooks := .later }
def DayTextsUptoCardSaid : Prop := Claim7.holds Tryd.pinned (.plain (OpenSpec.upto dayTextsSpec)) dayTextsUptoCard

/-- THE SECOND FORM's CARD OF 'archivumlaw02.DayBack'. -/
def dayBackUptoCard : Claim7 := { stood := { row := dayBackUptoRow, standIns := [], harness := (true, "8130ce27e1338f24b475b132a94cd72ecefaa570fef97fa557f6c415cabbcc15"), looks := false }, kinds := [], alts := [], laidByText := true, laidKinds := [.data, .data, .data], laidTests := true, laidLooks := .later }
def DayBackUptoCardSaid : Prop := Claim7.holds Tryd.pinned (.plain (OpenSpec.upto dayBackSpec)) dayBackUptoCard
end Rows
end Go.Proofs.YtofanemeemenlaaDoor
