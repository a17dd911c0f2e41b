/-
  DERIVED. GIVEN WITH THE SEED: THE CARDS: each row of YtioekoecinogjaaDoorRows.lean that lists a variable, with what it lists TIED to the program's text (the seventh form; the later family's looks); each row that meets fmt, with fmt's text TOLD by the authors' own Lean function (tested against real Go, not proved from fmt's source: count such statements apart). THE CARD IS WHAT COUNTS. Prove the row's statement (the work); the ties are given (YtioekoecinogjaaDoorTie.lean); close each card by the builder's one call (the guide's Derived/Test/ToyasCard.lean, 'card_holds'). Laid BY PROGRAM, IN A SANDBOX (cutbox-door.mjs). By AI agents, Wed Nov 11 2026. No macro, syntax, notation, axiom, sorry.
-/
import Derived.Test.YtioekoecinogjaaDoorRows
import GoSem.ClaimSeven
namespace Go.Proofs.YtioekoecinogjaaDoor
namespace Rows

/-- THE TIED CARD OF 'archivumlaw03.DatingTexts'. -/
def datingTextsCard : Claim7 := { stood := { row := datingTextsRow, standIns := [], harness := (true, "36fb0563a889b599f2d1efecf4314114eb3022a00b7755c34f50cee554ad8f10"), looks := false }, kinds := [], alts := [], laidByText := true, laidKinds := [.data, .data, .data], laidTests := true, laidLooks := .later }
def DatingTextsCardSaid : Prop := Claim7.holds Tryd.pinned (.plain (OpenSpec.ofChange datingTextsSpec)) datingTextsCard

/-- THE TIED CARD OF 'archivumlaw03.DatingBack'. -/
def datingBackCard : Claim7 := { stood := { row := datingBackRow, standIns := [], harness := (true, "36fb0563a889b599f2d1efecf4314114eb3022a00b7755c34f50cee554ad8f10"), looks := false }, kinds := [], alts := [], laidByText := true, laidKinds := [.data, .data, .data], laidTests := true, laidLooks := .later }
def DatingBackCardSaid : Prop := Claim7.holds Tryd.pinned (.plain (OpenSpec.ofChange datingBackSpec)) datingBackCard

/-- THE TIED CARD OF 'archivumlaw03.DatingRelates'. -/
def datingRelatesCard : Claim7 := { stood := { row := datingRelatesRow, standIns := [], harness := (true, "36fb0563a889b599f2d1efecf4314114eb3022a00b7755c34f50cee554ad8f10"), looks := false }, kinds := [], alts := [], laidByText := true, laidKinds := [.data, .data, .data], laidTests := true, laidLooks := .later }
def DatingRelatesCardSaid : Prop := Claim7.holds Tryd.pinned (.plain (OpenSpec.ofChange datingRelatesSpec)) datingRelatesCard

/-- THE TIED CARD OF 'archivumlaw03.DatingSound'. -/
def datingSoundCard : Claim7 := { stood := { row := datingSoundRow, standIns := [], harness := (true, "36fb0563a889b599f2d1efecf4314114eb3022a00b7755c34f50cee554ad8f10"), looks := false }, kinds := [], alts := [], laidByText := true, laidKinds := [.data, .data, .data], laidTests := true, laidLooks := .later }
def DatingSoundCardSaid : Prop := Claim7.holds Tryd.pinned (.plain (OpenSpec.ofChange datingSoundSpec)) datingSoundCard

/-- THE TIED CARD OF 'archivumlaw03.DatingNarrows'. -/
def datingNarrowsCard : Claim7 := { stood := { row := datingNarrowsRow, standIns := [], harness := (true, "36fb0563a889b599f2d1efecf4314114eb3022a00b7755c34f50cee554ad8f10"), looks := false }, kinds := [], alts := [], laidByText := true, laidKinds := [.data, .data, .data], laidTests := true, laidLooks := .later }
def DatingNarrowsCardSaid : Prop := Claim7.holds Tryd.pinned (.plain (OpenSpec.ofChange datingNarrowsSpec)) datingNarrowsCard

/-- THE TIED CARD OF 'archivumlaw03.DatingHulls'. -/
def datingHullsCard : Claim7 := { stood := { row := datingHullsRow, standIns := [], harness := (true, "36fb0563a889b599f2d1efecf4314114eb3022a00b7755c34f50cee554ad8f10"), looks := false }, kinds := [], alts := [], laidByText := true, laidKinds := [.data, .data, .data], laidTests := true, laidLooks := .later }
def DatingHullsCardSaid : Prop := Claim7.holds Tryd.pinned (.plain (OpenSpec.ofChange datingHullsSpec)) datingHullsCard

/-- THE TIED CARD OF 'archivumlaw03.DatingYears'. -/
def datingYearsCard : Claim7 := { stood := { row := datingYearsRow, standIns := [], harness := (true, "36fb0563a889b599f2d1efecf4314114eb3022a00b7755c34f50cee554ad8f10"), looks := false }, kinds := [], alts := [], laidByText := true, laidKinds := [.data, .data, .data], laidTests := true, laidLooks := .later }
def DatingYearsCardSaid : Prop := Claim7.holds Tryd.pinned (.plain (OpenSpec.ofChange datingYearsSpec)) datingYearsCard

/-- THE TIED CARD OF 'archivumlaw03.DatingJoins'. -/
def datingJoinsCard : Claim7 := { stood := { row := datingJoinsRow, standIns := [], harness := (true, "36fb0563a889b599f2d1efecf4314114eb3022a00b7755c34f50cee554ad8f10"), looks := false }, kinds := [], alts := [], laidByText := true, laidKinds := [.data, .data, .data], laidTests := true, laidLooks := .later }
def DatingJoinsCardSaid : Prop := Claim7.holds Tryd.pinned (.plain (OpenSpec.ofChange datingJoinsSpec)) datingJoinsCard

/-- THE SECOND FORM's CARD OF 'archivumlaw03.DatingTexts'. -/
def datingTextsUptoCard : Claim7 := { stood := { row := datingTextsUptoRow, standIns := [], harness := (true, "36fb0563a889b599f2d1efecf4314114eb3022a00b7755c34f50cee554ad8f10"), looks := false }, kinds := [], alts := [], laidByText := true, laidKinds := [.data, .data, .data], laidTests := true, laidLooks := .later }
def DatingTextsUptoCardSaid : Prop := Claim7.holds Tryd.pinned (.plain (OpenSpec.upto datingTextsSpec)) datingTextsUptoCard

/-- THE SECOND FORM's CARD OF 'archivumlaw03.DatingBack'. -/
def datingBackUptoCard : Claim7 := { stood := { row := datingBackUptoRow, standIns := [], harness := (true, "36fb0563a889b599f2d1efecf4314114eb3022a00b7755c34f50cee554ad8f10"), looks := false }, kinds := [], alts := [], laidByText := true, laidKinds := [.data, .data, .data], laidTests := true, laidLooks := .later }
def DatingBackUptoCardSaid : Prop := Claim7.holds Tryd.pinned (.plain (OpenSpec.upto datingBackSpec)) datingBackUptoCard

/-- THE SECOND FORM's CARD OF 'archivumlaw03.DatingRelates'. -/
def datingRelatesUptoCard : Claim7 := { stood := { row := datingRelatesUptoRow, standIns := [], harness := (true, "36fb0563a889b599f2d1efecf4314114eb3022a00b7755c34f50cee554ad8f10"), looks := false }, kinds := [], alts := [], laidByText := true, laidKinds := [.data, .data, .data], laidTests := true, laidLooks := .later }
def DatingRelatesUptoCardSaid : Prop := Claim7.holds Tryd.pinned (.plain (OpenSpec.upto datingRelatesSpec)) datingRelatesUptoCard

/-- THE SECOND FORM's CARD OF 'archivumlaw03.DatingSound'. -/
def datingSoundUptoCard : Claim7 := { stood := { row := datingSoundUptoRow, standIns := [], harness := (true, "36fb0563a889b599f2d1efecf4314114eb3022a00b7755c34f50cee554ad8f10"), looks := false }, kinds := [], alts := [], laidByText := true, laidKinds := [.data, .data, .data], laidTests := true, laidLooks := .later }
def DatingSoundUptoCardSaid : Prop := Claim7.holds Tryd.pinned (.plain (OpenSpec.upto datingSoundSpec)) datingSoundUptoCard

/-- THE SECOND FORM's CARD OF 'archivumlaw03.DatingNarrows'. -/
def datingNarrowsUptoCard : Claim7 := { stood := { row := datingNarrowsUptoRow, standIns := [], harness := (true, "36fb0563a889b599f2d1efecf4314114eb3022a00b7755c34f50cee554ad8f10"), looks := false }, kinds := [], alts := [], laidByText := true, laidKinds := [.data, .data, .data], laidTests := true, laidLooks := .later }
def DatingNarrowsUptoCardSaid : Prop := Claim7.holds Tryd.pinned (.plain (OpenSpec.upto datingNarrowsSpec)) datingNarrowsUptoCard

/-- THE SECOND FORM's CARD OF 'archivumlaw03.DatingHulls'. -/
def datingHullsUptoCard : Claim7 := { stood := { row := datingHullsUptoRow, standIns := [], harness := (true, "36fb0563a889b599f2d1efecf4314114eb3022a00b7755c34f50cee554ad8f10"), looks := false }, kinds := [], alts := [], laidByText := true, laidKinds := [.data, .data, .data], laidTests := true, laidLooks := .later }
def DatingHullsUptoCardSaid : Prop := Claim7.holds Tryd.pinned (.plain (OpenSpec.upto datingHullsSpec)) datingHullsUptoCard

/-- THE SECOND FORM's CARD OF 'archivumlaw03.DatingYears'. -/
def datingYearsUptoCard : Claim7 := { stood := { row := datingYearsUptoRow, standIns := [], harness := (true, "36fb0563a889b599f2d1efecf4314114eb3022a00b7755c34f50cee554ad8f10"), looks := false }, kinds := [], alts := [], laidByText := true, laidKinds := [.data, .data, .data], laidTests := true, laidLooks := .later }
def DatingYearsUptoCardSaid : Prop := Claim7.holds Tryd.pinned (.plain (OpenSpec.upto datingYearsSpec)) datingYearsUptoCard

/-- THE SECOND FORM's CARD OF 'archivumlaw03.DatingJoins'. -/
def datingJoinsUptoCard : Claim7 := { stood := { row := datingJoinsUptoRow, standIns := [], harness := (true, "36fb0563a889b599f2d1efecf4314114eb3022a00b7755c34f50cee554ad8f10"), looks := false }, kinds := [], alts := [], laidByText := true, laidKinds := [.data, .data, .data], laidTests := true, laidLooks := .later }
def DatingJoinsUptoCardSaid : Prop := Claim7.holds Tryd.pinned (.plain (OpenSpec.upto datingJoinsSpec)) datingJoinsUptoCard
end Rows
end Go.Proofs.YtioekoecinogjaaDoor
