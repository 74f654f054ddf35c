/-
  DERIVED. GIVEN WITH THE SEED: THE CARDS: each row of YtankmgnjkcgpaaaDoorRows.lean that lists a variable, with what it lists TIED to the program's text (the seventh form; the later family's looks); each row that meets fmt, with fmt's text TOLD by the authors' own Lean function (tested against real Go, not proved from fmt's source: count such statements apart). THE CARD IS WHAT COUNTS. Prove the row's statement (the work); the ties are given (YtankmgnjkcgpaaaDoorTie.lean); close each card by the builder's one call (the guide's Derived/Test/ToyasCard.lean, 'card_holds'). Laid BY PROGRAM, IN A SANDBOX (cutbox-door.mjs). By AI agents, Wed Nov 11 2026. No macro, syntax, notation, axiom, sorry.
-/
import Derived.Test.YtankmgnjkcgpaaaDoorRows
import GoSem.ClaimSeven
namespace Go.Proofs.YtankmgnjkcgpaaaDoor
namespace Rows

/-- THE TIED CARD OF 'truchmanlaw19.CellsPlain'. -/
def cellsPlainCard : Claim7 := { stood := { row := cellsPlainRow, standIns := [], harness := (true, "871241c342c4b0cca9a2a826e3080e4457fc40cf57f47027a7914b297464df06"), looks := true }, kinds := [], alts := [], laidByText := true, laidKinds := [.data, .sentinel, .pinned], laidTests := true, laidLooks := .later }
def CellsPlainCardSaid : Prop := Claim7.holds Tryd.pinned (.plain (OpenSpec.ofChange cellsPlainSpec)) cellsPlainCard

/-- THE TIED CARD OF 'truchmanlaw19.CellsParts'. -/
def cellsPartsCard : Claim7 := { stood := { row := cellsPartsRow, standIns := [], harness := (true, "871241c342c4b0cca9a2a826e3080e4457fc40cf57f47027a7914b297464df06"), looks := true }, kinds := [], alts := [], laidByText := true, laidKinds := [.data, .sentinel, .pinned], laidTests := true, laidLooks := .later }
def CellsPartsCardSaid : Prop := Claim7.holds Tryd.pinned (.plain (OpenSpec.ofChange cellsPartsSpec)) cellsPartsCard

/-- THE TIED CARD OF 'truchmanlaw19.CellsActs'. -/
def cellsActsCard : Claim7 := { stood := { row := cellsActsRow, standIns := [], harness := (true, "871241c342c4b0cca9a2a826e3080e4457fc40cf57f47027a7914b297464df06"), looks := true }, kinds := [], alts := [], laidByText := true, laidKinds := [.data, .sentinel, .sentinel, .sentinel, .sentinel, .sentinel, .sentinel, .sentinel, .sentinel, .sentinel, .sentinel, .sentinel, .sentinel, .sentinel, .sentinel, .sentinel, .sentinel, .pinned], laidTests := true, laidLooks := .later }
def CellsActsCardSaid : Prop := Claim7.holds Tryd.pinned (.plain (OpenSpec.ofChange cellsActsSpec)) cellsActsCard

/-- THE TIED CARD OF 'truchmanlaw36.RawBack'. -/
def rawBackCard : Claim7 := { stood := { row := rawBackRow, standIns := [], harness := (true, "871241c342c4b0cca9a2a826e3080e4457fc40cf57f47027a7914b297464df06"), looks := true }, kinds := [], alts := [], laidByText := true, laidKinds := [.data, .data, .data, .data, .sentinel, .sentinel, .sentinel, .pinned], laidTests := true, laidLooks := .later }
def RawBackCardSaid : Prop := Claim7.holds Tryd.pinned (.plain (OpenSpec.ofChange rawBackSpec)) rawBackCard

/-- THE TIED CARD OF 'truchmanlaw36.RawEvents'. -/
def rawEventsCard : Claim7 := { stood := { row := rawEventsRow, standIns := [], harness := (true, "871241c342c4b0cca9a2a826e3080e4457fc40cf57f47027a7914b297464df06"), looks := true }, kinds := [], alts := [], laidByText := true, laidKinds := [.data, .data, .data, .data, .sentinel, .sentinel, .sentinel, .pinned], laidTests := true, laidLooks := .later }
def RawEventsCardSaid : Prop := Claim7.holds Tryd.pinned (.plain (OpenSpec.ofChange rawEventsSpec)) rawEventsCard

/-- THE TIED CARD OF 'truchmanlaw36.RawParses'. -/
def rawParsesCard : Claim7 := { stood := { row := rawParsesRow, standIns := [], harness := (true, "871241c342c4b0cca9a2a826e3080e4457fc40cf57f47027a7914b297464df06"), looks := true }, kinds := [], alts := [], laidByText := true, laidKinds := [.data, .data, .data, .data, .sentinel, .sentinel, .sentinel, .sentinel, .sentinel, .sentinel, .sentinel, .sentinel, .sentinel, .sentinel, .sentinel, .sentinel, .sentinel, .sentinel, .sentinel, .sentinel, .sentinel, .sentinel, .pinned], laidTests := true, laidLooks := .later }
def RawParsesCardSaid : Prop := Claim7.holds Tryd.pinned (.plain (OpenSpec.ofChange rawParsesSpec)) rawParsesCard

/-- THE TIED CARD OF 'truchmanlaw36.RawJoins'. -/
def rawJoinsCard : Claim7 := { stood := { row := rawJoinsRow, standIns := [], harness := (true, "871241c342c4b0cca9a2a826e3080e4457fc40cf57f47027a7914b297464df06"), looks := true }, kinds := [], alts := [], laidByText := true, laidKinds := [.data, .data, .data, .data, .sentinel, .sentinel, .sentinel, .sentinel, .sentinel, .sentinel, .sentinel, .sentinel, .sentinel, .sentinel, .sentinel, .sentinel, .sentinel, .sentinel, .sentinel, .sentinel, .sentinel, .sentinel, .pinned], laidTests := true, laidLooks := .later }
def RawJoinsCardSaid : Prop := Claim7.holds Tryd.pinned (.plain (OpenSpec.ofChange rawJoinsSpec)) rawJoinsCard

/-- THE SECOND FORM's CARD OF 'truchmanlaw19.CellsPlain'. -/
def cellsPlainUptoCard : Claim7 := { stood := { row := cellsPlainUptoRow, standIns := [], harness := (true, "871241c342c4b0cca9a2a826e3080e4457fc40cf57f47027a7914b297464df06"), looks := true }, kinds := [], alts := [], laidByText := true, laidKinds := [.data, .sentinel, .pinned], laidTests := true, laidLooks := .later }
def CellsPlainUptoCardSaid : Prop := Claim7.holds Tryd.pinned (.plain (OpenSpec.upto cellsPlainSpec)) cellsPlainUptoCard

/-- THE SECOND FORM's CARD OF 'truchmanlaw19.CellsParts'. -/
def cellsPartsUptoCard : Claim7 := { stood := { row := cellsPartsUptoRow, standIns := [], harness := (true, "871241c342c4b0cca9a2a826e3080e4457fc40cf57f47027a7914b297464df06"), looks := true }, kinds := [], alts := [], laidByText := true, laidKinds := [.data, .sentinel, .pinned], laidTests := true, laidLooks := .later }
def CellsPartsUptoCardSaid : Prop := Claim7.holds Tryd.pinned (.plain (OpenSpec.upto cellsPartsSpec)) cellsPartsUptoCard

/-- THE SECOND FORM's CARD OF 'truchmanlaw19.CellsActs'. -/
def cellsActsUptoCard : Claim7 := { stood := { row := cellsActsUptoRow, standIns := [], harness := (true, "871241c342c4b0cca9a2a826e3080e4457fc40cf57f47027a7914b297464df06"), looks := true }, kinds := [], alts := [], laidByText := true, laidKinds := [.data, .sentinel, .sentinel, .sentinel, .sentinel, .sentinel, .sentinel, .sentinel, .sentinel, .sentinel, .sentinel, .sentinel, .sentinel, .sentinel, .sentinel, .sentinel, .sentinel, .pinned], laidTests := true, laidLooks := .later }
def CellsActsUptoCardSaid : Prop := Claim7.holds Tryd.pinned (.plain (OpenSpec.upto cellsActsSpec)) cellsActsUptoCard

/-- THE SECOND FORM's CARD OF 'truchmanlaw36.RawBack'. -/
def rawBackUptoCard : Claim7 := { stood := { row := rawBackUptoRow, standIns := [], harness := (true, "871241c342c4b0cca9a2a826e3080e4457fc40cf57f47027a7914b297464df06"), looks := true }, kinds := [], alts := [], laidByText := true, laidKinds := [.data, .data, .data, .data, .sentinel, .sentinel, .sentinel, .pinned], laidTests := true, laidLooks := .later }
def RawBackUptoCardSaid : Prop := Claim7.holds Tryd.pinned (.plain (OpenSpec.upto rawBackSpec)) rawBackUptoCard

/-- THE SECOND FORM's CARD OF 'truchmanlaw36.RawEvents'. -/
def rawEventsUptoCard : Claim7 := { stood := { row := rawEventsUptoRow, standIns := [], harness := (true, "871241c342c4b0cca9a2a826e3080e4457fc40cf57f47027a7914b297464df06"), looks := true }, kinds := [], alts := [], laidByText := true, laidKinds := [.data, .data, .data, .data, .sentinel, .sentinel, .sentinel, .pinned], laidTests := true, laidLooks := .later }
def RawEventsUptoCardSaid : Prop := Claim7.holds Tryd.pinned (.plain (OpenSpec.upto rawEventsSpec)) rawEventsUptoCard

/-- THE SECOND FORM's CARD OF 'truchmanlaw36.RawParses'. -/
def rawParsesUptoCard : Claim7 := { stood := { row := rawParsesUptoRow, standIns := [], harness := (true, "871241c342c4b0cca9a2a826e3080e4457fc40cf57f47027a7914b297464df06"), looks := true }, kinds := [], alts := [], laidByText := true, laidKinds := [.data, .data, .data, .data, .sentinel, .sentinel, .sentinel, .sentinel, .sentinel, .sentinel, .sentinel, .sentinel, .sentinel, .sentinel, .sentinel, .sentinel, .sentinel, .sentinel, .sentinel, .sentinel, .sentinel, .sentinel, .pinned], laidTests := true, laidLooks := .later }
def RawParsesUptoCardSaid : Prop := Claim7.holds Tryd.pinned (.plain (OpenSpec.upto rawParsesSpec)) rawParsesUptoCard

/-- THE SECOND FORM's CARD OF 'truchmanlaw36.RawJoins'. -/
def rawJoinsUptoCard : Claim7 := { stood := { row := rawJoinsUptoRow, standIns := [], harness := (true, "871241c342c4b0cca9a2a826e3080e4457fc40cf57f47027a7914b297464df06"), looks := true }, kinds := [], alts := [], laidByText := true, laidKinds := [.data, .data, .data, .data, .sentinel, .sentinel, .sentinel, .sentinel, .sentinel, .sentinel, .sentinel, .sentinel, .sentinel, .sentinel, .sentinel, .sentinel, .sentinel, .sentinel, .sentinel, .sentinel, .sentinel, .sentinel, .pinned], laidTests := true, laidLooks := .later }
def RawJoinsUptoCardSaid : Prop := Claim7.holds Tryd.pinned (.plain (OpenSpec.upto rawJoinsSpec)) rawJoinsUptoCard
end Rows
end Go.Proofs.YtankmgnjkcgpaaaDoor
