/-
  DERIVED. GIVEN WITH THE SEED: THE CARDS: each row of YtealbjkhjpmilaaDoorRows.lean that lists a variable, with what it lists TIED to the program's text (the seventh form; the later family's looks); each row that meets fmt, with fmt's text TOLD by the authors' own Lean function (tested against real Go, not proved from fmt's source: count such statements apart). THE CARD IS WHAT COUNTS. Prove the row's statement (the work); the ties are given (YtealbjkhjpmilaaDoorTie.lean); close each card by the builder's one call (the guide's Derived/Test/ToyasCard.lean, 'card_holds'). Laid BY PROGRAM, IN A SANDBOX (cutbox-door.mjs). By AI agents, Wed Nov 11 2026. No macro, syntax, notation, axiom, sorry.
-/
import Derived.Test.YtealbjkhjpmilaaDoorRows
import GoSem.ClaimSeven
namespace Go.Proofs.YtealbjkhjpmilaaDoor
namespace Rows

/-- THE TIED CARD OF 'truchmanlaw15.ModeRests'. -/
def modeRestsCard : Claim7 := { stood := { row := modeRestsRow, standIns := [], harness := (true, "65ce830c75c2fc44eeffd9e313a88e3c3ce420dda8c0e4b9eff87a7b2b38df46"), looks := true }, kinds := [], alts := [], laidByText := true, laidKinds := [.sentinel, .sentinel, .sentinel, .sentinel, .sentinel, .sentinel], laidTests := true, laidLooks := .later }
def ModeRestsCardSaid : Prop := Claim7.holds Tryd.pinned (.plain (OpenSpec.ofChange modeRestsSpec)) modeRestsCard

/-- THE TIED CARD OF 'truchmanlaw16.MaskRows'. -/
def maskRowsCard : Claim7 := { stood := { row := maskRowsRow, standIns := [], harness := (true, "65ce830c75c2fc44eeffd9e313a88e3c3ce420dda8c0e4b9eff87a7b2b38df46"), looks := true }, kinds := [], alts := [], laidByText := true, laidKinds := [.data, .pinned], laidTests := true, laidLooks := .later }
def MaskRowsCardSaid : Prop := Claim7.holds Tryd.pinned (.plain (OpenSpec.ofChange maskRowsSpec)) maskRowsCard

/-- THE TIED CARD OF 'truchmanlaw15.ModeBodies'. -/
def modeBodiesCard : Claim7 := { stood := { row := modeBodiesRow, standIns := [], harness := (true, "65ce830c75c2fc44eeffd9e313a88e3c3ce420dda8c0e4b9eff87a7b2b38df46"), looks := true }, kinds := [], alts := [], laidByText := true, laidKinds := [.sentinel, .sentinel, .sentinel, .sentinel, .sentinel, .sentinel, .sentinel, .sentinel, .sentinel, .sentinel, .sentinel, .sentinel, .sentinel, .sentinel, .sentinel, .sentinel], laidTests := true, laidLooks := .later }
def ModeBodiesCardSaid : Prop := Claim7.holds Tryd.pinned (.plain (OpenSpec.ofChange modeBodiesSpec)) modeBodiesCard

/-- THE TIED CARD OF 'truchmanlaw15.ModeActs'. -/
def modeActsCard : Claim7 := { stood := { row := modeActsRow, standIns := [], harness := (true, "65ce830c75c2fc44eeffd9e313a88e3c3ce420dda8c0e4b9eff87a7b2b38df46"), looks := true }, kinds := [], alts := [], laidByText := true, laidKinds := [.sentinel, .sentinel, .sentinel, .sentinel, .sentinel, .sentinel, .sentinel, .sentinel, .sentinel, .sentinel, .sentinel, .sentinel, .sentinel, .sentinel, .sentinel, .sentinel], laidTests := true, laidLooks := .later }
def ModeActsCardSaid : Prop := Claim7.holds Tryd.pinned (.plain (OpenSpec.ofChange modeActsSpec)) modeActsCard

/-- THE TIED CARD OF 'truchmanlaw16.MaskBack'. -/
def maskBackCard : Claim7 := { stood := { row := maskBackRow, standIns := [], harness := (true, "65ce830c75c2fc44eeffd9e313a88e3c3ce420dda8c0e4b9eff87a7b2b38df46"), looks := true }, kinds := [], alts := [], laidByText := true, laidKinds := [.data, .sentinel, .sentinel, .sentinel, .pinned], laidTests := true, laidLooks := .later }
def MaskBackCardSaid : Prop := Claim7.holds Tryd.pinned (.plain (OpenSpec.ofChange maskBackSpec)) maskBackCard

/-- THE TIED CARD OF 'truchmanlaw16.MaskBodies'. -/
def maskBodiesCard : Claim7 := { stood := { row := maskBodiesRow, standIns := [], harness := (true, "65ce830c75c2fc44eeffd9e313a88e3c3ce420dda8c0e4b9eff87a7b2b38df46"), looks := true }, kinds := [], alts := [], laidByText := true, laidKinds := [.data, .sentinel, .sentinel, .sentinel, .sentinel, .sentinel, .sentinel, .sentinel, .sentinel, .sentinel, .sentinel, .sentinel, .sentinel, .sentinel, .sentinel, .sentinel, .sentinel, .pinned], laidTests := true, laidLooks := .later }
def MaskBodiesCardSaid : Prop := Claim7.holds Tryd.pinned (.plain (OpenSpec.ofChange maskBodiesSpec)) maskBodiesCard

/-- THE TIED CARD OF 'truchmanlaw04.CodesTell'. -/
def codesTellCard : Claim7 := { stood := { row := codesTellRow, standIns := [], harness := (true, "65ce830c75c2fc44eeffd9e313a88e3c3ce420dda8c0e4b9eff87a7b2b38df46"), looks := true }, kinds := [], alts := [], laidByText := true, laidKinds := [.data, .data, .data, .widerDeep], laidTests := true, laidLooks := .later }
def CodesTellCardSaid : Prop := Claim7.holds Tryd.pinned (.plain (OpenSpec.ofChange codesTellSpec)) codesTellCard

/-- THE TIED CARD OF 'truchmanlaw17.StatusBodies'. -/
def statusBodiesCard : Claim7 := { stood := { row := statusBodiesRow, standIns := [], harness := (true, "65ce830c75c2fc44eeffd9e313a88e3c3ce420dda8c0e4b9eff87a7b2b38df46"), looks := true }, kinds := [], alts := [], laidByText := true, laidKinds := [.data, .data, .data, .sentinel, .sentinel, .sentinel, .sentinel, .sentinel, .sentinel, .sentinel, .sentinel, .sentinel, .sentinel, .sentinel, .sentinel, .sentinel, .sentinel, .sentinel, .sentinel, .widerDeep], laidTests := true, laidLooks := .later }
def StatusBodiesCardSaid : Prop := Claim7.holds Tryd.pinned (.plain (OpenSpec.ofChange statusBodiesSpec)) statusBodiesCard

/-- THE TIED CARD OF 'truchmanlaw17.StatusTables'. -/
def statusTablesCard : Claim7 := { stood := { row := statusTablesRow, standIns := [], harness := (true, "65ce830c75c2fc44eeffd9e313a88e3c3ce420dda8c0e4b9eff87a7b2b38df46"), looks := true }, kinds := [], alts := [], laidByText := true, laidKinds := [.data, .data, .data, .sentinel, .sentinel, .sentinel, .sentinel, .sentinel, .sentinel, .sentinel, .sentinel, .sentinel, .sentinel, .sentinel, .sentinel, .sentinel, .sentinel, .sentinel, .sentinel, .widerDeep], laidTests := true, laidLooks := .later }
def StatusTablesCardSaid : Prop := Claim7.holds Tryd.pinned (.plain (OpenSpec.ofChange statusTablesSpec)) statusTablesCard

/-- THE TIED CARD OF 'truchmanlaw04.CodesNames'. -/
def codesNamesCard : Claim7 := { stood := { row := codesNamesRow, standIns := [], harness := (true, "65ce830c75c2fc44eeffd9e313a88e3c3ce420dda8c0e4b9eff87a7b2b38df46"), looks := true }, kinds := [], alts := [], laidByText := true, laidKinds := [.data, .data, .data, .sentinel, .sentinel], laidTests := true, laidLooks := .later }
def CodesNamesCardSaid : Prop := Claim7.holds Tryd.pinned (.plain (OpenSpec.ofChange codesNamesSpec)) codesNamesCard

/-- THE TIED CARD OF 'truchmanlaw04.CodesOwn'. -/
def codesOwnCard : Claim7 := { stood := { row := codesOwnRow, standIns := [], harness := (true, "65ce830c75c2fc44eeffd9e313a88e3c3ce420dda8c0e4b9eff87a7b2b38df46"), looks := true }, kinds := [], alts := [], laidByText := true, laidKinds := [.data, .data, .data, .sentinel, .sentinel, .widerDeep], laidTests := true, laidLooks := .later }
def CodesOwnCardSaid : Prop := Claim7.holds Tryd.pinned (.plain (OpenSpec.ofChange codesOwnSpec)) codesOwnCard

/-- THE SECOND FORM's CARD OF 'truchmanlaw15.ModeRests'. -/
def modeRestsUptoCard : Claim7 := { stood := { row := modeRestsUptoRow, standIns := [], harness := (true, "65ce830c75c2fc44eeffd9e313a88e3c3ce420dda8c0e4b9eff87a7b2b38df46"), looks := true }, kinds := [], alts := [], laidByText := true, laidKinds := [.sentinel, .sentinel, .sentinel, .sentinel, .sentinel, .sentinel], laidTests := true, laidLooks := .later }
def ModeRestsUptoCardSaid : Prop := Claim7.holds Tryd.pinned (.plain (OpenSpec.upto modeRestsSpec)) modeRestsUptoCard

/-- THE SECOND FORM's CARD OF 'truchmanlaw16.MaskRows'. -/
def maskRowsUptoCard : Claim7 := { stood := { row := maskRowsUptoRow, standIns := [], harness := (true, "65ce830c75c2fc44eeffd9e313a88e3c3ce420dda8c0e4b9eff87a7b2b38df46"), looks := true }, kinds := [], alts := [], laidByText := true, laidKinds := [.data, .pinned], laidTests := true, laidLooks := .later }
def MaskRowsUptoCardSaid : Prop := Claim7.holds Tryd.pinned (.plain (OpenSpec.upto maskRowsSpec)) maskRowsUptoCard

/-- THE SECOND FORM's CARD OF 'truchmanlaw15.ModeBodies'. -/
def modeBodiesUptoCard : Claim7 := { stood := { row := modeBodiesUptoRow, standIns := [], harness := (true, "65ce830c75c2fc44eeffd9e313a88e3c3ce420dda8c0e4b9eff87a7b2b38df46"), looks := true }, kinds := [], alts := [], laidByText := true, laidKinds := [.sentinel, .sentinel, .sentinel, .sentinel, .sentinel, .sentinel, .sentinel, .sentinel, .sentinel, .sentinel, .sentinel, .sentinel, .sentinel, .sentinel, .sentinel, .sentinel], laidTests := true, laidLooks := .later }
def ModeBodiesUptoCardSaid : Prop := Claim7.holds Tryd.pinned (.plain (OpenSpec.upto modeBodiesSpec)) modeBodiesUptoCard

/-- THE SECOND FORM's CARD OF 'truchmanlaw15.ModeActs'. -/
def modeActsUptoCard : Claim7 := { stood := { row := modeActsUptoRow, standIns := [], harness := (true, "65ce830c75c2fc44eeffd9e313a88e3c3ce420dda8c0e4b9eff87a7b2b38df46"), looks := true }, kinds := [], alts := [], laidByText := true, laidKinds := [.sentinel, .sentinel, .sentinel, .sentinel, .sentinel, .sentinel, .sentinel, .sentinel, .sentinel, .sentinel, .sentinel, .sentinel, .sentinel, .sentinel, .sentinel, .sentinel], laidTests := true, laidLooks := .later }
def ModeActsUptoCardSaid : Prop := Claim7.holds Tryd.pinned (.plain (OpenSpec.upto modeActsSpec)) modeActsUptoCard

/-- THE SECOND FORM's CARD OF 'truchmanlaw16.MaskBack'. -/
def maskBackUptoCard : Claim7 := { stood := { row := maskBackUptoRow, standIns := [], harness := (true, "65ce830c75c2fc44eeffd9e313a88e3c3ce420dda8c0e4b9eff87a7b2b38df46"), looks := true }, kinds := [], alts := [], laidByText := true, laidKinds := [.data, .sentinel, .sentinel, .sentinel, .pinned], laidTests := true, laidLooks := .later }
def MaskBackUptoCardSaid : Prop := Claim7.holds Tryd.pinned (.plain (OpenSpec.upto maskBackSpec)) maskBackUptoCard

/-- THE SECOND FORM's CARD OF 'truchmanlaw16.MaskBodies'. -/
def maskBodiesUptoCard : Claim7 := { stood := { row := maskBodiesUptoRow, standIns := [], harness := (true, "65ce830c75c2fc44eeffd9e313a88e3c3ce420dda8c0e4b9eff87a7b2b38df46"), looks := true }, kinds := [], alts := [], laidByText := true, laidKinds := [.data, .sentinel, .sentinel, .sentinel, .sentinel, .sentinel, .sentinel, .sentinel, .sentinel, .sentinel, .sentinel, .sentinel, .sentinel, .sentinel, .sentinel, .sentinel, .sentinel, .pinned], laidTests := true, laidLooks := .later }
def MaskBodiesUptoCardSaid : Prop := Claim7.holds Tryd.pinned (.plain (OpenSpec.upto maskBodiesSpec)) maskBodiesUptoCard

/-- THE SECOND FORM's CARD OF 'truchmanlaw04.CodesTell'. -/
def codesTellUptoCard : Claim7 := { stood := { row := codesTellUptoRow, standIns := [], harness := (true, "65ce830c75c2fc44eeffd9e313a88e3c3ce420dda8c0e4b9eff87a7b2b38df46"), looks := true }, kinds := [], alts := [], laidByText := true, laidKinds := [.data, .data, .data, .widerDeep], laidTests := true, laidLooks := .later }
def CodesTellUptoCardSaid : Prop := Claim7.holds Tryd.pinned (.plain (OpenSpec.upto codesTellSpec)) codesTellUptoCard

/-- THE SECOND FORM's CARD OF 'truchmanlaw17.StatusBodies'. -/
def statusBodiesUptoCard : Claim7 := { stood := { row := statusBodiesUptoRow, standIns := [], harness := (true, "65ce830c75c2fc44eeffd9e313a88e3c3ce420dda8c0e4b9eff87a7b2b38df46"), looks := true }, kinds := [], alts := [], laidByText := true, laidKinds := [.data, .data, .data, .sentinel, .sentinel, .sentinel, .sentinel, .sentinel, .sentinel, .sentinel, .sentinel, .sentinel, .sentinel, .sentinel, .sentinel, .sentinel, .sentinel, .sentinel, .sentinel, .widerDeep], laidTests := true, laidLooks := .later }
def StatusBodiesUptoCardSaid : Prop := Claim7.holds Tryd.pinned (.plain (OpenSpec.upto statusBodiesSpec)) statusBodiesUptoCard

/-- THE SECOND FORM's CARD OF 'truchmanlaw17.StatusTables'. -/
def statusTablesUptoCard : Claim7 := { stood := { row := statusTablesUptoRow, standIns := [], harness := (true, "65ce830c75c2fc44eeffd9e313a88e3c3ce420dda8c0e4b9eff87a7b2b38df46"), looks := true }, kinds := [], alts := [], laidByText := true, laidKinds := [.data, .data, .data, .sentinel, .sentinel, .sentinel, .sentinel, .sentinel, .sentinel, .sentinel, .sentinel, .sentinel, .sentinel, .sentinel, .sentinel, .sentinel, .sentinel, .sentinel, .sentinel, .widerDeep], laidTests := true, laidLooks := .later }
def StatusTablesUptoCardSaid : Prop := Claim7.holds Tryd.pinned (.plain (OpenSpec.upto statusTablesSpec)) statusTablesUptoCard

/-- THE SECOND FORM's CARD OF 'truchmanlaw04.CodesNames'. -/
def codesNamesUptoCard : Claim7 := { stood := { row := codesNamesUptoRow, standIns := [], harness := (true, "65ce830c75c2fc44eeffd9e313a88e3c3ce420dda8c0e4b9eff87a7b2b38df46"), looks := true }, kinds := [], alts := [], laidByText := true, laidKinds := [.data, .data, .data, .sentinel, .sentinel], laidTests := true, laidLooks := .later }
def CodesNamesUptoCardSaid : Prop := Claim7.holds Tryd.pinned (.plain (OpenSpec.upto codesNamesSpec)) codesNamesUptoCard

/-- THE SECOND FORM's CARD OF 'truchmanlaw04.CodesOwn'. -/
def codesOwnUptoCard : Claim7 := { stood := { row := codesOwnUptoRow, standIns := [], harness := (true, "65ce830c75c2fc44eeffd9e313a88e3c3ce420dda8c0e4b9eff87a7b2b38df46"), looks := true }, kinds := [], alts := [], laidByText := true, laidKinds := [.data, .data, .data, .sentinel, .sentinel, .widerDeep], laidTests := true, laidLooks := .later }
def CodesOwnUptoCardSaid : Prop := Claim7.holds Tryd.pinned (.plain (OpenSpec.upto codesOwnSpec)) codesOwnUptoCard
end Rows
end Go.Proofs.YtealbjkhjpmilaaDoor
