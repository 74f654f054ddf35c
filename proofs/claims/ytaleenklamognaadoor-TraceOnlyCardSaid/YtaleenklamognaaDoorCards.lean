/-
  DERIVED. GIVEN WITH THE SEED: THE CARDS: each row of YtaleenklamognaaDoorRows.lean that lists a variable, with what it lists TIED to the program's text (the seventh form; the later family's looks); each row that meets fmt, with fmt's text TOLD by the authors' own Lean function (tested against real Go, not proved from fmt's source: count such statements apart). THE CARD IS WHAT COUNTS. Prove the row's statement (the work); the ties are given (YtaleenklamognaaDoorTie.lean); close each card by the builder's one call (the guide's Derived/Test/ToyasCard.lean, 'card_holds'). Laid BY PROGRAM, IN A SANDBOX (cutbox-door.mjs). By AI agents, Wed Nov 11 2026. No macro, syntax, notation, axiom, sorry.
-/
import Derived.Test.YtaleenklamognaaDoorRows
import GoSem.ClaimSeven
namespace Go.Proofs.YtaleenklamognaaDoor
namespace Rows

/-- THE TIED CARD OF 'truchmanlaw30.WordsSplits'. -/
def wordsSplitsCard : Claim7 := { stood := { row := wordsSplitsRow, standIns := [], harness := (true, "adce2fd5dd0887f6362622a91578a8c9f336eace8c67ecf4b186e5f5f59c33e1"), looks := true }, kinds := [], alts := [], laidByText := true, laidKinds := [.sentinel, .sentinel, .sentinel, .sentinel, .sentinel, .sentinel, .sentinel, .sentinel, .sentinel, .sentinel, .sentinel, .sentinel, .sentinel, .sentinel, .sentinel, .sentinel], laidTests := true, laidLooks := .later }
def WordsSplitsCardSaid : Prop := Claim7.holds Tryd.pinned (.plain (OpenSpec.ofChange wordsSplitsSpec)) wordsSplitsCard

/-- THE TIED CARD OF 'truchmanlaw30.WordsJoins'. -/
def wordsJoinsCard : Claim7 := { stood := { row := wordsJoinsRow, standIns := [], harness := (true, "adce2fd5dd0887f6362622a91578a8c9f336eace8c67ecf4b186e5f5f59c33e1"), looks := true }, kinds := [], alts := [], laidByText := true, laidKinds := [.sentinel, .sentinel, .sentinel, .sentinel, .sentinel, .sentinel, .sentinel, .sentinel, .sentinel, .sentinel, .sentinel, .sentinel, .sentinel, .sentinel, .sentinel, .sentinel], laidTests := true, laidLooks := .later }
def WordsJoinsCardSaid : Prop := Claim7.holds Tryd.pinned (.plain (OpenSpec.ofChange wordsJoinsSpec)) wordsJoinsCard

/-- THE TIED CARD OF 'truchmanlaw30.WordsPieces'. -/
def wordsPiecesCard : Claim7 := { stood := { row := wordsPiecesRow, standIns := [], harness := (true, "adce2fd5dd0887f6362622a91578a8c9f336eace8c67ecf4b186e5f5f59c33e1"), looks := true }, kinds := [], alts := [], laidByText := true, laidKinds := [.sentinel, .sentinel, .sentinel], laidTests := true, laidLooks := .later }
def WordsPiecesCardSaid : Prop := Claim7.holds Tryd.pinned (.plain (OpenSpec.ofChange wordsPiecesSpec)) wordsPiecesCard

/-- THE TIED CARD OF 'truchmanlaw30.WordsBack'. -/
def wordsBackCard : Claim7 := { stood := { row := wordsBackRow, standIns := [], harness := (true, "adce2fd5dd0887f6362622a91578a8c9f336eace8c67ecf4b186e5f5f59c33e1"), looks := true }, kinds := [], alts := [], laidByText := true, laidKinds := [.sentinel, .sentinel, .sentinel], laidTests := true, laidLooks := .later }
def WordsBackCardSaid : Prop := Claim7.holds Tryd.pinned (.plain (OpenSpec.ofChange wordsBackSpec)) wordsBackCard

/-- THE TIED CARD OF 'truchmanlaw38.TraceOnly'. -/
def traceOnlyCard : Claim7 := { stood := { row := traceOnlyRow, standIns := [], harness := (true, "adce2fd5dd0887f6362622a91578a8c9f336eace8c67ecf4b186e5f5f59c33e1"), looks := true }, kinds := [], alts := [], laidByText := true, laidKinds := [.data, .data, .data, .sentinel, .sentinel, .sentinel, .sentinel, .sentinel, .sentinel, .sentinel, .sentinel, .sentinel, .sentinel, .sentinel, .sentinel, .sentinel, .sentinel, .sentinel, .sentinel, .widerDeep], laidTests := true, laidLooks := .later }
def TraceOnlyCardSaid : Prop := Claim7.holds Tryd.pinned (.plain (OpenSpec.ofChange traceOnlySpec)) traceOnlyCard

/-- THE TIED CARD OF 'truchmanlaw38.TraceTells'. -/
def traceTellsCard : Claim7 := { stood := { row := traceTellsRow, standIns := [], harness := (true, "adce2fd5dd0887f6362622a91578a8c9f336eace8c67ecf4b186e5f5f59c33e1"), looks := true }, kinds := [], alts := [], laidByText := true, laidKinds := [.data, .data, .data, .sentinel, .sentinel, .sentinel, .sentinel, .sentinel, .sentinel, .sentinel, .sentinel, .sentinel, .sentinel, .sentinel, .sentinel, .sentinel, .sentinel, .sentinel, .sentinel, .widerDeep], laidTests := true, laidLooks := .later }
def TraceTellsCardSaid : Prop := Claim7.holds Tryd.pinned (.plain (OpenSpec.ofChange traceTellsSpec)) traceTellsCard

/-- THE TIED CARD OF 'truchmanlaw34.VarsNumbers'. -/
def varsNumbersCard : Claim7 := { stood := { row := varsNumbersRow, standIns := [], harness := (true, "adce2fd5dd0887f6362622a91578a8c9f336eace8c67ecf4b186e5f5f59c33e1"), looks := true }, kinds := [], alts := [], laidByText := true, laidKinds := [.data, .data, .data, .sentinel, .sentinel, .sentinel, .sentinel, .sentinel, .sentinel, .sentinel, .sentinel, .sentinel, .sentinel, .sentinel, .sentinel, .sentinel, .sentinel, .sentinel, .sentinel, .sentinel, .sentinel], laidTests := true, laidLooks := .later }
def VarsNumbersCardSaid : Prop := Claim7.holds Tryd.pinned (.plain (OpenSpec.ofChange varsNumbersSpec)) varsNumbersCard

/-- THE TIED CARD OF 'truchmanlaw34.VarsExpands'. -/
def varsExpandsCard : Claim7 := { stood := { row := varsExpandsRow, standIns := [], harness := (true, "adce2fd5dd0887f6362622a91578a8c9f336eace8c67ecf4b186e5f5f59c33e1"), looks := true }, kinds := [], alts := [], laidByText := true, laidKinds := [.data, .data, .data, .sentinel, .sentinel, .sentinel, .sentinel, .sentinel, .sentinel, .sentinel], laidTests := true, laidLooks := .later }
def VarsExpandsCardSaid : Prop := Claim7.holds Tryd.pinned (.plain (OpenSpec.ofChange varsExpandsSpec)) varsExpandsCard

/-- THE TIED CARD OF 'truchmanlaw38.TraceQuotes'. -/
def traceQuotesCard : Claim7 := { stood := { row := traceQuotesRow, standIns := [], harness := (true, "adce2fd5dd0887f6362622a91578a8c9f336eace8c67ecf4b186e5f5f59c33e1"), looks := true }, kinds := [], alts := [], laidByText := true, laidKinds := [.data, .data, .data, .sentinel, .sentinel, .sentinel, .sentinel, .sentinel, .sentinel, .sentinel, .sentinel, .sentinel, .sentinel, .sentinel, .sentinel, .sentinel, .sentinel, .sentinel, .sentinel, .widerDeep], laidTests := true, laidLooks := .later }
def TraceQuotesCardSaid : Prop := Claim7.holds Tryd.pinned (.plain (OpenSpec.ofChange traceQuotesSpec)) traceQuotesCard

/-- THE TIED CARD OF 'truchmanlaw34.VarsApart'. -/
def varsApartCard : Claim7 := { stood := { row := varsApartRow, standIns := [], harness := (true, "adce2fd5dd0887f6362622a91578a8c9f336eace8c67ecf4b186e5f5f59c33e1"), looks := true }, kinds := [], alts := [], laidByText := true, laidKinds := [.data, .data, .data, .sentinel, .sentinel, .sentinel, .sentinel, .sentinel, .sentinel, .sentinel], laidTests := true, laidLooks := .later }
def VarsApartCardSaid : Prop := Claim7.holds Tryd.pinned (.plain (OpenSpec.ofChange varsApartSpec)) varsApartCard

/-- THE SECOND FORM's CARD OF 'truchmanlaw30.WordsSplits'. -/
def wordsSplitsUptoCard : Claim7 := { stood := { row := wordsSplitsUptoRow, standIns := [], harness := (true, "adce2fd5dd0887f6362622a91578a8c9f336eace8c67ecf4b186e5f5f59c33e1"), looks := true }, kinds := [], alts := [], laidByText := true, laidKinds := [.sentinel, .sentinel, .sentinel, .sentinel, .sentinel, .sentinel, .sentinel, .sentinel, .sentinel, .sentinel, .sentinel, .sentinel, .sentinel, .sentinel, .sentinel, .sentinel], laidTests := true, laidLooks := .later }
def WordsSplitsUptoCardSaid : Prop := Claim7.holds Tryd.pinned (.plain (OpenSpec.upto wordsSplitsSpec)) wordsSplitsUptoCard

/-- THE SECOND FORM's CARD OF 'truchmanlaw30.WordsJoins'. -/
def wordsJoinsUptoCard : Claim7 := { stood := { row := wordsJoinsUptoRow, standIns := [], harness := (true, "adce2fd5dd0887f6362622a91578a8c9f336eace8c67ecf4b186e5f5f59c33e1"), looks := true }, kinds := [], alts := [], laidByText := true, laidKinds := [.sentinel, .sentinel, .sentinel, .sentinel, .sentinel, .sentinel, .sentinel, .sentinel, .sentinel, .sentinel, .sentinel, .sentinel, .sentinel, .sentinel, .sentinel, .sentinel], laidTests := true, laidLooks := .later }
def WordsJoinsUptoCardSaid : Prop := Claim7.holds Tryd.pinned (.plain (OpenSpec.upto wordsJoinsSpec)) wordsJoinsUptoCard

/-- THE SECOND FORM's CARD OF 'truchmanlaw30.WordsPieces'. -/
def wordsPiecesUptoCard : Claim7 := { stood := { row := wordsPiecesUptoRow, standIns := [], harness := (true, "adce2fd5dd0887f6362622a91578a8c9f336eace8c67ecf4b186e5f5f59c33e1"), looks := true }, kinds := [], alts := [], laidByText := true, laidKinds := [.sentinel, .sentinel, .sentinel], laidTests := true, laidLooks := .later }
def WordsPiecesUptoCardSaid : Prop := Claim7.holds Tryd.pinned (.plain (OpenSpec.upto wordsPiecesSpec)) wordsPiecesUptoCard

/-- THE SECOND FORM's CARD OF 'truchmanlaw30.WordsBack'. -/
def wordsBackUptoCard : Claim7 := { stood := { row := wordsBackUptoRow, standIns := [], harness := (true, "adce2fd5dd0887f6362622a91578a8c9f336eace8c67ecf4b186e5f5f59c33e1"), looks := true }, kinds := [], alts := [], laidByText := true, laidKinds := [.sentinel, .sentinel, .sentinel], laidTests := true, laidLooks := .later }
def WordsBackUptoCardSaid : Prop := Claim7.holds Tryd.pinned (.plain (OpenSpec.upto wordsBackSpec)) wordsBackUptoCard

/-- THE SECOND FORM's CARD OF 'truchmanlaw38.TraceOnly'. -/
def traceOnlyUptoCard : Claim7 := { stood := { row := traceOnlyUptoRow, standIns := [], harness := (true, "adce2fd5dd0887f6362622a91578a8c9f336eace8c67ecf4b186e5f5f59c33e1"), looks := true }, kinds := [], alts := [], laidByText := true, laidKinds := [.data, .data, .data, .sentinel, .sentinel, .sentinel, .sentinel, .sentinel, .sentinel, .sentinel, .sentinel, .sentinel, .sentinel, .sentinel, .sentinel, .sentinel, .sentinel, .sentinel, .sentinel, .widerDeep], laidTests := true, laidLooks := .later }
def TraceOnlyUptoCardSaid : Prop := Claim7.holds Tryd.pinned (.plain (OpenSpec.upto traceOnlySpec)) traceOnlyUptoCard

/-- THE SECOND FORM's CARD OF 'truchmanlaw38.TraceTells'. -/
def traceTellsUptoCard : Claim7 := { stood := { row := traceTellsUptoRow, standIns := [], harness := (true, "adce2fd5dd0887f6362622a91578a8c9f336eace8c67ecf4b186e5f5f59c33e1"), looks := true }, kinds := [], alts := [], laidByText := true, laidKinds := [.data, .data, .data, .sentinel, .sentinel, .sentinel, .sentinel, .sentinel, .sentinel, .sentinel, .sentinel, .sentinel, .sentinel, .sentinel, .sentinel, .sentinel, .sentinel, .sentinel, .sentinel, .widerDeep], laidTests := true, laidLooks := .later }
def TraceTellsUptoCardSaid : Prop := Claim7.holds Tryd.pinned (.plain (OpenSpec.upto traceTellsSpec)) traceTellsUptoCard

/-- THE SECOND FORM's CARD OF 'truchmanlaw34.VarsNumbers'. -/
def varsNumbersUptoCard : Claim7 := { stood := { row := varsNumbersUptoRow, standIns := [], harness := (true, "adce2fd5dd0887f6362622a91578a8c9f336eace8c67ecf4b186e5f5f59c33e1"), looks := true }, kinds := [], alts := [], laidByText := true, laidKinds := [.data, .data, .data, .sentinel, .sentinel, .sentinel, .sentinel, .sentinel, .sentinel, .sentinel, .sentinel, .sentinel, .sentinel, .sentinel, .sentinel, .sentinel, .sentinel, .sentinel, .sentinel, .sentinel, .sentinel], laidTests := true, laidLooks := .later }
def VarsNumbersUptoCardSaid : Prop := Claim7.holds Tryd.pinned (.plain (OpenSpec.upto varsNumbersSpec)) varsNumbersUptoCard

/-- THE SECOND FORM's CARD OF 'truchmanlaw34.VarsExpands'. -/
def varsExpandsUptoCard : Claim7 := { stood := { row := varsExpandsUptoRow, standIns := [], harness := (true, "adce2fd5dd0887f6362622a91578a8c9f336eace8c67ecf4b186e5f5f59c33e1"), looks := true }, kinds := [], alts := [], laidByText := true, laidKinds := [.data, .data, .data, .sentinel, .sentinel, .sentinel, .sentinel, .sentinel, .sentinel, .sentinel], laidTests := true, laidLooks := .later }
def VarsExpandsUptoCardSaid : Prop := Claim7.holds Tryd.pinned (.plain (OpenSpec.upto varsExpandsSpec)) varsExpandsUptoCard

/-- THE SECOND FORM's CARD OF 'truchmanlaw38.TraceQuotes'. -/
def traceQuotesUptoCard : Claim7 := { stood := { row := traceQuotesUptoRow, standIns := [], harness := (true, "adce2fd5dd0887f6362622a91578a8c9f336eace8c67ecf4b186e5f5f59c33e1"), looks := true }, kinds := [], alts := [], laidByText := true, laidKinds := [.data, .data, .data, .sentinel, .sentinel, .sentinel, .sentinel, .sentinel, .sentinel, .sentinel, .sentinel, .sentinel, .sentinel, .sentinel, .sentinel, .sentinel, .sentinel, .sentinel, .sentinel, .widerDeep], laidTests := true, laidLooks := .later }
def TraceQuotesUptoCardSaid : Prop := Claim7.holds Tryd.pinned (.plain (OpenSpec.upto traceQuotesSpec)) traceQuotesUptoCard

/-- THE SECOND FORM's CARD OF 'truchmanlaw34.VarsApart'. -/
def varsApartUptoCard : Claim7 := { stood := { row := varsApartUptoRow, standIns := [], harness := (true, "adce2fd5dd0887f6362622a91578a8c9f336eace8c67ecf4b186e5f5f59c33e1"), looks := true }, kinds := [], alts := [], laidByText := true, laidKinds := [.data, .data, .data, .sentinel, .sentinel, .sentinel, .sentinel, .sentinel, .sentinel, .sentinel], laidTests := true, laidLooks := .later }
def VarsApartUptoCardSaid : Prop := Claim7.holds Tryd.pinned (.plain (OpenSpec.upto varsApartSpec)) varsApartUptoCard
end Rows
end Go.Proofs.YtaleenklamognaaDoor
