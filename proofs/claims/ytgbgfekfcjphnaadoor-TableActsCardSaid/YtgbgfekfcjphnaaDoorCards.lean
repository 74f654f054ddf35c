/-
  DERIVED. GIVEN WITH THE SEED: THE CARDS: each row of YtgbgfekfcjphnaaDoorRows.lean that lists a variable, with what it lists TIED to the program's text (the seventh form; the later family's looks); each row that meets fmt, with fmt's text TOLD by the authors' own Lean function (tested against real Go, not proved from fmt's source: count such statements apart). THE CARD IS WHAT COUNTS. Prove the row's statement (the work); the ties are given (YtgbgfekfcjphnaaDoorTie.lean); close each card by the builder's one call (the guide's Derived/Test/ToyasCard.lean, 'card_holds'). Laid BY PROGRAM, IN A SANDBOX (cutbox-door.mjs). By AI agents, Wed Nov 11 2026. No macro, syntax, notation, axiom, sorry.
-/
import Derived.Test.YtgbgfekfcjphnaaDoorRows
import GoSem.ClaimSeven
namespace Go.Proofs.YtgbgfekfcjphnaaDoor
namespace Rows

/-- THE TIED CARD OF 'truchmanlaw10.QstateStill'. -/
def qstateStillCard : Claim7 := { stood := { row := qstateStillRow, standIns := [], harness := (true, "0c0da55666f512df7b2740278067da395b3e2b2cdf5cb062ff72630bb2759783"), looks := true }, kinds := [], alts := [], laidByText := true, laidKinds := [.sentinel, .sentinel], laidTests := true, laidLooks := .later }
def QstateStillCardSaid : Prop := Claim7.holds Tryd.pinned (.plain (OpenSpec.ofChange qstateStillSpec)) qstateStillCard

/-- THE TIED CARD OF 'truchmanlaw10.QstateRests'. -/
def qstateRestsCard : Claim7 := { stood := { row := qstateRestsRow, standIns := [], harness := (true, "0c0da55666f512df7b2740278067da395b3e2b2cdf5cb062ff72630bb2759783"), looks := true }, kinds := [], alts := [], laidByText := true, laidKinds := [.sentinel, .sentinel], laidTests := true, laidLooks := .later }
def QstateRestsCardSaid : Prop := Claim7.holds Tryd.pinned (.plain (OpenSpec.ofChange qstateRestsSpec)) qstateRestsCard

/-- THE TIED CARD OF 'truchmanlaw10.QstateMoves'. -/
def qstateMovesCard : Claim7 := { stood := { row := qstateMovesRow, standIns := [], harness := (true, "0c0da55666f512df7b2740278067da395b3e2b2cdf5cb062ff72630bb2759783"), looks := true }, kinds := [], alts := [], laidByText := true, laidKinds := [.sentinel, .sentinel, .sentinel, .sentinel, .sentinel, .sentinel, .sentinel, .sentinel, .sentinel, .sentinel, .sentinel, .sentinel, .sentinel, .sentinel, .sentinel, .sentinel], laidTests := true, laidLooks := .later }
def QstateMovesCardSaid : Prop := Claim7.holds Tryd.pinned (.plain (OpenSpec.ofChange qstateMovesSpec)) qstateMovesCard

/-- THE TIED CARD OF 'truchmanlaw11.TableApart'. -/
def tableApartCard : Claim7 := { stood := { row := tableApartRow, standIns := [], harness := (true, "0c0da55666f512df7b2740278067da395b3e2b2cdf5cb062ff72630bb2759783"), looks := true }, kinds := [], alts := [], laidByText := true, laidKinds := [.sentinel, .sentinel, .sentinel, .sentinel], laidTests := true, laidLooks := .later }
def TableApartCardSaid : Prop := Claim7.holds Tryd.pinned (.plain (OpenSpec.ofChange tableApartSpec)) tableApartCard

/-- THE TIED CARD OF 'truchmanlaw11.TableRests'. -/
def tableRestsCard : Claim7 := { stood := { row := tableRestsRow, standIns := [], harness := (true, "0c0da55666f512df7b2740278067da395b3e2b2cdf5cb062ff72630bb2759783"), looks := true }, kinds := [], alts := [], laidByText := true, laidKinds := [.sentinel, .sentinel, .sentinel, .sentinel], laidTests := true, laidLooks := .later }
def TableRestsCardSaid : Prop := Claim7.holds Tryd.pinned (.plain (OpenSpec.ofChange tableRestsSpec)) tableRestsCard

/-- THE TIED CARD OF 'truchmanlaw11.TableActs'. -/
def tableActsCard : Claim7 := { stood := { row := tableActsRow, standIns := [], harness := (true, "0c0da55666f512df7b2740278067da395b3e2b2cdf5cb062ff72630bb2759783"), looks := true }, kinds := [], alts := [], laidByText := true, laidKinds := [.sentinel, .sentinel, .sentinel, .sentinel, .sentinel, .sentinel, .sentinel, .sentinel, .sentinel, .sentinel, .sentinel, .sentinel, .sentinel, .sentinel, .sentinel, .sentinel], laidTests := true, laidLooks := .later }
def TableActsCardSaid : Prop := Claim7.holds Tryd.pinned (.plain (OpenSpec.ofChange tableActsSpec)) tableActsCard

/-- THE SECOND FORM's CARD OF 'truchmanlaw10.QstateStill'. -/
def qstateStillUptoCard : Claim7 := { stood := { row := qstateStillUptoRow, standIns := [], harness := (true, "0c0da55666f512df7b2740278067da395b3e2b2cdf5cb062ff72630bb2759783"), looks := true }, kinds := [], alts := [], laidByText := true, laidKinds := [.sentinel, .sentinel], laidTests := true, laidLooks := .later }
def QstateStillUptoCardSaid : Prop := Claim7.holds Tryd.pinned (.plain (OpenSpec.upto qstateStillSpec)) qstateStillUptoCard

/-- THE SECOND FORM's CARD OF 'truchmanlaw10.QstateRests'. -/
def qstateRestsUptoCard : Claim7 := { stood := { row := qstateRestsUptoRow, standIns := [], harness := (true, "0c0da55666f512df7b2740278067da395b3e2b2cdf5cb062ff72630bb2759783"), looks := true }, kinds := [], alts := [], laidByText := true, laidKinds := [.sentinel, .sentinel], laidTests := true, laidLooks := .later }
def QstateRestsUptoCardSaid : Prop := Claim7.holds Tryd.pinned (.plain (OpenSpec.upto qstateRestsSpec)) qstateRestsUptoCard

/-- THE SECOND FORM's CARD OF 'truchmanlaw10.QstateMoves'. -/
def qstateMovesUptoCard : Claim7 := { stood := { row := qstateMovesUptoRow, standIns := [], harness := (true, "0c0da55666f512df7b2740278067da395b3e2b2cdf5cb062ff72630bb2759783"), looks := true }, kinds := [], alts := [], laidByText := true, laidKinds := [.sentinel, .sentinel, .sentinel, .sentinel, .sentinel, .sentinel, .sentinel, .sentinel, .sentinel, .sentinel, .sentinel, .sentinel, .sentinel, .sentinel, .sentinel, .sentinel], laidTests := true, laidLooks := .later }
def QstateMovesUptoCardSaid : Prop := Claim7.holds Tryd.pinned (.plain (OpenSpec.upto qstateMovesSpec)) qstateMovesUptoCard

/-- THE SECOND FORM's CARD OF 'truchmanlaw11.TableApart'. -/
def tableApartUptoCard : Claim7 := { stood := { row := tableApartUptoRow, standIns := [], harness := (true, "0c0da55666f512df7b2740278067da395b3e2b2cdf5cb062ff72630bb2759783"), looks := true }, kinds := [], alts := [], laidByText := true, laidKinds := [.sentinel, .sentinel, .sentinel, .sentinel], laidTests := true, laidLooks := .later }
def TableApartUptoCardSaid : Prop := Claim7.holds Tryd.pinned (.plain (OpenSpec.upto tableApartSpec)) tableApartUptoCard

/-- THE SECOND FORM's CARD OF 'truchmanlaw11.TableRests'. -/
def tableRestsUptoCard : Claim7 := { stood := { row := tableRestsUptoRow, standIns := [], harness := (true, "0c0da55666f512df7b2740278067da395b3e2b2cdf5cb062ff72630bb2759783"), looks := true }, kinds := [], alts := [], laidByText := true, laidKinds := [.sentinel, .sentinel, .sentinel, .sentinel], laidTests := true, laidLooks := .later }
def TableRestsUptoCardSaid : Prop := Claim7.holds Tryd.pinned (.plain (OpenSpec.upto tableRestsSpec)) tableRestsUptoCard

/-- THE SECOND FORM's CARD OF 'truchmanlaw11.TableActs'. -/
def tableActsUptoCard : Claim7 := { stood := { row := tableActsUptoRow, standIns := [], harness := (true, "0c0da55666f512df7b2740278067da395b3e2b2cdf5cb062ff72630bb2759783"), looks := true }, kinds := [], alts := [], laidByText := true, laidKinds := [.sentinel, .sentinel, .sentinel, .sentinel, .sentinel, .sentinel, .sentinel, .sentinel, .sentinel, .sentinel, .sentinel, .sentinel, .sentinel, .sentinel, .sentinel, .sentinel], laidTests := true, laidLooks := .later }
def TableActsUptoCardSaid : Prop := Claim7.holds Tryd.pinned (.plain (OpenSpec.upto tableActsSpec)) tableActsUptoCard
end Rows
end Go.Proofs.YtgbgfekfcjphnaaDoor
