/-
  DERIVED. GIVEN WITH THE SEED: THE CARDS: each row of YtdmkdmaofgjelaaDoorRows.lean that lists a variable, with what it lists TIED to the program's text (the seventh form; the later family's looks); each row that meets fmt, with fmt's text TOLD by the authors' own Lean function (tested against real Go, not proved from fmt's source: count such statements apart). THE CARD IS WHAT COUNTS. Prove the row's statement (the work); the ties are given (YtdmkdmaofgjelaaDoorTie.lean); close each card by the builder's one call (the guide's Derived/Test/ToyasCard.lean, 'card_holds'). Laid BY PROGRAM, IN A SANDBOX (cutbox-door.mjs). By AI agents, Wed Nov 11 2026. No macro, syntax, notation, axiom, sorry.
-/
import Derived.Test.YtdmkdmaofgjelaaDoorRows
import GoSem.ClaimSeven
namespace Go.Proofs.YtdmkdmaofgjelaaDoor
namespace Rows

/-- THE TIED CARD OF 'truchmanlaw12.NawsBack'. -/
def nawsBackCard : Claim7 := { stood := { row := nawsBackRow, standIns := [], harness := (true, "dd1cba97f90618458ea6c9157597c81a3796c50eee34087de253fca5d61675c3"), looks := true }, kinds := [], alts := [], laidByText := true, laidKinds := [.sentinel, .sentinel, .sentinel], laidTests := true, laidLooks := .later }
def NawsBackCardSaid : Prop := Claim7.holds Tryd.pinned (.plain (OpenSpec.ofChange nawsBackSpec)) nawsBackCard

/-- THE TIED CARD OF 'truchmanlaw28.BufferLast'. -/
def bufferLastCard : Claim7 := { stood := { row := bufferLastRow, standIns := [], harness := (true, "dd1cba97f90618458ea6c9157597c81a3796c50eee34087de253fca5d61675c3"), looks := true }, kinds := [], alts := [], laidByText := true, laidKinds := [.sentinel], laidTests := true, laidLooks := .later }
def BufferLastCardSaid : Prop := Claim7.holds Tryd.pinned (.plain (OpenSpec.ofChange bufferLastSpec)) bufferLastCard

/-- THE TIED CARD OF 'truchmanlaw12.NawsBodies'. -/
def nawsBodiesCard : Claim7 := { stood := { row := nawsBodiesRow, standIns := [], harness := (true, "dd1cba97f90618458ea6c9157597c81a3796c50eee34087de253fca5d61675c3"), looks := true }, kinds := [], alts := [], laidByText := true, laidKinds := [.sentinel, .sentinel, .sentinel, .sentinel, .sentinel, .sentinel, .sentinel, .sentinel, .sentinel, .sentinel, .sentinel, .sentinel, .sentinel, .sentinel, .sentinel, .sentinel], laidTests := true, laidLooks := .later }
def NawsBodiesCardSaid : Prop := Claim7.holds Tryd.pinned (.plain (OpenSpec.ofChange nawsBodiesSpec)) nawsBodiesCard

/-- THE TIED CARD OF 'truchmanlaw14.SlcRests'. -/
def slcRestsCard : Claim7 := { stood := { row := slcRestsRow, standIns := [], harness := (true, "dd1cba97f90618458ea6c9157597c81a3796c50eee34087de253fca5d61675c3"), looks := true }, kinds := [], alts := [], laidByText := true, laidKinds := [.sentinel, .sentinel, .sentinel, .sentinel], laidTests := true, laidLooks := .later }
def SlcRestsCardSaid : Prop := Claim7.holds Tryd.pinned (.plain (OpenSpec.ofChange slcRestsSpec)) slcRestsCard

/-- THE TIED CARD OF 'truchmanlaw28.BufferActs'. -/
def bufferActsCard : Claim7 := { stood := { row := bufferActsRow, standIns := [], harness := (true, "dd1cba97f90618458ea6c9157597c81a3796c50eee34087de253fca5d61675c3"), looks := true }, kinds := [], alts := [], laidByText := true, laidKinds := [.sentinel, .sentinel, .sentinel, .sentinel, .sentinel, .sentinel, .sentinel, .sentinel, .sentinel, .sentinel, .sentinel, .sentinel, .sentinel, .sentinel, .sentinel, .sentinel], laidTests := true, laidLooks := .later }
def BufferActsCardSaid : Prop := Claim7.holds Tryd.pinned (.plain (OpenSpec.ofChange bufferActsSpec)) bufferActsCard

/-- THE TIED CARD OF 'truchmanlaw14.SlcActs'. -/
def slcActsCard : Claim7 := { stood := { row := slcActsRow, standIns := [], harness := (true, "dd1cba97f90618458ea6c9157597c81a3796c50eee34087de253fca5d61675c3"), looks := true }, kinds := [], alts := [], laidByText := true, laidKinds := [.sentinel, .sentinel, .sentinel, .sentinel, .sentinel, .sentinel, .sentinel, .sentinel, .sentinel, .sentinel, .sentinel, .sentinel, .sentinel, .sentinel, .sentinel, .sentinel], laidTests := true, laidLooks := .later }
def SlcActsCardSaid : Prop := Claim7.holds Tryd.pinned (.plain (OpenSpec.ofChange slcActsSpec)) slcActsCard

/-- THE TIED CARD OF 'truchmanlaw14.SlcBodies'. -/
def slcBodiesCard : Claim7 := { stood := { row := slcBodiesRow, standIns := [], harness := (true, "dd1cba97f90618458ea6c9157597c81a3796c50eee34087de253fca5d61675c3"), looks := true }, kinds := [], alts := [], laidByText := true, laidKinds := [.sentinel, .sentinel, .sentinel, .sentinel, .sentinel, .sentinel, .sentinel, .sentinel, .sentinel, .sentinel, .sentinel, .sentinel, .sentinel, .sentinel, .sentinel, .sentinel], laidTests := true, laidLooks := .later }
def SlcBodiesCardSaid : Prop := Claim7.holds Tryd.pinned (.plain (OpenSpec.ofChange slcBodiesSpec)) slcBodiesCard

/-- THE SECOND FORM's CARD OF 'truchmanlaw12.NawsBack'. -/
def nawsBackUptoCard : Claim7 := { stood := { row := nawsBackUptoRow, standIns := [], harness := (true, "dd1cba97f90618458ea6c9157597c81a3796c50eee34087de253fca5d61675c3"), looks := true }, kinds := [], alts := [], laidByText := true, laidKinds := [.sentinel, .sentinel, .sentinel], laidTests := true, laidLooks := .later }
def NawsBackUptoCardSaid : Prop := Claim7.holds Tryd.pinned (.plain (OpenSpec.upto nawsBackSpec)) nawsBackUptoCard

/-- THE SECOND FORM's CARD OF 'truchmanlaw28.BufferLast'. -/
def bufferLastUptoCard : Claim7 := { stood := { row := bufferLastUptoRow, standIns := [], harness := (true, "dd1cba97f90618458ea6c9157597c81a3796c50eee34087de253fca5d61675c3"), looks := true }, kinds := [], alts := [], laidByText := true, laidKinds := [.sentinel], laidTests := true, laidLooks := .later }
def BufferLastUptoCardSaid : Prop := Claim7.holds Tryd.pinned (.plain (OpenSpec.upto bufferLastSpec)) bufferLastUptoCard

/-- THE SECOND FORM's CARD OF 'truchmanlaw12.NawsBodies'. -/
def nawsBodiesUptoCard : Claim7 := { stood := { row := nawsBodiesUptoRow, standIns := [], harness := (true, "dd1cba97f90618458ea6c9157597c81a3796c50eee34087de253fca5d61675c3"), looks := true }, kinds := [], alts := [], laidByText := true, laidKinds := [.sentinel, .sentinel, .sentinel, .sentinel, .sentinel, .sentinel, .sentinel, .sentinel, .sentinel, .sentinel, .sentinel, .sentinel, .sentinel, .sentinel, .sentinel, .sentinel], laidTests := true, laidLooks := .later }
def NawsBodiesUptoCardSaid : Prop := Claim7.holds Tryd.pinned (.plain (OpenSpec.upto nawsBodiesSpec)) nawsBodiesUptoCard

/-- THE SECOND FORM's CARD OF 'truchmanlaw14.SlcRests'. -/
def slcRestsUptoCard : Claim7 := { stood := { row := slcRestsUptoRow, standIns := [], harness := (true, "dd1cba97f90618458ea6c9157597c81a3796c50eee34087de253fca5d61675c3"), looks := true }, kinds := [], alts := [], laidByText := true, laidKinds := [.sentinel, .sentinel, .sentinel, .sentinel], laidTests := true, laidLooks := .later }
def SlcRestsUptoCardSaid : Prop := Claim7.holds Tryd.pinned (.plain (OpenSpec.upto slcRestsSpec)) slcRestsUptoCard

/-- THE SECOND FORM's CARD OF 'truchmanlaw28.BufferActs'. -/
def bufferActsUptoCard : Claim7 := { stood := { row := bufferActsUptoRow, standIns := [], harness := (true, "dd1cba97f90618458ea6c9157597c81a3796c50eee34087de253fca5d61675c3"), looks := true }, kinds := [], alts := [], laidByText := true, laidKinds := [.sentinel, .sentinel, .sentinel, .sentinel, .sentinel, .sentinel, .sentinel, .sentinel, .sentinel, .sentinel, .sentinel, .sentinel, .sentinel, .sentinel, .sentinel, .sentinel], laidTests := true, laidLooks := .later }
def BufferActsUptoCardSaid : Prop := Claim7.holds Tryd.pinned (.plain (OpenSpec.upto bufferActsSpec)) bufferActsUptoCard

/-- THE SECOND FORM's CARD OF 'truchmanlaw14.SlcActs'. -/
def slcActsUptoCard : Claim7 := { stood := { row := slcActsUptoRow, standIns := [], harness := (true, "dd1cba97f90618458ea6c9157597c81a3796c50eee34087de253fca5d61675c3"), looks := true }, kinds := [], alts := [], laidByText := true, laidKinds := [.sentinel, .sentinel, .sentinel, .sentinel, .sentinel, .sentinel, .sentinel, .sentinel, .sentinel, .sentinel, .sentinel, .sentinel, .sentinel, .sentinel, .sentinel, .sentinel], laidTests := true, laidLooks := .later }
def SlcActsUptoCardSaid : Prop := Claim7.holds Tryd.pinned (.plain (OpenSpec.upto slcActsSpec)) slcActsUptoCard

/-- THE SECOND FORM's CARD OF 'truchmanlaw14.SlcBodies'. -/
def slcBodiesUptoCard : Claim7 := { stood := { row := slcBodiesUptoRow, standIns := [], harness := (true, "dd1cba97f90618458ea6c9157597c81a3796c50eee34087de253fca5d61675c3"), looks := true }, kinds := [], alts := [], laidByText := true, laidKinds := [.sentinel, .sentinel, .sentinel, .sentinel, .sentinel, .sentinel, .sentinel, .sentinel, .sentinel, .sentinel, .sentinel, .sentinel, .sentinel, .sentinel, .sentinel, .sentinel], laidTests := true, laidLooks := .later }
def SlcBodiesUptoCardSaid : Prop := Claim7.holds Tryd.pinned (.plain (OpenSpec.upto slcBodiesSpec)) slcBodiesUptoCard
end Rows
end Go.Proofs.YtdmkdmaofgjelaaDoor
