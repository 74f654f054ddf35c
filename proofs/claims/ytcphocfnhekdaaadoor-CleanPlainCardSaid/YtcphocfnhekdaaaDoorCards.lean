/-
  DERIVED. GIVEN WITH THE SEED: THE CARDS: each row of YtcphocfnhekdaaaDoorRows.lean that lists a variable, with what it lists TIED to the program's text (the seventh form; the later family's looks); each row that meets fmt, with fmt's text TOLD by the authors' own Lean function (tested against real Go, not proved from fmt's source: count such statements apart). THE CARD IS WHAT COUNTS. Prove the row's statement (the work); the ties are given (YtcphocfnhekdaaaDoorTie.lean); close each card by the builder's one call (the guide's Derived/Test/ToyasCard.lean, 'card_holds'). Laid BY PROGRAM, IN A SANDBOX (cutbox-door.mjs). By AI agents, Wed Nov 11 2026. No macro, syntax, notation, axiom, sorry.
-/
import Derived.Test.YtcphocfnhekdaaaDoorRows
import GoSem.ClaimSeven
namespace Go.Proofs.YtcphocfnhekdaaaDoor
namespace Rows

/-- THE TIED CARD OF 'truchmanlaw07.GramItems'. -/
def gramItemsCard : Claim7 := { stood := { row := gramItemsRow, standIns := [], harness := (true, "f530cd95f545498e1079217162ceacc12c579589fcdd7c478fda70c03005852d"), looks := true }, kinds := [], alts := [], laidByText := true, laidKinds := [.sentinel, .sentinel], laidTests := true, laidLooks := .later }
def GramItemsCardSaid : Prop := Claim7.holds Tryd.pinned (.plain (OpenSpec.ofChange gramItemsSpec)) gramItemsCard

/-- THE TIED CARD OF 'truchmanlaw07.GramParses'. -/
def gramParsesCard : Claim7 := { stood := { row := gramParsesRow, standIns := [], harness := (true, "f530cd95f545498e1079217162ceacc12c579589fcdd7c478fda70c03005852d"), looks := true }, kinds := [], alts := [], laidByText := true, laidKinds := [.sentinel, .sentinel, .sentinel, .sentinel, .sentinel, .sentinel, .sentinel, .sentinel, .sentinel, .sentinel, .sentinel, .sentinel, .sentinel, .sentinel, .sentinel, .sentinel], laidTests := true, laidLooks := .later }
def GramParsesCardSaid : Prop := Claim7.holds Tryd.pinned (.plain (OpenSpec.ofChange gramParsesSpec)) gramParsesCard

/-- THE TIED CARD OF 'truchmanlaw07.GramPrefix'. -/
def gramPrefixCard : Claim7 := { stood := { row := gramPrefixRow, standIns := [], harness := (true, "f530cd95f545498e1079217162ceacc12c579589fcdd7c478fda70c03005852d"), looks := true }, kinds := [], alts := [], laidByText := true, laidKinds := [.sentinel, .sentinel], laidTests := true, laidLooks := .later }
def GramPrefixCardSaid : Prop := Claim7.holds Tryd.pinned (.plain (OpenSpec.ofChange gramPrefixSpec)) gramPrefixCard

/-- THE TIED CARD OF 'truchmanlaw06.EmitParts'. -/
def emitPartsCard : Claim7 := { stood := { row := emitPartsRow, standIns := [], harness := (true, "f530cd95f545498e1079217162ceacc12c579589fcdd7c478fda70c03005852d"), looks := true }, kinds := [], alts := [], laidByText := true, laidKinds := [.data, .sentinel, .sentinel, .sentinel, .sentinel, .sentinel, .sentinel, .sentinel, .sentinel, .sentinel, .sentinel, .sentinel, .sentinel, .sentinel, .sentinel, .sentinel, .sentinel, .pinned], laidTests := true, laidLooks := .later }
def EmitPartsCardSaid : Prop := Claim7.holds Tryd.pinned (.plain (OpenSpec.ofChange emitPartsSpec)) emitPartsCard

/-- THE TIED CARD OF 'truchmanlaw06.EmitTokens'. -/
def emitTokensCard : Claim7 := { stood := { row := emitTokensRow, standIns := [], harness := (true, "f530cd95f545498e1079217162ceacc12c579589fcdd7c478fda70c03005852d"), looks := true }, kinds := [], alts := [], laidByText := true, laidKinds := [.data, .sentinel, .sentinel, .sentinel, .sentinel, .sentinel, .sentinel, .sentinel, .sentinel, .sentinel, .sentinel, .sentinel, .sentinel, .sentinel, .sentinel, .sentinel, .sentinel, .pinned], laidTests := true, laidLooks := .later }
def EmitTokensCardSaid : Prop := Claim7.holds Tryd.pinned (.plain (OpenSpec.ofChange emitTokensSpec)) emitTokensCard

/-- THE TIED CARD OF 'truchmanlaw09.CleanPlain'. -/
def cleanPlainCard : Claim7 := { stood := { row := cleanPlainRow, standIns := [], harness := (true, "f530cd95f545498e1079217162ceacc12c579589fcdd7c478fda70c03005852d"), looks := true }, kinds := [], alts := [], laidByText := true, laidKinds := [.data, .sentinel, .sentinel, .pinned], laidTests := true, laidLooks := .later }
def CleanPlainCardSaid : Prop := Claim7.holds Tryd.pinned (.plain (OpenSpec.ofChange cleanPlainSpec)) cleanPlainCard

/-- THE TIED CARD OF 'truchmanlaw06.EmitBack'. -/
def emitBackCard : Claim7 := { stood := { row := emitBackRow, standIns := [], harness := (true, "f530cd95f545498e1079217162ceacc12c579589fcdd7c478fda70c03005852d"), looks := true }, kinds := [], alts := [], laidByText := true, laidKinds := [.data, .sentinel, .sentinel, .sentinel, .pinned], laidTests := true, laidLooks := .later }
def EmitBackCardSaid : Prop := Claim7.holds Tryd.pinned (.plain (OpenSpec.ofChange emitBackSpec)) emitBackCard

/-- THE TIED CARD OF 'truchmanlaw07.GramEmits'. -/
def gramEmitsCard : Claim7 := { stood := { row := gramEmitsRow, standIns := [], harness := (true, "f530cd95f545498e1079217162ceacc12c579589fcdd7c478fda70c03005852d"), looks := true }, kinds := [], alts := [], laidByText := true, laidKinds := [.data, .sentinel, .sentinel, .sentinel, .sentinel, .sentinel, .pinned], laidTests := true, laidLooks := .later }
def GramEmitsCardSaid : Prop := Claim7.holds Tryd.pinned (.plain (OpenSpec.ofChange gramEmitsSpec)) gramEmitsCard

/-- THE SECOND FORM's CARD OF 'truchmanlaw07.GramItems'. -/
def gramItemsUptoCard : Claim7 := { stood := { row := gramItemsUptoRow, standIns := [], harness := (true, "f530cd95f545498e1079217162ceacc12c579589fcdd7c478fda70c03005852d"), looks := true }, kinds := [], alts := [], laidByText := true, laidKinds := [.sentinel, .sentinel], laidTests := true, laidLooks := .later }
def GramItemsUptoCardSaid : Prop := Claim7.holds Tryd.pinned (.plain (OpenSpec.upto gramItemsSpec)) gramItemsUptoCard

/-- THE SECOND FORM's CARD OF 'truchmanlaw07.GramParses'. -/
def gramParsesUptoCard : Claim7 := { stood := { row := gramParsesUptoRow, standIns := [], harness := (true, "f530cd95f545498e1079217162ceacc12c579589fcdd7c478fda70c03005852d"), looks := true }, kinds := [], alts := [], laidByText := true, laidKinds := [.sentinel, .sentinel, .sentinel, .sentinel, .sentinel, .sentinel, .sentinel, .sentinel, .sentinel, .sentinel, .sentinel, .sentinel, .sentinel, .sentinel, .sentinel, .sentinel], laidTests := true, laidLooks := .later }
def GramParsesUptoCardSaid : Prop := Claim7.holds Tryd.pinned (.plain (OpenSpec.upto gramParsesSpec)) gramParsesUptoCard

/-- THE SECOND FORM's CARD OF 'truchmanlaw07.GramPrefix'. -/
def gramPrefixUptoCard : Claim7 := { stood := { row := gramPrefixUptoRow, standIns := [], harness := (true, "f530cd95f545498e1079217162ceacc12c579589fcdd7c478fda70c03005852d"), looks := true }, kinds := [], alts := [], laidByText := true, laidKinds := [.sentinel, .sentinel], laidTests := true, laidLooks := .later }
def GramPrefixUptoCardSaid : Prop := Claim7.holds Tryd.pinned (.plain (OpenSpec.upto gramPrefixSpec)) gramPrefixUptoCard

/-- THE SECOND FORM's CARD OF 'truchmanlaw06.EmitParts'. -/
def emitPartsUptoCard : Claim7 := { stood := { row := emitPartsUptoRow, standIns := [], harness := (true, "f530cd95f545498e1079217162ceacc12c579589fcdd7c478fda70c03005852d"), looks := true }, kinds := [], alts := [], laidByText := true, laidKinds := [.data, .sentinel, .sentinel, .sentinel, .sentinel, .sentinel, .sentinel, .sentinel, .sentinel, .sentinel, .sentinel, .sentinel, .sentinel, .sentinel, .sentinel, .sentinel, .sentinel, .pinned], laidTests := true, laidLooks := .later }
def EmitPartsUptoCardSaid : Prop := Claim7.holds Tryd.pinned (.plain (OpenSpec.upto emitPartsSpec)) emitPartsUptoCard

/-- THE SECOND FORM's CARD OF 'truchmanlaw06.EmitTokens'. -/
def emitTokensUptoCard : Claim7 := { stood := { row := emitTokensUptoRow, standIns := [], harness := (true, "f530cd95f545498e1079217162ceacc12c579589fcdd7c478fda70c03005852d"), looks := true }, kinds := [], alts := [], laidByText := true, laidKinds := [.data, .sentinel, .sentinel, .sentinel, .sentinel, .sentinel, .sentinel, .sentinel, .sentinel, .sentinel, .sentinel, .sentinel, .sentinel, .sentinel, .sentinel, .sentinel, .sentinel, .pinned], laidTests := true, laidLooks := .later }
def EmitTokensUptoCardSaid : Prop := Claim7.holds Tryd.pinned (.plain (OpenSpec.upto emitTokensSpec)) emitTokensUptoCard

/-- THE SECOND FORM's CARD OF 'truchmanlaw09.CleanPlain'. -/
def cleanPlainUptoCard : Claim7 := { stood := { row := cleanPlainUptoRow, standIns := [], harness := (true, "f530cd95f545498e1079217162ceacc12c579589fcdd7c478fda70c03005852d"), looks := true }, kinds := [], alts := [], laidByText := true, laidKinds := [.data, .sentinel, .sentinel, .pinned], laidTests := true, laidLooks := .later }
def CleanPlainUptoCardSaid : Prop := Claim7.holds Tryd.pinned (.plain (OpenSpec.upto cleanPlainSpec)) cleanPlainUptoCard

/-- THE SECOND FORM's CARD OF 'truchmanlaw06.EmitBack'. -/
def emitBackUptoCard : Claim7 := { stood := { row := emitBackUptoRow, standIns := [], harness := (true, "f530cd95f545498e1079217162ceacc12c579589fcdd7c478fda70c03005852d"), looks := true }, kinds := [], alts := [], laidByText := true, laidKinds := [.data, .sentinel, .sentinel, .sentinel, .pinned], laidTests := true, laidLooks := .later }
def EmitBackUptoCardSaid : Prop := Claim7.holds Tryd.pinned (.plain (OpenSpec.upto emitBackSpec)) emitBackUptoCard

/-- THE SECOND FORM's CARD OF 'truchmanlaw07.GramEmits'. -/
def gramEmitsUptoCard : Claim7 := { stood := { row := gramEmitsUptoRow, standIns := [], harness := (true, "f530cd95f545498e1079217162ceacc12c579589fcdd7c478fda70c03005852d"), looks := true }, kinds := [], alts := [], laidByText := true, laidKinds := [.data, .sentinel, .sentinel, .sentinel, .sentinel, .sentinel, .pinned], laidTests := true, laidLooks := .later }
def GramEmitsUptoCardSaid : Prop := Claim7.holds Tryd.pinned (.plain (OpenSpec.upto gramEmitsSpec)) gramEmitsUptoCard
end Rows
end Go.Proofs.YtcphocfnhekdaaaDoor
