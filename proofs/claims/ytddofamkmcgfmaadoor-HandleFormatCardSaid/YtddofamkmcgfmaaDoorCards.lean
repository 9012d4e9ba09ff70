/-
  DERIVED. GIVEN WITH THE SEED: THE CARDS: each row of YtddofamkmcgfmaaDoorRows.lean that lists a variable, with what it lists TIED to the program's text (the seventh form; the later family's looks); each row that meets fmt, with fmt's text TOLD by the authors' own Lean function (tested against real Go, not proved from fmt's source: count such statements apart). THE CARD IS WHAT COUNTS. Prove the row's statement (the work); the ties are given (YtddofamkmcgfmaaDoorTie.lean); close each card by the builder's one call (the guide's Derived/Test/ToyasCard.lean, 'card_holds'). Laid BY PROGRAM, IN A SANDBOX (cutbox-door.mjs). By AI agents, Wed Nov 11 2026. No macro, syntax, notation, axiom, sorry.
-/
import Derived.Test.YtddofamkmcgfmaaDoorRows
import GoSem.ClaimSeven
namespace Go.Proofs.YtddofamkmcgfmaaDoor
namespace Rows

/-- THE TIED CARD OF 'pluginhostlaw1.HandlePack'. -/
def handlePackCard : Claim7 := { stood := { row := handlePackRow, standIns := [], harness := (true, "43e0c4570bae6b14a56ed13291d4930c535faf6f851a62daf974974e96d08083"), looks := true }, kinds := [], alts := [], laidByText := true, laidKinds := [.data, .data, .data], laidTests := true, laidLooks := .later }
def HandlePackCardSaid : Prop := Claim7.holds Tryd.pinned (.plain (OpenSpec.ofChange handlePackSpec)) handlePackCard

/-- THE TIED CARD OF 'pluginhostlaw1.HandleApart'. -/
def handleApartCard : Claim7 := { stood := { row := handleApartRow, standIns := [], harness := (true, "43e0c4570bae6b14a56ed13291d4930c535faf6f851a62daf974974e96d08083"), looks := true }, kinds := [], alts := [], laidByText := true, laidKinds := [.data, .data, .data], laidTests := true, laidLooks := .later }
def HandleApartCardSaid : Prop := Claim7.holds Tryd.pinned (.plain (OpenSpec.ofChange handleApartSpec)) handleApartCard

/-- THE TIED CARD OF 'pluginhostlaw1.HandleParts'. -/
def handlePartsCard : Claim7 := { stood := { row := handlePartsRow, standIns := [], harness := (true, "43e0c4570bae6b14a56ed13291d4930c535faf6f851a62daf974974e96d08083"), looks := true }, kinds := [], alts := [], laidByText := true, laidKinds := [.data, .data, .data], laidTests := true, laidLooks := .later }
def HandlePartsCardSaid : Prop := Claim7.holds Tryd.pinned (.plain (OpenSpec.ofChange handlePartsSpec)) handlePartsCard

/-- THE TIED CARD OF 'pluginhostlaw1.HandleBack'. -/
def handleBackCard : Claim7 := { stood := { row := handleBackRow, standIns := [], harness := (true, "43e0c4570bae6b14a56ed13291d4930c535faf6f851a62daf974974e96d08083"), looks := true }, kinds := [], alts := [], laidByText := true, laidKinds := [.data, .data, .data], laidTests := true, laidLooks := .later }
def HandleBackCardSaid : Prop := Claim7.holds Tryd.pinned (.plain (OpenSpec.ofChange handleBackSpec)) handleBackCard

/-- THE TIED CARD OF 'pluginhostlaw1.HandleFormat'. -/
def handleFormatCard : Claim7 := { stood := { row := handleFormatRow, standIns := [], harness := (true, "43e0c4570bae6b14a56ed13291d4930c535faf6f851a62daf974974e96d08083"), looks := true }, kinds := [], alts := [], laidByText := true, laidKinds := [.data, .data, .data, .data, .sentinel, .sentinel, .pinned], laidTests := true, laidLooks := .later }
def HandleFormatCardSaid : Prop := Claim7.holds Tryd.pinned (.plain (OpenSpec.ofChange handleFormatSpec)) handleFormatCard

/-- THE TIED CARD OF 'pluginhostlaw1.HandleParse'. -/
def handleParseCard : Claim7 := { stood := { row := handleParseRow, standIns := [], harness := (true, "43e0c4570bae6b14a56ed13291d4930c535faf6f851a62daf974974e96d08083"), looks := true }, kinds := [], alts := [], laidByText := true, laidKinds := [.data, .data, .data, .data, .sentinel, .sentinel, .pinned], laidTests := true, laidLooks := .later }
def HandleParseCardSaid : Prop := Claim7.holds Tryd.pinned (.plain (OpenSpec.ofChange handleParseSpec)) handleParseCard

/-- THE SECOND FORM's CARD OF 'pluginhostlaw1.HandlePack'. -/
def handlePackUptoCard : Claim7 := { stood := { row := handlePackUptoRow, standIns := [], harness := (true, "43e0c4570bae6b14a56ed13291d4930c535faf6f851a62daf974974e96d08083"), looks := true }, kinds := [], alts := [], laidByText := true, laidKinds := [.data, .data, .data], laidTests := true, laidLooks := .later }
def HandlePackUptoCardSaid : Prop := Claim7.holds Tryd.pinned (.plain (OpenSpec.upto handlePackSpec)) handlePackUptoCard

/-- THE SECOND FORM's CARD OF 'pluginhostlaw1.HandleApart'. -/
def handleApartUptoCard : Claim7 := { stood := { row := handleApartUptoRow, standIns := [], harness := (true, "43e0c4570bae6b14a56ed13291d4930c535faf6f851a62daf974974e96d08083"), looks := true }, kinds := [], alts := [], laidByText := true, laidKinds := [.data, .data, .data], laidTests := true, laidLooks := .later }
def HandleApartUptoCardSaid : Prop := Claim7.holds Tryd.pinned (.plain (OpenSpec.upto handleApartSpec)) handleApartUptoCard

/-- THE SECOND FORM's CARD OF 'pluginhostlaw1.HandleParts'. -/
def handlePartsUptoCard : Claim7 := { stood := { row := handlePartsUptoRow, standIns := [], harness := (true, "43e0c4570bae6b14a56ed13291d4930c535faf6f851a62daf974974e96d08083"), looks := true }, kinds := [], alts := [], laidByText := true, laidKinds := [.data, .data, .data], laidTests := true, laidLooks := .later }
def HandlePartsUptoCardSaid : Prop := Claim7.holds Tryd.pinned (.plain (OpenSpec.upto handlePartsSpec)) handlePartsUptoCard

/-- THE SECOND FORM's CARD OF 'pluginhostlaw1.HandleBack'. -/
def handleBackUptoCard : Claim7 := { stood := { row := handleBackUptoRow, standIns := [], harness := (true, "43e0c4570bae6b14a56ed13291d4930c535faf6f851a62daf974974e96d08083"), looks := true }, kinds := [], alts := [], laidByText := true, laidKinds := [.data, .data, .data], laidTests := true, laidLooks := .later }
def HandleBackUptoCardSaid : Prop := Claim7.holds Tryd.pinned (.plain (OpenSpec.upto handleBackSpec)) handleBackUptoCard

/-- THE SECOND FORM's CARD OF 'pluginhostlaw1.HandleFormat'. -/
def handleFormatUptoCard : Claim7 := { stood := { row := handleFormatUptoRow, standIns := [], harness := (true, "43e0c4570bae6b14a56ed13291d4930c535faf6f851a62daf974974e96d08083"), looks := true }, kinds := [], alts := [], laidByText := true, laidKinds := [.data, .data, .data, .data, .sentinel, .sentinel, .pinned], laidTests := true, laidLooks := .later }
def HandleFormatUptoCardSaid : Prop := Claim7.holds Tryd.pinned (.plain (OpenSpec.upto handleFormatSpec)) handleFormatUptoCard

/-- THE SECOND FORM's CARD OF 'pluginhostlaw1.HandleParse'. -/
def handleParseUptoCard : Claim7 := { stood := { row := handleParseUptoRow, standIns := [], harness := (true, "43e0c4570bae6b14a56ed13291d4930c535faf6f851a62daf974974e96d08083"), looks := true }, kinds := [], alts := [], laidByText := true, laidKinds := [.data, .data, .data, .data, .sentinel, .sentinel, .pinned], laidTests := true, laidLooks := .later }
def HandleParseUptoCardSaid : Prop := Claim7.holds Tryd.pinned (.plain (OpenSpec.upto handleParseSpec)) handleParseUptoCard
end Rows
end Go.Proofs.YtddofamkmcgfmaaDoor
