/-
  DERIVED. GIVEN WITH THE SEED: THE CARDS: each row of YtllfckekodcdaaaGreatDoorRows.lean that lists a variable, with what it lists TIED to the program's text (the seventh form; the later family's looks); each row that meets fmt, with fmt's text TOLD by the authors' own Lean function (tested against real Go, not proved from fmt's source: count such statements apart). THE CARD IS WHAT COUNTS. Prove the row's statement (the work); the ties are given (YtllfckekodcdaaaGreatDoorTie.lean); close each card by the builder's one call (the guide's Derived/Test/ToyasCard.lean, 'card_holds'). Laid BY PROGRAM, IN A SANDBOX (cutbox-door.mjs). By AI agents, Wed Nov 11 2026. No macro, syntax, notation, axiom, sorry.
-/
import Derived.Test.YtllfckekodcdaaaGreatDoorRows
import GoSem.ClaimSeven
namespace Go.Proofs.YtllfckekodcdaaaGreatDoor
namespace Rows

/-- THE TIED CARD OF 'calquelaw45.ExtractLiterals'. -/
def extractLiteralsCard : Claim7 := { stood := { row := extractLiteralsRow, standIns := [], harness := (true, "e41d8787e74db97e4c01b0006a6740286e1baea1c5dbefd0607aae296ef58d28"), looks := false }, kinds := [], alts := [], laidByText := true, laidKinds := [.data, .data, .data, .data, .pinned], laidTests := true, laidLooks := .later }
def ExtractLiteralsCardSaid : Prop := Claim7.holds Tryz.pinned (.plain (OpenSpec.ofChange extractLiteralsSpec)) extractLiteralsCard

/-- THE TIED CARD OF 'calquelaw45.ExtractParts'. -/
def extractPartsCard : Claim7 := { stood := { row := extractPartsRow, standIns := [], harness := (true, "e41d8787e74db97e4c01b0006a6740286e1baea1c5dbefd0607aae296ef58d28"), looks := false }, kinds := [], alts := [], laidByText := true, laidKinds := [.data, .data, .data, .data, .pinned], laidTests := true, laidLooks := .later }
def ExtractPartsCardSaid : Prop := Claim7.holds Tryz.pinned (.plain (OpenSpec.ofChange extractPartsSpec)) extractPartsCard

/-- THE TIED CARD OF 'calquelaw45.ExtractTwice'. -/
def extractTwiceCard : Claim7 := { stood := { row := extractTwiceRow, standIns := [], harness := (true, "e41d8787e74db97e4c01b0006a6740286e1baea1c5dbefd0607aae296ef58d28"), looks := false }, kinds := [], alts := [], laidByText := true, laidKinds := [.data, .data, .data, .data, .pinned], laidTests := true, laidLooks := .later }
def ExtractTwiceCardSaid : Prop := Claim7.holds Tryz.pinned (.plain (OpenSpec.ofChange extractTwiceSpec)) extractTwiceCard

/-- THE TIED CARD OF 'calquelaw45.ExtractOther'. -/
def extractOtherCard : Claim7 := { stood := { row := extractOtherRow, standIns := [], harness := (true, "e41d8787e74db97e4c01b0006a6740286e1baea1c5dbefd0607aae296ef58d28"), looks := false }, kinds := [], alts := [], laidByText := true, laidKinds := [.data, .data, .data, .data, .pinned], laidTests := true, laidLooks := .later }
def ExtractOtherCardSaid : Prop := Claim7.holds Tryz.pinned (.plain (OpenSpec.ofChange extractOtherSpec)) extractOtherCard

/-- THE TIED CARD OF 'calquelaw45.ExtractNumbers'. -/
def extractNumbersCard : Claim7 := { stood := { row := extractNumbersRow, standIns := [], harness := (true, "e41d8787e74db97e4c01b0006a6740286e1baea1c5dbefd0607aae296ef58d28"), looks := false }, kinds := [], alts := [], laidByText := true, laidKinds := [.data, .data, .data, .data, .pinned], laidTests := true, laidLooks := .later }
def ExtractNumbersCardSaid : Prop := Claim7.holds Tryz.pinned (.plain (OpenSpec.ofChange extractNumbersSpec)) extractNumbersCard

/-- THE SECOND FORM's CARD OF 'calquelaw45.ExtractLiterals'. -/
def extractLiteralsUptoCard : Claim7 := { stood := { row := extractLiteralsUptoRow, standIns := [], harness := (true, "e41d8787e74db97e4c01b0006a6740286e1baea1c5dbefd0607aae296ef58d28"), looks := false }, kinds := [], alts := [], laidByText := true, laidKinds := [.data, .data, .data, .data, .pinned], laidTests := true, laidLooks := .later }
def ExtractLiteralsUptoCardSaid : Prop := Claim7.holds Tryz.pinned (.plain (OpenSpec.upto extractLiteralsSpec)) extractLiteralsUptoCard

/-- THE SECOND FORM's CARD OF 'calquelaw45.ExtractParts'. -/
def extractPartsUptoCard : Claim7 := { stood := { row := extractPartsUptoRow, standIns := [], harness := (true, "e41d8787e74db97e4c01b0006a6740286e1baea1c5dbefd0607aae296ef58d28"), looks := false }, kinds := [], alts := [], laidByText := true, laidKinds := [.data, .data, .data, .data, .pinned], laidTests := true, laidLooks := .later }
def ExtractPartsUptoCardSaid : Prop := Claim7.holds Tryz.pinned (.plain (OpenSpec.upto extractPartsSpec)) extractPartsUptoCard

/-- THE SECOND FORM's CARD OF 'calquelaw45.ExtractTwice'. -/
def extractTwiceUptoCard : Claim7 := { stood := { row := extractTwiceUptoRow, standIns := [], harness := (true, "e41d8787e74db97e4c01b0006a6740286e1baea1c5dbefd0607aae296ef58d28"), looks := false }, kinds := [], alts := [], laidByText := true, laidKinds := [.data, .data, .data, .data, .pinned], laidTests := true, laidLooks := .later }
def ExtractTwiceUptoCardSaid : Prop := Claim7.holds Tryz.pinned (.plain (OpenSpec.upto extractTwiceSpec)) extractTwiceUptoCard

/-- THE SECOND FORM's CARD OF 'calquelaw45.ExtractOther'. -/
def extractOtherUptoCard : Claim7 := { stood := { row := extractOtherUptoRow, standIns := [], harness := (true, "e41d8787e74db97e4c01b0006a6740286e1baea1c5dbefd0607aae296ef58d28"), looks := false }, kinds := [], alts := [], laidByText := true, laidKinds := [.data, .data, .data, .data, .pinned], laidTests := true, laidLooks := .later }
def ExtractOtherUptoCardSaid : Prop := Claim7.holds Tryz.pinned (.plain (OpenSpec.upto extractOtherSpec)) extractOtherUptoCard

/-- THE SECOND FORM's CARD OF 'calquelaw45.ExtractNumbers'. -/
def extractNumbersUptoCard : Claim7 := { stood := { row := extractNumbersUptoRow, standIns := [], harness := (true, "e41d8787e74db97e4c01b0006a6740286e1baea1c5dbefd0607aae296ef58d28"), looks := false }, kinds := [], alts := [], laidByText := true, laidKinds := [.data, .data, .data, .data, .pinned], laidTests := true, laidLooks := .later }
def ExtractNumbersUptoCardSaid : Prop := Claim7.holds Tryz.pinned (.plain (OpenSpec.upto extractNumbersSpec)) extractNumbersUptoCard
end Rows
end Go.Proofs.YtllfckekodcdaaaGreatDoor
