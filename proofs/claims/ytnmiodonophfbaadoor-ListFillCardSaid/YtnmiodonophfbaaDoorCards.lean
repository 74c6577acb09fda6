/-
  DERIVED. GIVEN WITH THE SEED: THE CARDS: each row of YtnmiodonophfbaaDoorRows.lean that lists a variable, with what it lists TIED to the program's text (the seventh form; the later family's looks); each row that meets fmt, with fmt's text TOLD by the authors' own Lean function (tested against real Go, not proved from fmt's source: count such statements apart). THE CARD IS WHAT COUNTS. Prove the row's statement (the work); the ties are given (YtnmiodonophfbaaDoorTie.lean); close each card by the builder's one call (the guide's Derived/Test/ToyasCard.lean, 'card_holds'). Laid BY PROGRAM, IN A SANDBOX (cutbox-door.mjs). By AI agents, Wed Nov 11 2026. No macro, syntax, notation, axiom, sorry.
-/
import Derived.Test.YtnmiodonophfbaaDoorRows
import GoSem.ClaimSeven
namespace Go.Proofs.YtnmiodonophfbaaDoor
namespace Rows

/-- THE TIED CARD OF 'calquelaw16.ListJoin'. -/
def listJoinCard : Claim7 := { stood := { row := listJoinRow, standIns := [], harness := (true, "520dcfe5780b28d6ddb0831b9d6c43d554bc9a2528e96cb014f4329d10b86894"), looks := false }, kinds := [], alts := [], laidByText := true, laidKinds := [.data, .data, .data, .data, .pinned], laidTests := true, laidLooks := .later }
def ListJoinCardSaid : Prop := Claim7.holds Tryd.pinned (.plain (OpenSpec.ofChange listJoinSpec)) listJoinCard

/-- THE TIED CARD OF 'calquelaw16.ListElements'. -/
def listElementsCard : Claim7 := { stood := { row := listElementsRow, standIns := [], harness := (true, "520dcfe5780b28d6ddb0831b9d6c43d554bc9a2528e96cb014f4329d10b86894"), looks := false }, kinds := [], alts := [], laidByText := true, laidKinds := [.data, .data, .data, .data, .pinned], laidTests := true, laidLooks := .later }
def ListElementsCardSaid : Prop := Claim7.holds Tryd.pinned (.plain (OpenSpec.ofChange listElementsSpec)) listElementsCard

/-- THE TIED CARD OF 'calquelaw16.ListSame'. -/
def listSameCard : Claim7 := { stood := { row := listSameRow, standIns := [], harness := (true, "520dcfe5780b28d6ddb0831b9d6c43d554bc9a2528e96cb014f4329d10b86894"), looks := false }, kinds := [], alts := [], laidByText := true, laidKinds := [.data, .data, .data, .data, .pinned], laidTests := true, laidLooks := .later }
def ListSameCardSaid : Prop := Claim7.holds Tryd.pinned (.plain (OpenSpec.ofChange listSameSpec)) listSameCard

/-- THE TIED CARD OF 'calquelaw16.ListFill'. -/
def listFillCard : Claim7 := { stood := { row := listFillRow, standIns := [], harness := (true, "520dcfe5780b28d6ddb0831b9d6c43d554bc9a2528e96cb014f4329d10b86894"), looks := false }, kinds := [], alts := [], laidByText := true, laidKinds := [.data, .data, .data, .data, .pinned], laidTests := true, laidLooks := .later }
def ListFillCardSaid : Prop := Claim7.holds Tryd.pinned (.plain (OpenSpec.ofChange listFillSpec)) listFillCard

/-- THE TIED CARD OF 'calquelaw16.ListSteps'. -/
def listStepsCard : Claim7 := { stood := { row := listStepsRow, standIns := [], harness := (true, "520dcfe5780b28d6ddb0831b9d6c43d554bc9a2528e96cb014f4329d10b86894"), looks := false }, kinds := [], alts := [], laidByText := true, laidKinds := [.data, .data, .data, .data, .pinned], laidTests := true, laidLooks := .later }
def ListStepsCardSaid : Prop := Claim7.holds Tryd.pinned (.plain (OpenSpec.ofChange listStepsSpec)) listStepsCard

/-- THE SECOND FORM's CARD OF 'calquelaw16.ListJoin'. -/
def listJoinUptoCard : Claim7 := { stood := { row := listJoinUptoRow, standIns := [], harness := (true, "520dcfe5780b28d6ddb0831b9d6c43d554bc9a2528e96cb014f4329d10b86894"), looks := false }, kinds := [], alts := [], laidByText := true, laidKinds := [.data, .data, .data, .data, .pinned], laidTests := true, laidLooks := .later }
def ListJoinUptoCardSaid : Prop := Claim7.holds Tryd.pinned (.plain (OpenSpec.upto listJoinSpec)) listJoinUptoCard

/-- THE SECOND FORM's CARD OF 'calquelaw16.ListElements'. -/
def listElementsUptoCard : Claim7 := { stood := { row := listElementsUptoRow, standIns := [], harness := (true, "520dcfe5780b28d6ddb0831b9d6c43d554bc9a2528e96cb014f4329d10b86894"), looks := false }, kinds := [], alts := [], laidByText := true, laidKinds := [.data, .data, .data, .data, .pinned], laidTests := true, laidLooks := .later }
def ListElementsUptoCardSaid : Prop := Claim7.holds Tryd.pinned (.plain (OpenSpec.upto listElementsSpec)) listElementsUptoCard

/-- THE SECOND FORM's CARD OF 'calquelaw16.ListSame'. -/
def listSameUptoCard : Claim7 := { stood := { row := listSameUptoRow, standIns := [], harness := (true, "520dcfe5780b28d6ddb0831b9d6c43d554bc9a2528e96cb014f4329d10b86894"), looks := false }, kinds := [], alts := [], laidByText := true, laidKinds := [.data, .data, .data, .data, .pinned], laidTests := true, laidLooks := .later }
def ListSameUptoCardSaid : Prop := Claim7.holds Tryd.pinned (.plain (OpenSpec.upto listSameSpec)) listSameUptoCard

/-- THE SECOND FORM's CARD OF 'calquelaw16.ListFill'. -/
def listFillUptoCard : Claim7 := { stood := { row := listFillUptoRow, standIns := [], harness := (true, "520dcfe5780b28d6ddb0831b9d6c43d554bc9a2528e96cb014f4329d10b86894"), looks := false }, kinds := [], alts := [], laidByText := true, laidKinds := [.data, .data, .data, .data, .pinned], laidTests := true, laidLooks := .later }
def ListFillUptoCardSaid : Prop := Claim7.holds Tryd.pinned (.plain (OpenSpec.upto listFillSpec)) listFillUptoCard

/-- THE SECOND FORM's CARD OF 'calquelaw16.ListSteps'. -/
def listStepsUptoCard : Claim7 := { stood := { row := listStepsUptoRow, standIns := [], harness := (true, "520dcfe5780b28d6ddb0831b9d6c43d554bc9a2528e96cb014f4329d10b86894"), looks := false }, kinds := [], alts := [], laidByText := true, laidKinds := [.data, .data, .data, .data, .pinned], laidTests := true, laidLooks := .later }
def ListStepsUptoCardSaid : Prop := Claim7.holds Tryd.pinned (.plain (OpenSpec.upto listStepsSpec)) listStepsUptoCard
end Rows
end Go.Proofs.YtnmiodonophfbaaDoor
