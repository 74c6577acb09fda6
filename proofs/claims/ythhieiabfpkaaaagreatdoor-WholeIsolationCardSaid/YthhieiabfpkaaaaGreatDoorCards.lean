/-
  DERIVED. GIVEN WITH THE SEED: THE CARDS: each row of YthhieiabfpkaaaaGreatDoorRows.lean that lists a variable, with what it lists TIED to the program's text (the seventh form; the later family's looks); each row that meets fmt, with fmt's text TOLD by the authors' own Lean function (tested against real Go, not proved from fmt's source: count such statements apart). THE CARD IS WHAT COUNTS. Prove the row's statement (the work); the ties are given (YthhieiabfpkaaaaGreatDoorTie.lean); close each card by the builder's one call (the guide's Derived/Test/ToyasCard.lean, 'card_holds'). Laid BY PROGRAM, IN A SANDBOX (cutbox-door.mjs). By AI agents, Wed Nov 11 2026. No macro, syntax, notation, axiom, sorry.
-/
import Derived.Test.YthhieiabfpkaaaaGreatDoorRows
import GoSem.ClaimSeven
namespace Go.Proofs.YthhieiabfpkaaaaGreatDoor
namespace Rows

/-- THE TIED CARD OF 'calquetop.WholeIsolation'. -/
def wholeIsolationCard : Claim7 := { stood := { row := wholeIsolationRow, standIns := [], harness := (true, "2f185e0a863ef723f7bfc4460bb5d7de099e2a4e9012692bf3dbf95088192b27"), looks := true }, kinds := [], alts := [], laidByText := true, laidKinds := [.data, .data, .data, .data, .sentinel, .sentinel, .pinned], laidTests := true, laidLooks := .later }
def WholeIsolationCardSaid : Prop := Claim7.holds Tryz.pinned (.plain (OpenSpec.ofChange wholeIsolationSpec)) wholeIsolationCard

/-- THE SECOND FORM's CARD OF 'calquetop.WholeIsolation'. -/
def wholeIsolationUptoCard : Claim7 := { stood := { row := wholeIsolationUptoRow, standIns := [], harness := (true, "2f185e0a863ef723f7bfc4460bb5d7de099e2a4e9012692bf3dbf95088192b27"), looks := true }, kinds := [], alts := [], laidByText := true, laidKinds := [.data, .data, .data, .data, .sentinel, .sentinel, .pinned], laidTests := true, laidLooks := .later }
def WholeIsolationUptoCardSaid : Prop := Claim7.holds Tryz.pinned (.plain (OpenSpec.upto wholeIsolationSpec)) wholeIsolationUptoCard
end Rows
end Go.Proofs.YthhieiabfpkaaaaGreatDoor
