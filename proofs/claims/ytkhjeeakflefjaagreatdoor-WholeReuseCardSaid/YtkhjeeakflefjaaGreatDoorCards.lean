/-
  DERIVED. GIVEN WITH THE SEED: THE CARDS: each row of YtkhjeeakflefjaaGreatDoorRows.lean that lists a variable, with what it lists TIED to the program's text (the seventh form; the later family's looks); each row that meets fmt, with fmt's text TOLD by the authors' own Lean function (tested against real Go, not proved from fmt's source: count such statements apart). THE CARD IS WHAT COUNTS. Prove the row's statement (the work); the ties are given (YtkhjeeakflefjaaGreatDoorTie.lean); close each card by the builder's one call (the guide's Derived/Test/ToyasCard.lean, 'card_holds'). Laid BY PROGRAM, IN A SANDBOX (cutbox-door.mjs). By AI agents, Wed Nov 11 2026. No macro, syntax, notation, axiom, sorry.
-/
import Derived.Test.YtkhjeeakflefjaaGreatDoorRows
import GoSem.ClaimSeven
namespace Go.Proofs.YtkhjeeakflefjaaGreatDoor
namespace Rows

/-- THE TIED CARD OF 'calquetop.WholeReuse'. -/
def wholeReuseCard : Claim7 := { stood := { row := wholeReuseRow, standIns := [], harness := (true, "d74446831eb3132b65e9e3a357ee6a5480d811b553b90d6e79592a5bc8e40e6c"), looks := false }, kinds := [], alts := [], laidByText := true, laidKinds := [.data, .pinned], laidTests := true, laidLooks := .later }
def WholeReuseCardSaid : Prop := Claim7.holds Tryz.pinned (.plain (OpenSpec.ofChange wholeReuseSpec)) wholeReuseCard

/-- THE SECOND FORM's CARD OF 'calquetop.WholeReuse'. -/
def wholeReuseUptoCard : Claim7 := { stood := { row := wholeReuseUptoRow, standIns := [], harness := (true, "d74446831eb3132b65e9e3a357ee6a5480d811b553b90d6e79592a5bc8e40e6c"), looks := false }, kinds := [], alts := [], laidByText := true, laidKinds := [.data, .pinned], laidTests := true, laidLooks := .later }
def WholeReuseUptoCardSaid : Prop := Claim7.holds Tryz.pinned (.plain (OpenSpec.upto wholeReuseSpec)) wholeReuseUptoCard
end Rows
end Go.Proofs.YtkhjeeakflefjaaGreatDoor
