/-
  DERIVED. GIVEN WITH THE SEED: THE CARDS: each row of YtidfofhmnlhfjaaDoorRows.lean that lists a variable, with what it lists TIED to the program's text (the seventh form; the later family's looks); each row that meets fmt, with fmt's text TOLD by the authors' own Lean function (tested against real Go, not proved from fmt's source: count such statements apart). THE CARD IS WHAT COUNTS. Prove the row's statement (the work); the ties are given (YtidfofhmnlhfjaaDoorTie.lean); close each card by the builder's one call (the guide's Derived/Test/ToyasCard.lean, 'card_holds'). Laid BY PROGRAM, IN A SANDBOX (cutbox-door.mjs). By AI agents, Wed Nov 11 2026. No macro, syntax, notation, axiom, sorry.
-/
import Derived.Test.YtidfofhmnlhfjaaDoorRows
import GoSem.ClaimSeven
namespace Go.Proofs.YtidfofhmnlhfjaaDoor
namespace Rows

/-- THE TIED CARD OF 'calquelaw10.DecideSets'. -/
def decideSetsCard : Claim7 := { stood := { row := decideSetsRow, standIns := [], harness := (true, "326c36170de4c7b79dd0bb2b1904df6e6f636eb6f1341b75d44a9577a5e92af7"), looks := false }, kinds := [], alts := [], laidByText := true, laidKinds := [.data, .data, .data], laidTests := true, laidLooks := .later }
def DecideSetsCardSaid : Prop := Claim7.holds Tryd.pinned (.plain (OpenSpec.ofChange decideSetsSpec)) decideSetsCard

/-- THE SECOND FORM's CARD OF 'calquelaw10.DecideSets'. -/
def decideSetsUptoCard : Claim7 := { stood := { row := decideSetsUptoRow, standIns := [], harness := (true, "326c36170de4c7b79dd0bb2b1904df6e6f636eb6f1341b75d44a9577a5e92af7"), looks := false }, kinds := [], alts := [], laidByText := true, laidKinds := [.data, .data, .data], laidTests := true, laidLooks := .later }
def DecideSetsUptoCardSaid : Prop := Claim7.holds Tryd.pinned (.plain (OpenSpec.upto decideSetsSpec)) decideSetsUptoCard
end Rows
end Go.Proofs.YtidfofhmnlhfjaaDoor
