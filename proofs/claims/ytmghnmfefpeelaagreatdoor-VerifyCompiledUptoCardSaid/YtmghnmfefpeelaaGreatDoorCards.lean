/-
  DERIVED. GIVEN WITH THE SEED: THE CARDS: each row of YtmghnmfefpeelaaGreatDoorRows.lean that lists a variable, with what it lists TIED to the program's text (the seventh form; the later family's looks); each row that meets fmt, with fmt's text TOLD by the authors' own Lean function (tested against real Go, not proved from fmt's source: count such statements apart). THE CARD IS WHAT COUNTS. Prove the row's statement (the work); the ties are given (YtmghnmfefpeelaaGreatDoorTie.lean); close each card by the builder's one call (the guide's Derived/Test/ToyasCard.lean, 'card_holds'). Laid BY PROGRAM, IN A SANDBOX (cutbox-door.mjs). By AI agents, Wed Nov 11 2026. No macro, syntax, notation, axiom, sorry.
-/
import Derived.Test.YtmghnmfefpeelaaGreatDoorRows
import GoSem.ClaimSeven
namespace Go.Proofs.YtmghnmfefpeelaaGreatDoor
namespace Rows

/-- THE TIED CARD OF 'calquelaw34.VerifyCompiled'. -/
def verifyCompiledCard : Claim7 := { stood := { row := verifyCompiledRow, standIns := [], harness := (true, "c268f859d70b50a69abd168775085f8a3e8911110b3f75888d697c0c13b868b9"), looks := false }, kinds := [], alts := [], laidByText := true, laidKinds := [.data, .pinned], laidTests := true, laidLooks := .later }
def VerifyCompiledCardSaid : Prop := Claim7.holds Tryz.pinned (.plain (OpenSpec.ofChange verifyCompiledSpec)) verifyCompiledCard

/-- THE SECOND FORM's CARD OF 'calquelaw34.VerifyCompiled'. -/
def verifyCompiledUptoCard : Claim7 := { stood := { row := verifyCompiledUptoRow, standIns := [], harness := (true, "c268f859d70b50a69abd168775085f8a3e8911110b3f75888d697c0c13b868b9"), looks := false }, kinds := [], alts := [], laidByText := true, laidKinds := [.data, .pinned], laidTests := true, laidLooks := .later }
def VerifyCompiledUptoCardSaid : Prop := Claim7.holds Tryz.pinned (.plain (OpenSpec.upto verifyCompiledSpec)) verifyCompiledUptoCard
end Rows
end Go.Proofs.YtmghnmfefpeelaaGreatDoor
