/-
  DERIVED. GIVEN WITH THE SEED: THE CARDS: each row of YtllnjbnknjpbjaaGreatDoorRows.lean that lists a variable, with what it lists TIED to the program's text (the seventh form; the later family's looks); each row that meets fmt, with fmt's text TOLD by the authors' own Lean function (tested against real Go, not proved from fmt's source: count such statements apart). THE CARD IS WHAT COUNTS. Prove the row's statement (the work); the ties are given (YtllnjbnknjpbjaaGreatDoorTie.lean); close each card by the builder's one call (the guide's Derived/Test/ToyasCard.lean, 'card_holds'). Laid BY PROGRAM, IN A SANDBOX (cutbox-door.mjs). By AI agents, Wed Nov 11 2026. No macro, syntax, notation, axiom, sorry.
-/
import Derived.Test.YtllnjbnknjpbjaaGreatDoorRows
import GoSem.ClaimSeven
namespace Go.Proofs.YtllnjbnknjpbjaaGreatDoor
namespace Rows

/-- THE TIED CARD OF 'calquelaw33.CompileCode'. -/
def compileCodeCard : Claim7 := { stood := { row := compileCodeRow, standIns := [], harness := (true, "cd4754380206506a70dd36d633d109d5e8045f059cbd1434efc2c0c46820c32e"), looks := true }, kinds := [], alts := [], laidByText := true, laidKinds := [.data, .data, .data, .data, .pinned], laidTests := true, laidLooks := .later }
def CompileCodeCardSaid : Prop := Claim7.holds Tryz.pinned (.plain (OpenSpec.ofChange compileCodeSpec)) compileCodeCard

/-- THE TIED CARD OF 'calquelaw33.CompileTexts'. -/
def compileTextsCard : Claim7 := { stood := { row := compileTextsRow, standIns := [], harness := (true, "cd4754380206506a70dd36d633d109d5e8045f059cbd1434efc2c0c46820c32e"), looks := true }, kinds := [], alts := [], laidByText := true, laidKinds := [.data, .data, .data, .data, .pinned], laidTests := true, laidLooks := .later }
def CompileTextsCardSaid : Prop := Claim7.holds Tryz.pinned (.plain (OpenSpec.ofChange compileTextsSpec)) compileTextsCard

/-- THE TIED CARD OF 'calquelaw33.CompileLengths'. -/
def compileLengthsCard : Claim7 := { stood := { row := compileLengthsRow, standIns := [], harness := (true, "cd4754380206506a70dd36d633d109d5e8045f059cbd1434efc2c0c46820c32e"), looks := true }, kinds := [], alts := [], laidByText := true, laidKinds := [.data, .data, .data, .data, .pinned], laidTests := true, laidLooks := .later }
def CompileLengthsCardSaid : Prop := Claim7.holds Tryz.pinned (.plain (OpenSpec.ofChange compileLengthsSpec)) compileLengthsCard

/-- THE TIED CARD OF 'calquelaw33.CompileOne'. -/
def compileOneCard : Claim7 := { stood := { row := compileOneRow, standIns := [], harness := (true, "cd4754380206506a70dd36d633d109d5e8045f059cbd1434efc2c0c46820c32e"), looks := true }, kinds := [], alts := [], laidByText := true, laidKinds := [.data, .data, .data, .data, .pinned], laidTests := true, laidLooks := .later }
def CompileOneCardSaid : Prop := Claim7.holds Tryz.pinned (.plain (OpenSpec.ofChange compileOneSpec)) compileOneCard

/-- THE TIED CARD OF 'calquelaw33.CompileForward'. -/
def compileForwardCard : Claim7 := { stood := { row := compileForwardRow, standIns := [], harness := (true, "cd4754380206506a70dd36d633d109d5e8045f059cbd1434efc2c0c46820c32e"), looks := true }, kinds := [], alts := [], laidByText := true, laidKinds := [.data, .data, .data, .data, .pinned], laidTests := true, laidLooks := .later }
def CompileForwardCardSaid : Prop := Claim7.holds Tryz.pinned (.plain (OpenSpec.ofChange compileForwardSpec)) compileForwardCard

/-- THE TIED CARD OF 'calquelaw33.CompileParts'. -/
def compilePartsCard : Claim7 := { stood := { row := compilePartsRow, standIns := [], harness := (true, "cd4754380206506a70dd36d633d109d5e8045f059cbd1434efc2c0c46820c32e"), looks := true }, kinds := [], alts := [], laidByText := true, laidKinds := [.data, .data, .data, .data, .pinned], laidTests := true, laidLooks := .later }
def CompilePartsCardSaid : Prop := Claim7.holds Tryz.pinned (.plain (OpenSpec.ofChange compilePartsSpec)) compilePartsCard

/-- THE SECOND FORM's CARD OF 'calquelaw33.CompileCode'. -/
def compileCodeUptoCard : Claim7 := { stood := { row := compileCodeUptoRow, standIns := [], harness := (true, "cd4754380206506a70dd36d633d109d5e8045f059cbd1434efc2c0c46820c32e"), looks := true }, kinds := [], alts := [], laidByText := true, laidKinds := [.data, .data, .data, .data, .pinned], laidTests := true, laidLooks := .later }
def CompileCodeUptoCardSaid : Prop := Claim7.holds Tryz.pinned (.plain (OpenSpec.upto compileCodeSpec)) compileCodeUptoCard

/-- THE SECOND FORM's CARD OF 'calquelaw33.CompileTexts'. -/
def compileTextsUptoCard : Claim7 := { stood := { row := compileTextsUptoRow, standIns := [], harness := (true, "cd4754380206506a70dd36d633d109d5e8045f059cbd1434efc2c0c46820c32e"), looks := true }, kinds := [], alts := [], laidByText := true, laidKinds := [.data, .data, .data, .data, .pinned], laidTests := true, laidLooks := .later }
def CompileTextsUptoCardSaid : Prop := Claim7.holds Tryz.pinned (.plain (OpenSpec.upto compileTextsSpec)) compileTextsUptoCard

/-- THE SECOND FORM's CARD OF 'calquelaw33.CompileLengths'. -/
def compileLengthsUptoCard : Claim7 := { stood := { row := compileLengthsUptoRow, standIns := [], harness := (true, "cd4754380206506a70dd36d633d109d5e8045f059cbd1434efc2c0c46820c32e"), looks := true }, kinds := [], alts := [], laidByText := true, laidKinds := [.data, .data, .data, .data, .pinned], laidTests := true, laidLooks := .later }
def CompileLengthsUptoCardSaid : Prop := Claim7.holds Tryz.pinned (.plain (OpenSpec.upto compileLengthsSpec)) compileLengthsUptoCard

/-- THE SECOND FORM's CARD OF 'calquelaw33.CompileOne'. -/
def compileOneUptoCard : Claim7 := { stood := { row := compileOneUptoRow, standIns := [], harness := (true, "cd4754380206506a70dd36d633d109d5e8045f059cbd1434efc2c0c46820c32e"), looks := true }, kinds := [], alts := [], laidByText := true, laidKinds := [.data, .data, .data, .data, .pinned], laidTests := true, laidLooks := .later }
def CompileOneUptoCardSaid : Prop := Claim7.holds Tryz.pinned (.plain (OpenSpec.upto compileOneSpec)) compileOneUptoCard

/-- THE SECOND FORM's CARD OF 'calquelaw33.CompileForward'. -/
def compileForwardUptoCard : Claim7 := { stood := { row := compileForwardUptoRow, standIns := [], harness := (true, "cd4754380206506a70dd36d633d109d5e8045f059cbd1434efc2c0c46820c32e"), looks := true }, kinds := [], alts := [], laidByText := true, laidKinds := [.data, .data, .data, .data, .pinned], laidTests := true, laidLooks := .later }
def CompileForwardUptoCardSaid : Prop := Claim7.holds Tryz.pinned (.plain (OpenSpec.upto compileForwardSpec)) compileForwardUptoCard

/-- THE SECOND FORM's CARD OF 'calquelaw33.CompileParts'. -/
def compilePartsUptoCard : Claim7 := { stood := { row := compilePartsUptoRow, standIns := [], harness := (true, "cd4754380206506a70dd36d633d109d5e8045f059cbd1434efc2c0c46820c32e"), looks := true }, kinds := [], alts := [], laidByText := true, laidKinds := [.data, .data, .data, .data, .pinned], laidTests := true, laidLooks := .later }
def CompilePartsUptoCardSaid : Prop := Claim7.holds Tryz.pinned (.plain (OpenSpec.upto compilePartsSpec)) compilePartsUptoCard
end Rows
end Go.Proofs.YtllnjbnknjpbjaaGreatDoor
