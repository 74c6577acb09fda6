/-
  DERIVED. GIVEN WITH THE SEED: THE CARDS: each row of YthecjdgffboedaaDoorRows.lean that lists a variable, with what it lists TIED to the program's text (the seventh form; the later family's looks); each row that meets fmt, with fmt's text TOLD by the authors' own Lean function (tested against real Go, not proved from fmt's source: count such statements apart). THE CARD IS WHAT COUNTS. Prove the row's statement (the work); the ties are given (YthecjdgffboedaaDoorTie.lean); close each card by the builder's one call (the guide's Derived/Test/ToyasCard.lean, 'card_holds'). Laid BY PROGRAM, IN A SANDBOX (cutbox-door.mjs). By AI agents, Wed Nov 11 2026. No macro, syntax, notation, axiom, sorry.
-/
import Derived.Test.YthecjdgffboedaaDoorRows
import GoSem.ClaimSeven
namespace Go.Proofs.YthecjdgffboedaaDoor
namespace Rows

/-- THE TIED CARD OF 'calquelaw15.NumberFormat'. -/
def numberFormatCard : Claim7 := { stood := { row := numberFormatRow, standIns := [], harness := (true, "1b2faada665bb85dc7b09e7659425ba79918a6c7dddf3e051d0037f0110e1697"), looks := false }, kinds := [], alts := [], laidByText := true, laidKinds := [.data, .pinned], laidTests := true, laidLooks := .later }
def NumberFormatCardSaid : Prop := Claim7.holds Tryd.pinned (.plain (OpenSpec.ofChange numberFormatSpec)) numberFormatCard

/-- THE TIED CARD OF 'calquelaw15.NumberGroup'. -/
def numberGroupCard : Claim7 := { stood := { row := numberGroupRow, standIns := [], harness := (true, "1b2faada665bb85dc7b09e7659425ba79918a6c7dddf3e051d0037f0110e1697"), looks := false }, kinds := [], alts := [], laidByText := true, laidKinds := [.data, .pinned], laidTests := true, laidLooks := .later }
def NumberGroupCardSaid : Prop := Claim7.holds Tryd.pinned (.plain (OpenSpec.ofChange numberGroupSpec)) numberGroupCard

/-- THE TIED CARD OF 'calquelaw15.NumberStyles'. -/
def numberStylesCard : Claim7 := { stood := { row := numberStylesRow, standIns := [], harness := (true, "1b2faada665bb85dc7b09e7659425ba79918a6c7dddf3e051d0037f0110e1697"), looks := false }, kinds := [], alts := [], laidByText := true, laidKinds := [.data, .pinned], laidTests := true, laidLooks := .later }
def NumberStylesCardSaid : Prop := Claim7.holds Tryd.pinned (.plain (OpenSpec.ofChange numberStylesSpec)) numberStylesCard

/-- THE TIED CARD OF 'calquelaw15.NumberParse'. -/
def numberParseCard : Claim7 := { stood := { row := numberParseRow, standIns := [], harness := (true, "1b2faada665bb85dc7b09e7659425ba79918a6c7dddf3e051d0037f0110e1697"), looks := false }, kinds := [], alts := [], laidByText := true, laidKinds := [.data, .pinned], laidTests := true, laidLooks := .later }
def NumberParseCardSaid : Prop := Claim7.holds Tryd.pinned (.plain (OpenSpec.ofChange numberParseSpec)) numberParseCard

/-- THE TIED CARD OF 'calquelaw15.NumberInverse'. -/
def numberInverseCard : Claim7 := { stood := { row := numberInverseRow, standIns := [], harness := (true, "1b2faada665bb85dc7b09e7659425ba79918a6c7dddf3e051d0037f0110e1697"), looks := false }, kinds := [], alts := [], laidByText := true, laidKinds := [.data, .pinned], laidTests := true, laidLooks := .later }
def NumberInverseCardSaid : Prop := Claim7.holds Tryd.pinned (.plain (OpenSpec.ofChange numberInverseSpec)) numberInverseCard

/-- THE SECOND FORM's CARD OF 'calquelaw15.NumberFormat'. -/
def numberFormatUptoCard : Claim7 := { stood := { row := numberFormatUptoRow, standIns := [], harness := (true, "1b2faada665bb85dc7b09e7659425ba79918a6c7dddf3e051d0037f0110e1697"), looks := false }, kinds := [], alts := [], laidByText := true, laidKinds := [.data, .pinned], laidTests := true, laidLooks := .later }
def NumberFormatUptoCardSaid : Prop := Claim7.holds Tryd.pinned (.plain (OpenSpec.upto numberFormatSpec)) numberFormatUptoCard

/-- THE SECOND FORM's CARD OF 'calquelaw15.NumberGroup'. -/
def numberGroupUptoCard : Claim7 := { stood := { row := numberGroupUptoRow, standIns := [], harness := (true, "1b2faada665bb85dc7b09e7659425ba79918a6c7dddf3e051d0037f0110e1697"), looks := false }, kinds := [], alts := [], laidByText := true, laidKinds := [.data, .pinned], laidTests := true, laidLooks := .later }
def NumberGroupUptoCardSaid : Prop := Claim7.holds Tryd.pinned (.plain (OpenSpec.upto numberGroupSpec)) numberGroupUptoCard

/-- THE SECOND FORM's CARD OF 'calquelaw15.NumberStyles'. -/
def numberStylesUptoCard : Claim7 := { stood := { row := numberStylesUptoRow, standIns := [], harness := (true, "1b2faada665bb85dc7b09e7659425ba79918a6c7dddf3e051d0037f0110e1697"), looks := false }, kinds := [], alts := [], laidByText := true, laidKinds := [.data, .pinned], laidTests := true, laidLooks := .later }
def NumberStylesUptoCardSaid : Prop := Claim7.holds Tryd.pinned (.plain (OpenSpec.upto numberStylesSpec)) numberStylesUptoCard

/-- THE SECOND FORM's CARD OF 'calquelaw15.NumberParse'. -/
def numberParseUptoCard : Claim7 := { stood := { row := numberParseUptoRow, standIns := [], harness := (true, "1b2faada665bb85dc7b09e7659425ba79918a6c7dddf3e051d0037f0110e1697"), looks := false }, kinds := [], alts := [], laidByText := true, laidKinds := [.data, .pinned], laidTests := true, laidLooks := .later }
def NumberParseUptoCardSaid : Prop := Claim7.holds Tryd.pinned (.plain (OpenSpec.upto numberParseSpec)) numberParseUptoCard

/-- THE SECOND FORM's CARD OF 'calquelaw15.NumberInverse'. -/
def numberInverseUptoCard : Claim7 := { stood := { row := numberInverseUptoRow, standIns := [], harness := (true, "1b2faada665bb85dc7b09e7659425ba79918a6c7dddf3e051d0037f0110e1697"), looks := false }, kinds := [], alts := [], laidByText := true, laidKinds := [.data, .pinned], laidTests := true, laidLooks := .later }
def NumberInverseUptoCardSaid : Prop := Claim7.holds Tryd.pinned (.plain (OpenSpec.upto numberInverseSpec)) numberInverseUptoCard
end Rows
end Go.Proofs.YthecjdgffboedaaDoor
