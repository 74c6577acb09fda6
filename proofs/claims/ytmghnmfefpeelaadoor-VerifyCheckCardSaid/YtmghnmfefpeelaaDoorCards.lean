/-
  DERIVED. GIVEN WITH THE SEED: THE CARDS: each row of YtmghnmfefpeelaaDoorRows.lean that lists a variable, with what it lists TIED to the program's text (the seventh form; the later family's looks); each row that meets fmt, with fmt's text TOLD by the authors' own Lean function (tested against real Go, not proved from fmt's source: count such statements apart). THE CARD IS WHAT COUNTS. Prove the row's statement (the work); the ties are given (YtmghnmfefpeelaaDoorTie.lean); close each card by the builder's one call (the guide's Derived/Test/ToyasCard.lean, 'card_holds'). Laid BY PROGRAM, IN A SANDBOX (cutbox-door.mjs). By AI agents, Wed Nov 11 2026. No macro, syntax, notation, axiom, sorry.
-/
import Derived.Test.YtmghnmfefpeelaaDoorRows
import GoSem.ClaimSeven
namespace Go.Proofs.YtmghnmfefpeelaaDoor
namespace Rows

/-- THE TIED CARD OF 'calquelaw34.VerifyProper'. -/
def verifyProperCard : Claim7 := { stood := { row := verifyProperRow, standIns := [], harness := (true, "920e0d4510c9f0b2ea25c8b61585f52dc13057113f78cdcd29de2e1254470674"), looks := false }, kinds := [], alts := [], laidByText := true, laidKinds := [.data, .pinned], laidTests := true, laidLooks := .later }
def VerifyProperCardSaid : Prop := Claim7.holds Tryd.pinned (.plain (OpenSpec.ofChange verifyProperSpec)) verifyProperCard

/-- THE TIED CARD OF 'calquelaw34.VerifyDamage'. -/
def verifyDamageCard : Claim7 := { stood := { row := verifyDamageRow, standIns := [], harness := (true, "920e0d4510c9f0b2ea25c8b61585f52dc13057113f78cdcd29de2e1254470674"), looks := false }, kinds := [], alts := [], laidByText := true, laidKinds := [.data, .pinned], laidTests := true, laidLooks := .later }
def VerifyDamageCardSaid : Prop := Claim7.holds Tryd.pinned (.plain (OpenSpec.ofChange verifyDamageSpec)) verifyDamageCard

/-- THE TIED CARD OF 'calquelaw34.VerifyNames'. -/
def verifyNamesCard : Claim7 := { stood := { row := verifyNamesRow, standIns := [], harness := (true, "920e0d4510c9f0b2ea25c8b61585f52dc13057113f78cdcd29de2e1254470674"), looks := false }, kinds := [], alts := [], laidByText := true, laidKinds := [.data, .pinned], laidTests := true, laidLooks := .later }
def VerifyNamesCardSaid : Prop := Claim7.holds Tryd.pinned (.plain (OpenSpec.ofChange verifyNamesSpec)) verifyNamesCard

/-- THE TIED CARD OF 'calquelaw34.VerifyStraight'. -/
def verifyStraightCard : Claim7 := { stood := { row := verifyStraightRow, standIns := [], harness := (true, "920e0d4510c9f0b2ea25c8b61585f52dc13057113f78cdcd29de2e1254470674"), looks := false }, kinds := [], alts := [], laidByText := true, laidKinds := [.data, .pinned], laidTests := true, laidLooks := .later }
def VerifyStraightCardSaid : Prop := Claim7.holds Tryd.pinned (.plain (OpenSpec.ofChange verifyStraightSpec)) verifyStraightCard

/-- THE TIED CARD OF 'calquelaw34.VerifyCheck'. -/
def verifyCheckCard : Claim7 := { stood := { row := verifyCheckRow, standIns := [], harness := (true, "920e0d4510c9f0b2ea25c8b61585f52dc13057113f78cdcd29de2e1254470674"), looks := false }, kinds := [], alts := [], laidByText := true, laidKinds := [.data, .pinned], laidTests := true, laidLooks := .later }
def VerifyCheckCardSaid : Prop := Claim7.holds Tryd.pinned (.plain (OpenSpec.ofChange verifyCheckSpec)) verifyCheckCard

/-- THE SECOND FORM's CARD OF 'calquelaw34.VerifyProper'. -/
def verifyProperUptoCard : Claim7 := { stood := { row := verifyProperUptoRow, standIns := [], harness := (true, "920e0d4510c9f0b2ea25c8b61585f52dc13057113f78cdcd29de2e1254470674"), looks := false }, kinds := [], alts := [], laidByText := true, laidKinds := [.data, .pinned], laidTests := true, laidLooks := .later }
def VerifyProperUptoCardSaid : Prop := Claim7.holds Tryd.pinned (.plain (OpenSpec.upto verifyProperSpec)) verifyProperUptoCard

/-- THE SECOND FORM's CARD OF 'calquelaw34.VerifyDamage'. -/
def verifyDamageUptoCard : Claim7 := { stood := { row := verifyDamageUptoRow, standIns := [], harness := (true, "920e0d4510c9f0b2ea25c8b61585f52dc13057113f78cdcd29de2e1254470674"), looks := false }, kinds := [], alts := [], laidByText := true, laidKinds := [.data, .pinned], laidTests := true, laidLooks := .later }
def VerifyDamageUptoCardSaid : Prop := Claim7.holds Tryd.pinned (.plain (OpenSpec.upto verifyDamageSpec)) verifyDamageUptoCard

/-- THE SECOND FORM's CARD OF 'calquelaw34.VerifyNames'. -/
def verifyNamesUptoCard : Claim7 := { stood := { row := verifyNamesUptoRow, standIns := [], harness := (true, "920e0d4510c9f0b2ea25c8b61585f52dc13057113f78cdcd29de2e1254470674"), looks := false }, kinds := [], alts := [], laidByText := true, laidKinds := [.data, .pinned], laidTests := true, laidLooks := .later }
def VerifyNamesUptoCardSaid : Prop := Claim7.holds Tryd.pinned (.plain (OpenSpec.upto verifyNamesSpec)) verifyNamesUptoCard

/-- THE SECOND FORM's CARD OF 'calquelaw34.VerifyStraight'. -/
def verifyStraightUptoCard : Claim7 := { stood := { row := verifyStraightUptoRow, standIns := [], harness := (true, "920e0d4510c9f0b2ea25c8b61585f52dc13057113f78cdcd29de2e1254470674"), looks := false }, kinds := [], alts := [], laidByText := true, laidKinds := [.data, .pinned], laidTests := true, laidLooks := .later }
def VerifyStraightUptoCardSaid : Prop := Claim7.holds Tryd.pinned (.plain (OpenSpec.upto verifyStraightSpec)) verifyStraightUptoCard

/-- THE SECOND FORM's CARD OF 'calquelaw34.VerifyCheck'. -/
def verifyCheckUptoCard : Claim7 := { stood := { row := verifyCheckUptoRow, standIns := [], harness := (true, "920e0d4510c9f0b2ea25c8b61585f52dc13057113f78cdcd29de2e1254470674"), looks := false }, kinds := [], alts := [], laidByText := true, laidKinds := [.data, .pinned], laidTests := true, laidLooks := .later }
def VerifyCheckUptoCardSaid : Prop := Claim7.holds Tryd.pinned (.plain (OpenSpec.upto verifyCheckSpec)) verifyCheckUptoCard
end Rows
end Go.Proofs.YtmghnmfefpeelaaDoor
