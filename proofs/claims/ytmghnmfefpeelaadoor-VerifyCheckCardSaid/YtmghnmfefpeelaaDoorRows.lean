/-
  NARROWER THAN 'FOR EVERY INPUT', by the rows' own cells (each row's printed sentence says how): VerifyProper: laid · VerifyDamage: laid · VerifyNames: laid · VerifyStraight: laid · VerifyCheck: laid.
  DERIVED. THE GIVEN ROWS OF THIS SEAT. 5 by the template 'for every input the law returns true; each argument reads behind the call as it read before'; 0 by the template 'total and deterministic' (their statements: YtmghnmfefpeelaaDoorTotals.lean).
  GIVEN WITH THE SEED: the statements are not yours to turn. If you find one false, say at which input.
  Laid BY PROGRAM, IN A SANDBOX (cutbox-rows.mjs): the forced cells as the released guide's own fill.sh prints them over the translation 6aba703d3b2eb4bc… (all of the seat's roots in one cut). By AI agents, Wed Nov 11 2026. No macro, syntax, notation, axiom, sorry.
-/
import Derived.Test.YtmghnmfefpeelaaDoorChecked
import GoSem.PinnedTables
import GoSem.Claim
import GoSem.ClaimJoined
import GoSem.ClaimMapViews
import Derived.JoinedTies
import Derived.KernelRfl
namespace Go.Proofs.YtmghnmfefpeelaaDoor
/- THE CELL 'sum', in the pinned program and in every row, IS THE sha256 OF THE DUMP (.gsa) THAT YtmghnmfefpeelaaDoorProg.lean LOADS. Nothing in Lean hashes anything: it is a label: what it is worth is what the hold of that sum in a sandbox is worth. -/
noncomputable def Tryd.pinned : Pinned := { name := "ytmghnmfefpeelaadoor", sum := "6aba703d3b2eb4bc76212e4b7ad9360be11d90bb13938ac2788fdc4b84419bb3", checked := Tryd.checked }
namespace Rows
def none {H : Type} : Left H := { results := [], args := [] }

/- WHAT THE LISTED PACKAGE-LEVEL VARIABLES READ AS WHEN THE CALL BEGINS. Each datum BY PROGRAM (the guide's laid-datum.mjs) off the statement by which the dump's own 'gosem.cut.vars' lays the variable. In a bare row this is a premise. The card (YtmghnmfefpeelaaDoorCards.lean) ties it to the program's text. -/
def laid_unicode_utf8_acceptRanges {H : Type} : DataW H := .agg [.agg [.lit (.int .u8 128), .lit (.int .u8 191)], .agg [.lit (.int .u8 160), .lit (.int .u8 191)], .agg [.lit (.int .u8 128), .lit (.int .u8 159)], .agg [.lit (.int .u8 144), .lit (.int .u8 191)], .agg [.lit (.int .u8 128), .lit (.int .u8 143)], .agg [.lit (.int .u8 0), .lit (.int .u8 0)], .agg [.lit (.int .u8 0), .lit (.int .u8 0)], .agg [.lit (.int .u8 0), .lit (.int .u8 0)], .agg [.lit (.int .u8 0), .lit (.int .u8 0)], .agg [.lit (.int .u8 0), .lit (.int .u8 0)], .agg [.lit (.int .u8 0), .lit (.int .u8 0)], .agg [.lit (.int .u8 0), .lit (.int .u8 0)], .agg [.lit (.int .u8 0), .lit (.int .u8 0)], .agg [.lit (.int .u8 0), .lit (.int .u8 0)], .agg [.lit (.int .u8 0), .lit (.int .u8 0)], .agg [.lit (.int .u8 0), .lit (.int .u8 0)]]
/-- One of Go's own tables, pinned by name: the form's constant. -/
def laid_unicode_utf8_first : DataW Unit := Go.Pinned.utf8First

/-- 'calquelaw34.VerifyProper': WHATEVER THE INPUT: true; the input reads as it did. -/
def verifyProperSpec : ChangeSpec := { name := "verifyProper", fn := fun _ => fun
  | [d1, d2] => { results := [.lit (.bool true)], args := [d1, d2] }
  | _ => none }
def verifyProperRow : OpenClaim := { program := "ytmghnmfefpeelaadoor", sum := "6aba703d3b2eb4bc76212e4b7ad9360be11d90bb13938ac2788fdc4b84419bb3", func := "calque/calquelaw34.VerifyProper", spec := "verifyProper", inPlace := ["internal/bytealg.IndexByteString", "internal/bytealg.IndexString"], named := ["internal/bytealg.MaxLen", "unicode/utf8.first", "unicode/utf8.acceptRanges"], apart := false, laid := [("unicode/utf8.acceptRanges", laid_unicode_utf8_acceptRanges), ("unicode/utf8.first", laid_unicode_utf8_first)] }
def VerifyProperSaid : Prop := verifyProperRow.holds Tryd.pinned (OpenSpec.ofChange verifyProperSpec)

/-- ITS FALSE NEIGHBOUR: 'it returns false'. Refute it at one input. -/
def verifyProperWrong : ChangeSpec := { name := "verifyProper", fn := fun _ => fun
  | [d1, d2] => { results := [.lit (.bool false)], args := [d1, d2] }
  | _ => none }
def VerifyProperWrongFalsely : Prop := verifyProperRow.holds Tryd.pinned (OpenSpec.ofChange verifyProperWrong)

/-- 'calquelaw34.VerifyDamage': WHATEVER THE INPUT: true; the input reads as it did. -/
def verifyDamageSpec : ChangeSpec := { name := "verifyDamage", fn := fun _ => fun
  | [d1, d2, d3] => { results := [.lit (.bool true)], args := [d1, d2, d3] }
  | _ => none }
def verifyDamageRow : OpenClaim := { program := "ytmghnmfefpeelaadoor", sum := "6aba703d3b2eb4bc76212e4b7ad9360be11d90bb13938ac2788fdc4b84419bb3", func := "calque/calquelaw34.VerifyDamage", spec := "verifyDamage", inPlace := ["internal/bytealg.IndexByteString", "internal/bytealg.IndexString"], named := ["internal/bytealg.MaxLen", "unicode/utf8.first", "unicode/utf8.acceptRanges"], apart := false, laid := [("unicode/utf8.acceptRanges", laid_unicode_utf8_acceptRanges), ("unicode/utf8.first", laid_unicode_utf8_first)] }
def VerifyDamageSaid : Prop := verifyDamageRow.holds Tryd.pinned (OpenSpec.ofChange verifyDamageSpec)

/-- ITS FALSE NEIGHBOUR: 'it returns false'. Refute it at one input. -/
def verifyDamageWrong : ChangeSpec := { name := "verifyDamage", fn := fun _ => fun
  | [d1, d2, d3] => { results := [.lit (.bool false)], args := [d1, d2, d3] }
  | _ => none }
def VerifyDamageWrongFalsely : Prop := verifyDamageRow.holds Tryd.pinned (OpenSpec.ofChange verifyDamageWrong)

/-- 'calquelaw34.VerifyNames': WHATEVER THE INPUT: true; the input reads as it did. -/
def verifyNamesSpec : ChangeSpec := { name := "verifyNames", fn := fun _ => fun
  | [d1, d2] => { results := [.lit (.bool true)], args := [d1, d2] }
  | _ => none }
def verifyNamesRow : OpenClaim := { program := "ytmghnmfefpeelaadoor", sum := "6aba703d3b2eb4bc76212e4b7ad9360be11d90bb13938ac2788fdc4b84419bb3", func := "calque/calquelaw34.VerifyNames", spec := "verifyNames", inPlace := ["internal/bytealg.IndexByteString", "internal/bytealg.IndexString"], named := ["internal/bytealg.MaxLen", "unicode/utf8.first", "unicode/utf8.acceptRanges"], apart := false, laid := [("unicode/utf8.acceptRanges", laid_unicode_utf8_acceptRanges), ("unicode/utf8.first", laid_unicode_utf8_first)] }
def VerifyNamesSaid : Prop := verifyNamesRow.holds Tryd.pinned (OpenSpec.ofChange verifyNamesSpec)

/-- ITS FALSE NEIGHBOUR: 'it returns false'. Refute it at one input. -/
def verifyNamesWrong : ChangeSpec := { name := "verifyNames", fn := fun _ => fun
  | [d1, d2] => { results := [.lit (.bool false)], args := [d1, d2] }
  | _ => none }
def VerifyNamesWrongFalsely : Prop := verifyNamesRow.holds Tryd.pinned (OpenSpec.ofChange verifyNamesWrong)

/-- 'calquelaw34.VerifyStraight': WHATEVER THE INPUT: true; the input reads as it did. -/
def verifyStraightSpec : ChangeSpec := { name := "verifyStraight", fn := fun _ => fun
  | [d] => { results := [.lit (.bool true)], args := [d] }
  | _ => none }
def verifyStraightRow : OpenClaim := { program := "ytmghnmfefpeelaadoor", sum := "6aba703d3b2eb4bc76212e4b7ad9360be11d90bb13938ac2788fdc4b84419bb3", func := "calque/calquelaw34.VerifyStraight", spec := "verifyStraight", inPlace := ["internal/bytealg.IndexByteString", "internal/bytealg.IndexString"], named := ["internal/bytealg.MaxLen", "unicode/utf8.first", "unicode/utf8.acceptRanges"], apart := false, laid := [("unicode/utf8.acceptRanges", laid_unicode_utf8_acceptRanges), ("unicode/utf8.first", laid_unicode_utf8_first)] }
def VerifyStraightSaid : Prop := verifyStraightRow.holds Tryd.pinned (OpenSpec.ofChange verifyStraightSpec)

/-- ITS FALSE NEIGHBOUR: 'it returns false'. Refute it at one input. -/
def verifyStraightWrong : ChangeSpec := { name := "verifyStraight", fn := fun _ => fun
  | [d] => { results := [.lit (.bool false)], args := [d] }
  | _ => none }
def VerifyStraightWrongFalsely : Prop := verifyStraightRow.holds Tryd.pinned (OpenSpec.ofChange verifyStraightWrong)

/-- 'calquelaw34.VerifyCheck': WHATEVER THE INPUT: true; the input reads as it did. -/
def verifyCheckSpec : ChangeSpec := { name := "verifyCheck", fn := fun _ => fun
  | [d] => { results := [.lit (.bool true)], args := [d] }
  | _ => none }
def verifyCheckRow : OpenClaim := { program := "ytmghnmfefpeelaadoor", sum := "6aba703d3b2eb4bc76212e4b7ad9360be11d90bb13938ac2788fdc4b84419bb3", func := "calque/calquelaw34.VerifyCheck", spec := "verifyCheck", inPlace := ["internal/bytealg.IndexByteString", "internal/bytealg.IndexString"], named := ["internal/bytealg.MaxLen", "unicode/utf8.first", "unicode/utf8.acceptRanges"], apart := false, laid := [("unicode/utf8.acceptRanges", laid_unicode_utf8_acceptRanges), ("unicode/utf8.first", laid_unicode_utf8_first)] }
def VerifyCheckSaid : Prop := verifyCheckRow.holds Tryd.pinned (OpenSpec.ofChange verifyCheckSpec)

/-- ITS FALSE NEIGHBOUR: 'it returns false'. Refute it at one input. -/
def verifyCheckWrong : ChangeSpec := { name := "verifyCheck", fn := fun _ => fun
  | [d] => { results := [.lit (.bool false)], args := [d] }
  | _ => none }
def VerifyCheckWrongFalsely : Prop := verifyCheckRow.holds Tryd.pinned (OpenSpec.ofChange verifyCheckWrong)

/- THE SECOND FORM. 'bulk': how many values and letters a reading holds, each counted each time it is reached (what is shared counts as often as it is met; a slice's spare places count too). A statement '..UptoSaid' is the law's where the arguments, and the package variables that the reading takes, are together of bulk at most 1048576: NARROWER than '..Said'. Prove '..Said' where nothing that the law and all that it calls make is longer than what came in: it says more and counts as full. Else prove '..UptoSaid'. A law counts once. -/
mutual
def uptoBulk {H : Type} : DataW H → Nat
  | .lit (.string bytes) => bytes.length + 1
  | .lit _ => 1
  | .nil => 1
  | .ptr d => uptoBulk d + 1
  | .slice elems spare => uptoBulkAll elems + uptoBulkAll spare + 1
  | .agg parts => uptoBulkAll parts + 1
  | .iface _ d => uptoBulk d + 1
  | .map entries => uptoBulkEntries entries + 1
  | .held _ => 1
def uptoBulkAll {H : Type} : List (DataW H) → Nat
  | [] => 0
  | d :: r => uptoBulk d + uptoBulkAll r
def uptoBulkEntries {H : Type} : List (Lit × DataW H) → Nat
  | [] => 0
  | x :: r => uptoBulkEntry x + uptoBulkEntries r
def uptoBulkEntry {H : Type} : Lit × DataW H → Nat
  | (.string bytes, d) => bytes.length + uptoBulk d + 1
  | (_, d) => uptoBulk d + 1
 end
def uptoSmall : (H : Type) → List (DataW H) → Bool := fun _ ds => decide (uptoBulkAll ds ≤ 1048576)
def OpenSpec.upto (s : _root_.Go.ChangeSpec) : _root_.Go.OpenSpec := { _root_.Go.OpenSpec.ofChange s with cond := some uptoSmall }

/-- 'calquelaw34.VerifyProper', WHERE WHAT IT READS IS OF BULK AT MOST 1048576: true; the input reads as it did. -/
def verifyProperUptoRow : OpenClaim := { program := "ytmghnmfefpeelaadoor", sum := "6aba703d3b2eb4bc76212e4b7ad9360be11d90bb13938ac2788fdc4b84419bb3", func := "calque/calquelaw34.VerifyProper", spec := "verifyProper", inPlace := ["internal/bytealg.IndexByteString", "internal/bytealg.IndexString"], named := ["internal/bytealg.MaxLen", "unicode/utf8.first", "unicode/utf8.acceptRanges"], apart := false, laid := [("unicode/utf8.acceptRanges", laid_unicode_utf8_acceptRanges), ("unicode/utf8.first", laid_unicode_utf8_first)], narrowed := true }
def VerifyProperUptoSaid : Prop := verifyProperUptoRow.holds Tryd.pinned (OpenSpec.upto verifyProperSpec)

/-- 'calquelaw34.VerifyDamage', WHERE WHAT IT READS IS OF BULK AT MOST 1048576: true; the input reads as it did. -/
def verifyDamageUptoRow : OpenClaim := { program := "ytmghnmfefpeelaadoor", sum := "6aba703d3b2eb4bc76212e4b7ad9360be11d90bb13938ac2788fdc4b84419bb3", func := "calque/calquelaw34.VerifyDamage", spec := "verifyDamage", inPlace := ["internal/bytealg.IndexByteString", "internal/bytealg.IndexString"], named := ["internal/bytealg.MaxLen", "unicode/utf8.first", "unicode/utf8.acceptRanges"], apart := false, laid := [("unicode/utf8.acceptRanges", laid_unicode_utf8_acceptRanges), ("unicode/utf8.first", laid_unicode_utf8_first)], narrowed := true }
def VerifyDamageUptoSaid : Prop := verifyDamageUptoRow.holds Tryd.pinned (OpenSpec.upto verifyDamageSpec)

/-- 'calquelaw34.VerifyNames', WHERE WHAT IT READS IS OF BULK AT MOST 1048576: true; the input reads as it did. -/
def verifyNamesUptoRow : OpenClaim := { program := "ytmghnmfefpeelaadoor", sum := "6aba703d3b2eb4bc76212e4b7ad9360be11d90bb13938ac2788fdc4b84419bb3", func := "calque/calquelaw34.VerifyNames", spec := "verifyNames", inPlace := ["internal/bytealg.IndexByteString", "internal/bytealg.IndexString"], named := ["internal/bytealg.MaxLen", "unicode/utf8.first", "unicode/utf8.acceptRanges"], apart := false, laid := [("unicode/utf8.acceptRanges", laid_unicode_utf8_acceptRanges), ("unicode/utf8.first", laid_unicode_utf8_first)], narrowed := true }
def VerifyNamesUptoSaid : Prop := verifyNamesUptoRow.holds Tryd.pinned (OpenSpec.upto verifyNamesSpec)

/-- 'calquelaw34.VerifyStraight', WHERE WHAT IT READS IS OF BULK AT MOST 1048576: true; the input reads as it did. -/
def verifyStraightUptoRow : OpenClaim := { program := "ytmghnmfefpeelaadoor", sum := "6aba703d3b2eb4bc76212e4b7ad9360be11d90bb13938ac2788fdc4b84419bb3", func := "calque/calquelaw34.VerifyStraight", spec := "verifyStraight", inPlace := ["internal/bytealg.IndexByteString", "internal/bytealg.IndexString"], named := ["internal/bytealg.MaxLen", "unicode/utf8.first", "unicode/utf8.acceptRanges"], apart := false, laid := [("unicode/utf8.acceptRanges", laid_unicode_utf8_acceptRanges), ("unicode/utf8.first", laid_unicode_utf8_first)], narrowed := true }
def VerifyStraightUptoSaid : Prop := verifyStraightUptoRow.holds Tryd.pinned (OpenSpec.upto verifyStraightSpec)

/-- 'calquelaw34.VerifyCheck', WHERE WHAT IT READS IS OF BULK AT MOST 1048576: true; the input reads as it did. -/
def verifyCheckUptoRow : OpenClaim := { program := "ytmghnmfefpeelaadoor", sum := "6aba703d3b2eb4bc76212e4b7ad9360be11d90bb13938ac2788fdc4b84419bb3", func := "calque/calquelaw34.VerifyCheck", spec := "verifyCheck", inPlace := ["internal/bytealg.IndexByteString", "internal/bytealg.IndexString"], named := ["internal/bytealg.MaxLen", "unicode/utf8.first", "unicode/utf8.acceptRanges"], apart := false, laid := [("unicode/utf8.acceptRanges", laid_unicode_utf8_acceptRanges), ("unicode/utf8.first", laid_unicode_utf8_first)], narrowed := true }
def VerifyCheckUptoSaid : Prop := verifyCheckUptoRow.holds Tryd.pinned (OpenSpec.upto verifyCheckSpec)

end Rows
end Go.Proofs.YtmghnmfefpeelaaDoor
