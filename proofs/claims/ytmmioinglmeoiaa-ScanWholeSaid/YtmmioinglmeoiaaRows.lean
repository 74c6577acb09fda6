/-
  No cell of these rows narrows 'for every input' (looked for: loops, veiled, ifaces, maps, wideKeys, modest, calm, conditions, laid).
  DERIVED. THE GIVEN ROWS OF THIS SEAT. 7 by the template 'for every input the law returns true; each argument reads behind the call as it read before'; 0 by the template 'total and deterministic' (their statements: YtmmioinglmeoiaaTotals.lean).
  GIVEN WITH THE SEED: the statements are not yours to turn. If you find one false, say at which input.
  Laid BY PROGRAM, IN A SANDBOX (cutbox-rows.mjs): the forced cells as the released guide's own fill.sh prints them over the translation efc9efa01c64dcfc… (all of the seat's roots in one cut). By AI agents, Wed Nov 11 2026. No macro, syntax, notation, axiom, sorry.
-/
import Derived.Test.YtmmioinglmeoiaaChecked
import GoSem.Claim
import GoSem.ClaimJoined
import GoSem.ClaimMapViews
import Derived.JoinedTies
import Derived.KernelRfl
namespace Go.Proofs.Ytmmioinglmeoiaa
/- THE CELL 'sum', in the pinned program and in every row, IS THE sha256 OF THE DUMP (.gsa) THAT YtmmioinglmeoiaaProg.lean LOADS. Nothing in Lean hashes anything: it is a label: what it is worth is what the hold of that sum in a sandbox is worth. -/
noncomputable def Try.pinned : Pinned := { name := "ytmmioinglmeoiaa", sum := "efc9efa01c64dcfc9237e17a2ee7482193bd9b58cd87268a6679b601d259fa06", checked := Try.checked }
namespace Rows
def none {H : Type} : Left H := { results := [], args := [] }

/-- 'calquelaw44.ScanPrint': WHATEVER THE INPUT: true; the input reads as it did. -/
def scanPrintSpec : ChangeSpec := { name := "scanPrint", fn := fun _ => fun
  | [d] => { results := [.lit (.bool true)], args := [d] }
  | _ => none }
def scanPrintRow : OpenClaim := { program := "ytmmioinglmeoiaa", sum := "efc9efa01c64dcfc9237e17a2ee7482193bd9b58cd87268a6679b601d259fa06", func := "calque/calquelaw44.ScanPrint", spec := "scanPrint", inPlace := ["internal/bytealg.IndexByteString", "internal/bytealg.IndexString", "internal/abi.NoEscape"], unfollowed := true, recurses := true, named := ["internal/bytealg.MaxLen"], apart := false }
def ScanPrintSaid : Prop := scanPrintRow.holds Try.pinned (OpenSpec.ofChange scanPrintSpec)

/-- ITS FALSE NEIGHBOUR: 'it returns false'. Refute it at one input. -/
def scanPrintWrong : ChangeSpec := { name := "scanPrint", fn := fun _ => fun
  | [d] => { results := [.lit (.bool false)], args := [d] }
  | _ => none }
def ScanPrintWrongFalsely : Prop := scanPrintRow.holds Try.pinned (OpenSpec.ofChange scanPrintWrong)

/-- 'calquelaw44.ScanParse': WHATEVER THE INPUT: true; the input reads as it did. -/
def scanParseSpec : ChangeSpec := { name := "scanParse", fn := fun _ => fun
  | [d] => { results := [.lit (.bool true)], args := [d] }
  | _ => none }
def scanParseRow : OpenClaim := { program := "ytmmioinglmeoiaa", sum := "efc9efa01c64dcfc9237e17a2ee7482193bd9b58cd87268a6679b601d259fa06", func := "calque/calquelaw44.ScanParse", spec := "scanParse", inPlace := ["internal/bytealg.IndexByteString", "internal/bytealg.IndexString", "internal/abi.NoEscape"], unfollowed := true, recurses := true, named := ["internal/bytealg.MaxLen"], apart := false }
def ScanParseSaid : Prop := scanParseRow.holds Try.pinned (OpenSpec.ofChange scanParseSpec)

/-- ITS FALSE NEIGHBOUR: 'it returns false'. Refute it at one input. -/
def scanParseWrong : ChangeSpec := { name := "scanParse", fn := fun _ => fun
  | [d] => { results := [.lit (.bool false)], args := [d] }
  | _ => none }
def ScanParseWrongFalsely : Prop := scanParseRow.holds Try.pinned (OpenSpec.ofChange scanParseWrong)

/-- 'calquelaw44.ScanTokens': WHATEVER THE INPUT: true; the input reads as it did. -/
def scanTokensSpec : ChangeSpec := { name := "scanTokens", fn := fun _ => fun
  | [d1, d2] => { results := [.lit (.bool true)], args := [d1, d2] }
  | _ => none }
def scanTokensRow : OpenClaim := { program := "ytmmioinglmeoiaa", sum := "efc9efa01c64dcfc9237e17a2ee7482193bd9b58cd87268a6679b601d259fa06", func := "calque/calquelaw44.ScanTokens", spec := "scanTokens", inPlace := ["internal/bytealg.IndexByteString", "internal/bytealg.IndexString", "internal/abi.NoEscape"], unfollowed := true, recurses := true, named := ["internal/bytealg.MaxLen"], apart := false }
def ScanTokensSaid : Prop := scanTokensRow.holds Try.pinned (OpenSpec.ofChange scanTokensSpec)

/-- ITS FALSE NEIGHBOUR: 'it returns false'. Refute it at one input. -/
def scanTokensWrong : ChangeSpec := { name := "scanTokens", fn := fun _ => fun
  | [d1, d2] => { results := [.lit (.bool false)], args := [d1, d2] }
  | _ => none }
def ScanTokensWrongFalsely : Prop := scanTokensRow.holds Try.pinned (OpenSpec.ofChange scanTokensWrong)

/-- 'calquelaw44.ScanFirst': WHATEVER THE INPUT: true; the input reads as it did. -/
def scanFirstSpec : ChangeSpec := { name := "scanFirst", fn := fun _ => fun
  | [d1, d2, d3] => { results := [.lit (.bool true)], args := [d1, d2, d3] }
  | _ => none }
def scanFirstRow : OpenClaim := { program := "ytmmioinglmeoiaa", sum := "efc9efa01c64dcfc9237e17a2ee7482193bd9b58cd87268a6679b601d259fa06", func := "calque/calquelaw44.ScanFirst", spec := "scanFirst", inPlace := ["internal/bytealg.IndexByteString", "internal/bytealg.IndexString", "internal/abi.NoEscape"], unfollowed := true, recurses := true, named := ["internal/bytealg.MaxLen"], apart := false }
def ScanFirstSaid : Prop := scanFirstRow.holds Try.pinned (OpenSpec.ofChange scanFirstSpec)

/-- ITS FALSE NEIGHBOUR: 'it returns false'. Refute it at one input. -/
def scanFirstWrong : ChangeSpec := { name := "scanFirst", fn := fun _ => fun
  | [d1, d2, d3] => { results := [.lit (.bool false)], args := [d1, d2, d3] }
  | _ => none }
def ScanFirstWrongFalsely : Prop := scanFirstRow.holds Try.pinned (OpenSpec.ofChange scanFirstWrong)

/-- 'calquelaw44.ScanMatch': WHATEVER THE INPUT: true; the input reads as it did. -/
def scanMatchSpec : ChangeSpec := { name := "scanMatch", fn := fun _ => fun
  | [d1, d2, d3] => { results := [.lit (.bool true)], args := [d1, d2, d3] }
  | _ => none }
def scanMatchRow : OpenClaim := { program := "ytmmioinglmeoiaa", sum := "efc9efa01c64dcfc9237e17a2ee7482193bd9b58cd87268a6679b601d259fa06", func := "calque/calquelaw44.ScanMatch", spec := "scanMatch", inPlace := ["internal/bytealg.IndexByteString", "internal/bytealg.IndexString", "internal/abi.NoEscape"], unfollowed := true, recurses := true, named := ["internal/bytealg.MaxLen"], apart := false }
def ScanMatchSaid : Prop := scanMatchRow.holds Try.pinned (OpenSpec.ofChange scanMatchSpec)

/-- ITS FALSE NEIGHBOUR: 'it returns false'. Refute it at one input. -/
def scanMatchWrong : ChangeSpec := { name := "scanMatch", fn := fun _ => fun
  | [d1, d2, d3] => { results := [.lit (.bool false)], args := [d1, d2, d3] }
  | _ => none }
def ScanMatchWrongFalsely : Prop := scanMatchRow.holds Try.pinned (OpenSpec.ofChange scanMatchWrong)

/-- 'calquelaw44.ScanStep': WHATEVER THE INPUT: true; the input reads as it did. -/
def scanStepSpec : ChangeSpec := { name := "scanStep", fn := fun _ => fun
  | [d1, d2, d3] => { results := [.lit (.bool true)], args := [d1, d2, d3] }
  | _ => none }
def scanStepRow : OpenClaim := { program := "ytmmioinglmeoiaa", sum := "efc9efa01c64dcfc9237e17a2ee7482193bd9b58cd87268a6679b601d259fa06", func := "calque/calquelaw44.ScanStep", spec := "scanStep", inPlace := ["internal/bytealg.IndexByteString", "internal/bytealg.IndexString", "internal/abi.NoEscape"], unfollowed := true, recurses := true, named := ["internal/bytealg.MaxLen"], apart := false }
def ScanStepSaid : Prop := scanStepRow.holds Try.pinned (OpenSpec.ofChange scanStepSpec)

/-- ITS FALSE NEIGHBOUR: 'it returns false'. Refute it at one input. -/
def scanStepWrong : ChangeSpec := { name := "scanStep", fn := fun _ => fun
  | [d1, d2, d3] => { results := [.lit (.bool false)], args := [d1, d2, d3] }
  | _ => none }
def ScanStepWrongFalsely : Prop := scanStepRow.holds Try.pinned (OpenSpec.ofChange scanStepWrong)

/-- 'calquelaw44.ScanWhole': WHATEVER THE INPUT: true; the input reads as it did. -/
def scanWholeSpec : ChangeSpec := { name := "scanWhole", fn := fun _ => fun
  | [d1, d2] => { results := [.lit (.bool true)], args := [d1, d2] }
  | _ => none }
def scanWholeRow : OpenClaim := { program := "ytmmioinglmeoiaa", sum := "efc9efa01c64dcfc9237e17a2ee7482193bd9b58cd87268a6679b601d259fa06", func := "calque/calquelaw44.ScanWhole", spec := "scanWhole", inPlace := ["internal/bytealg.IndexByteString", "internal/bytealg.IndexString", "internal/abi.NoEscape"], unfollowed := true, recurses := true, named := ["internal/bytealg.MaxLen"], apart := false }
def ScanWholeSaid : Prop := scanWholeRow.holds Try.pinned (OpenSpec.ofChange scanWholeSpec)

/-- ITS FALSE NEIGHBOUR: 'it returns false'. Refute it at one input. -/
def scanWholeWrong : ChangeSpec := { name := "scanWhole", fn := fun _ => fun
  | [d1, d2] => { results := [.lit (.bool false)], args := [d1, d2] }
  | _ => none }
def ScanWholeWrongFalsely : Prop := scanWholeRow.holds Try.pinned (OpenSpec.ofChange scanWholeWrong)

/- THE SECOND FORM. 'bulk': how many values and letters a reading holds, each counted each time it is reached (what is shared counts as often as it is met; a slice's spare places count too). A statement '..UptoSaid' is the law's where the arguments, and the package variables that the reading takes, are together of bulk at most 1048576: NARROWER than '..Said'. Prove '..Said' where nothing that the law and all that it calls make is longer than what came in: it says more and counts as full. Else prove '..UptoSaid'. A law counts once. -/
mutual
def uptoBulk {H : Type} : DataW H → Nat
  | .lit (.string bytes) => bytes.length + 1
  | .lit _ => 1
  | .nil => 1
  | .ptr d => uptoBulk d + 1
  | .slice elems spare => uptoBulkAll elems + uptoBulkAll spare + 1
  | .agg parts => uptoBulkAll parts + 1
  | .iface _ d => uptoBulk d + 1
  | .map entries => uptoBulkEntries entries + 1
  | .held _ => 1
def uptoBulkAll {H : Type} : List (DataW H) → Nat
  | [] => 0
  | d :: r => uptoBulk d + uptoBulkAll r
def uptoBulkEntries {H : Type} : List (Lit × DataW H) → Nat
  | [] => 0
  | x :: r => uptoBulkEntry x + uptoBulkEntries r
def uptoBulkEntry {H : Type} : Lit × DataW H → Nat
  | (.string bytes, d) => bytes.length + uptoBulk d + 1
  | (_, d) => uptoBulk d + 1
 end
def uptoSmall : (H : Type) → List (DataW H) → Bool := fun _ ds => decide (uptoBulkAll ds ≤ 1048576)
def OpenSpec.upto (s : _root_.Go.ChangeSpec) : _root_.Go.OpenSpec := { _root_.Go.OpenSpec.ofChange s with cond := some uptoSmall }

/-- 'calquelaw44.ScanPrint', WHERE WHAT IT READS IS OF BULK AT MOST 1048576: true; the input reads as it did. -/
def scanPrintUptoRow : OpenClaim := { program := "ytmmioinglmeoiaa", sum := "efc9efa01c64dcfc9237e17a2ee7482193bd9b58cd87268a6679b601d259fa06", func := "calque/calquelaw44.ScanPrint", spec := "scanPrint", inPlace := ["internal/bytealg.IndexByteString", "internal/bytealg.IndexString", "internal/abi.NoEscape"], unfollowed := true, recurses := true, named := ["internal/bytealg.MaxLen"], apart := false, narrowed := true }
def ScanPrintUptoSaid : Prop := scanPrintUptoRow.holds Try.pinned (OpenSpec.upto scanPrintSpec)

/-- 'calquelaw44.ScanParse', WHERE WHAT IT READS IS OF BULK AT MOST 1048576: true; the input reads as it did. -/
def scanParseUptoRow : OpenClaim := { program := "ytmmioinglmeoiaa", sum := "efc9efa01c64dcfc9237e17a2ee7482193bd9b58cd87268a6679b601d259fa06", func := "calque/calquelaw44.ScanParse", spec := "scanParse", inPlace := ["internal/bytealg.IndexByteString", "internal/bytealg.IndexString", "internal/abi.NoEscape"], unfollowed := true, recurses := true, named := ["internal/bytealg.MaxLen"], apart := false, narrowed := true }
def ScanParseUptoSaid : Prop := scanParseUptoRow.holds Try.pinned (OpenSpec.upto scanParseSpec)

/-- 'calquelaw44.ScanTokens', WHERE WHAT IT READS IS OF BULK AT MOST 1048576: true; the input reads as it did. -/
def scanTokensUptoRow : OpenClaim := { program := "ytmmioinglmeoiaa", sum := "efc9efa01c64dcfc9237e17a2ee7482193bd9b58cd87268a6679b601d259fa06", func := "calque/calquelaw44.ScanTokens", spec := "scanTokens", inPlace := ["internal/bytealg.IndexByteString", "internal/bytealg.IndexString", "internal/abi.NoEscape"], unfollowed := true, recurses := true, named := ["internal/bytealg.MaxLen"], apart := false, narrowed := true }
def ScanTokensUptoSaid : Prop := scanTokensUptoRow.holds Try.pinned (OpenSpec.upto scanTokensSpec)

/-- 'calquelaw44.ScanFirst', WHERE WHAT IT READS IS OF BULK AT MOST 1048576: true; the input reads as it did. -/
def scanFirstUptoRow : OpenClaim := { program := "ytmmioinglmeoiaa", sum := "efc9efa01c64dcfc9237e17a2ee7482193bd9b58cd87268a6679b601d259fa06", func := "calque/calquelaw44.ScanFirst", spec := "scanFirst", inPlace := ["internal/bytealg.IndexByteString", "internal/bytealg.IndexString", "internal/abi.NoEscape"], unfollowed := true, recurses := true, named := ["internal/bytealg.MaxLen"], apart := false, narrowed := true }
def ScanFirstUptoSaid : Prop := scanFirstUptoRow.holds Try.pinned (OpenSpec.upto scanFirstSpec)

/-- 'calquelaw44.ScanMatch', WHERE WHAT IT READS IS OF BULK AT MOST 1048576: true; the input reads as it did. -/
def scanMatchUptoRow : OpenClaim := { program := "ytmmioinglmeoiaa", sum := "efc9efa01c64dcfc9237e17a2ee7482193bd9b58cd87268a6679b601d259fa06", func := "calque/calquelaw44.ScanMatch", spec := "scanMatch", inPlace := ["internal/bytealg.IndexByteString", "internal/bytealg.IndexString", "internal/abi.NoEscape"], unfollowed := true, recurses := true, named := ["internal/bytealg.MaxLen"], apart := false, narrowed := true }
def ScanMatchUptoSaid : Prop := scanMatchUptoRow.holds Try.pinned (OpenSpec.upto scanMatchSpec)

/-- 'calquelaw44.ScanStep', WHERE WHAT IT READS IS OF BULK AT MOST 1048576: true; the input reads as it did. -/
def scanStepUptoRow : OpenClaim := { program := "ytmmioinglmeoiaa", sum := "efc9efa01c64dcfc9237e17a2ee7482193bd9b58cd87268a6679b601d259fa06", func := "calque/calquelaw44.ScanStep", spec := "scanStep", inPlace := ["internal/bytealg.IndexByteString", "internal/bytealg.IndexString", "internal/abi.NoEscape"], unfollowed := true, recurses := true, named := ["internal/bytealg.MaxLen"], apart := false, narrowed := true }
def ScanStepUptoSaid : Prop := scanStepUptoRow.holds Try.pinned (OpenSpec.upto scanStepSpec)

/-- 'calquelaw44.ScanWhole', WHERE WHAT IT READS IS OF BULK AT MOST 1048576: true; the input reads as it did. -/
def scanWholeUptoRow : OpenClaim := { program := "ytmmioinglmeoiaa", sum := "efc9efa01c64dcfc9237e17a2ee7482193bd9b58cd87268a6679b601d259fa06", func := "calque/calquelaw44.ScanWhole", spec := "scanWhole", inPlace := ["internal/bytealg.IndexByteString", "internal/bytealg.IndexString", "internal/abi.NoEscape"], unfollowed := true, recurses := true, named := ["internal/bytealg.MaxLen"], apart := false, narrowed := true }
def ScanWholeUptoSaid : Prop := scanWholeUptoRow.holds Try.pinned (OpenSpec.upto scanWholeSpec)

end Rows
end Go.Proofs.Ytmmioinglmeoiaa
