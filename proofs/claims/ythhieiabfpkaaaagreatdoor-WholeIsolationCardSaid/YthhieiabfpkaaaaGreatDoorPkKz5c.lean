/- Texts of this proof, joined by pack.py. -/
import Derived.Test.YthhieiabfpkaaaaGreatDoorPkKz5b
import Derived.Test.YthhieiabfpkaaaaGreatDoorCards
import Derived.Test.YthhieiabfpkaaaaGreatDoorChecked
import Derived.Test.YthhieiabfpkaaaaGreatDoorProg
import Derived.Test.YthhieiabfpkaaaaGreatDoorRows
import Derived.Test.YthhieiabfpkaaaaGreatDoorTie
set_option linter.unusedVariables false
set_option linter.unusedSimpArgs false
namespace Go.Proofs.YthhieiabfpkaaaaGreatDoor
open Go.ChangeShapes Go.WideShapes Go.ChangeAt Go.RowKit Go.X
theorem jf12:((Rows.wholeIsolationRow.named == Tryz.prog.varsNamed 3)) = true:=by kernel_rfl
theorem jf13:((Rows.wholeIsolationRow.maps == (Tryz.f3.params.toList ++ Rows.wholeIsolationSpec.plain.varTypes Tryz.prog).any (Tryz.prog.mapsRec ·))) = true:=by kernel_rfl
theorem jf14:((Rows.wholeIsolationRow.ifaces == (Tryz.f3.params.toList ++ Rows.wholeIsolationSpec.plain.varTypes Tryz.prog).any (Tryz.prog.ifacesRec ·))) = true:=by kernel_rfl
theorem jf15:((Rows.wholeIsolationRow.mapsOut == Tryz.prog.mapsAmong Tryz.f3.resultTypes.toList)) = true:=by kernel_rfl
theorem jf16:((Rows.wholeIsolationRow.loops == (Tryz.f3.params.toList ++ Rows.wholeIsolationSpec.plain.varTypes Tryz.prog).any (Tryz.prog.loopsFrom ·))) = true:=by kernel_rfl
theorem jf17:((Rows.wholeIsolationRow.wideKeys == (Tryz.f3.params.toList ++ Rows.wholeIsolationSpec.plain.varTypes Tryz.prog ++ Tryz.f3.resultTypes.toList).any (Tryz.prog.wideKeysFrom ·))) = true:=by kernel_rfl
theorem jf18:(Rows.wholeIsolationSpec.vars.all (Tryz.prog.varReadable ·)) = true:=by kernel_rfl
theorem jf19:(Tryz.f3.resultTypes.all (fun t=>Tryz.prog.readableRec t && decide (t < Tryz.prog.types.size))) = true:=by kernel_rfl
theorem jf20:((Rows.wholeIsolationRow.ifacesOut == Tryz.f3.resultTypes.toList.any (Tryz.prog.ifacesRec ·))) = true:=by kernel_rfl
theorem jf21:((Rows.wholeIsolationRow.loopsOut == Tryz.f3.resultTypes.toList.any (Tryz.prog.loopsFrom ·))) = true:=by kernel_rfl
theorem jf22:((Rows.wholeIsolationRow.plainKeys == Tryz.prog.plainKeys)) = true:=by kernel_rfl
theorem jf23:(Rows.wholeIsolationRow.shortTexts.isNone) = true:=by kernel_rfl
theorem jf24:(Tryz.prog.stopsHeard) = true:=by kernel_rfl
theorem jf25:(Tryz.prog.mayEnter) = true:=by kernel_rfl
theorem jf26:((Rows.wholeIsolationRow.lifted == Tryz.prog.liftsFinal)) = true:=by kernel_rfl
theorem jf27:((Tryz.prog.make == some Rows.wholeIsolationRow.make)) = true:=by kernel_rfl
theorem jf28:((Rows.wholeIsolationRow.kinds == (if Rows.wholeIsolationRow.domain.isEmpty then [] else Tryz.f3.params.toList.map fun t=>match Tryz.prog.underlying t with | some (.int k)=>some k | _=>none))) = true:=by kernel_rfl
theorem jf29:((Rows.wholeIsolationRow.pinned == Rows.wholeIsolationRow.pinnedBy)) = true:=by kernel_rfl
theorem jf30:((Rows.wholeIsolationRow.veiled == (Tryz.f3.params.toList ++ Rows.wholeIsolationSpec.plain.varTypes Tryz.prog ++ Tryz.f3.resultTypes.toList).any (Tryz.prog.veiledRec ·))) = true:=by kernel_rfl
theorem jf31:(Rows.wholeIsolationRow.veiledFits Tryz.prog Tryz.f3.params.toList (Tryz.f3.params.toList ++ Rows.wholeIsolationSpec.plain.varTypes Tryz.prog ++ Tryz.f3.resultTypes.toList)) = true:=by kernel_rfl
set_option maxRecDepth 100000 in
theorem qtk:joinedFacts Tryz.prog 3 Tryz.f3 Rows.wholeIsolationSpec Rows.wholeIsolationRow = true:=by
 unfold joinedFacts
 exact (band (band (band (band (band (band (band (band (band (band (band (band (band (band (band (band (band (band (band (band (band (band (band (band (band (band (band (band (band (band (band jf0 jf1) jf2) jf3) jf4) jf5) jf6) jf7) jf8) jf9) jf10) jf11) jf12) jf13) jf14) jf15) jf16) jf17) jf18) jf19) jf20) jf21) jf22) jf23) jf24) jf25) jf26) jf27) jf28) jf29) jf30) jf31)
end Go.Proofs.YthhieiabfpkaaaaGreatDoor
