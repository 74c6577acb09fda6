/- Texts of this proof, joined by pack.py. -/
import Derived.Test.YthhieiabfpkaaaaGreatDoorPkKz5a
import Derived.Test.YthhieiabfpkaaaaGreatDoorCards
import Derived.Test.YthhieiabfpkaaaaGreatDoorChecked
import Derived.Test.YthhieiabfpkaaaaGreatDoorProg
import Derived.Test.YthhieiabfpkaaaaGreatDoorRows
import Derived.Test.YthhieiabfpkaaaaGreatDoorTie
set_option linter.unusedVariables false
set_option linter.unusedSimpArgs false
namespace Go.Proofs.YthhieiabfpkaaaaGreatDoor
open Go.ChangeShapes Go.WideShapes Go.ChangeAt Go.RowKit Go.X
theorem jf0:(Rows.wholeIsolationRow.wf (OpenSpec.ofChange Rows.wholeIsolationSpec)) = true:=by kernel_rfl
theorem jf1:(laidOutB Tryz.prog) = true:=by kernel_rfl
theorem jf2:(mapsRowed Tryz.prog) = true:=by kernel_rfl
theorem jf3:(Tryz.f3.params.all (Tryz.prog.readableRec ·)) = true:=by kernel_rfl
theorem jf4:(namedTie Tryz.prog Rows.wholeIsolationRow.named Rows.wholeIsolationSpec.vars) = true:=by kernel_rfl
theorem jf5:((Rows.wholeIsolationRow.stops == [])) = true:=by kernel_rfl
theorem jf6:((Tryz.prog.stops == [])) = true:=by kernel_rfl
theorem jf7:((Rows.wholeIsolationRow.knobs == [])) = true:=by kernel_rfl
theorem jf8:((Tryz.prog.stopKnobs == [])) = true:=by kernel_rfl
theorem jf9:((Rows.wholeIsolationRow.inPlace == Tryz.prog.inPlace 3)) = true:=by kernel_rfl
theorem jf10:((Rows.wholeIsolationRow.unfollowed == Tryz.prog.unfollowed 3)) = true:=by kernel_rfl
theorem jf11:((Rows.wholeIsolationRow.recurses == Tryz.prog.recurses 3)) = true:=by kernel_rfl
end Go.Proofs.YthhieiabfpkaaaaGreatDoor
