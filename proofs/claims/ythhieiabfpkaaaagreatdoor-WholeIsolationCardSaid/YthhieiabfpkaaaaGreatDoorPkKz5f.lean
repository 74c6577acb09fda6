/- Texts of this proof, joined by pack.py. -/
import Derived.Test.YthhieiabfpkaaaaGreatDoorPkKz5d
import Derived.Test.YthhieiabfpkaaaaGreatDoorCards
import Derived.Test.YthhieiabfpkaaaaGreatDoorChecked
import Derived.Test.YthhieiabfpkaaaaGreatDoorProg
import Derived.Test.YthhieiabfpkaaaaGreatDoorRows
import Derived.Test.YthhieiabfpkaaaaGreatDoorTie
set_option linter.unusedVariables false
set_option linter.unusedSimpArgs false
namespace Go.Proofs.YthhieiabfpkaaaaGreatDoor
open Go.ChangeShapes Go.WideShapes Go.ChangeAt Go.RowKit Go.X
theorem cd1:Rows.wholeIsolationRow.wfByText (OpenSpec.ofChange Rows.wholeIsolationSpec) = true:=by kernel_rfl
theorem cd2:Tryz.prog.mainIs = some (true,"2f185e0a863ef723f7bfc4460bb5d7de099e2a4e9012692bf3dbf95088192b27".toList):=by kernel_rfl
theorem cd3:true = Tryz.prog.looks []:=by kernel_rfl
theorem cd4:false = Rows.wholeIsolationRow.goesBy Tryz.prog:=by kernel_rfl
end Go.Proofs.YthhieiabfpkaaaaGreatDoor
