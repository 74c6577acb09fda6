/- Proved: the law WholeIsolation returns true at every argument, and leaves its arguments as they read; the condition: the listed variables of the library begin as the program's text lays them. -/
import Derived.Test.YthhieiabfpkaaaaGreatDoorPkKz6
namespace Go.Proofs.YthhieiabfpkaaaaGreatDoor

theorem wholeIsolation_said : Rows.WholeIsolationCardSaid := qjB (fun a x y ha _ _ => qj6 a x y ha.1 ha.2)

end Go.Proofs.YthhieiabfpkaaaaGreatDoor
