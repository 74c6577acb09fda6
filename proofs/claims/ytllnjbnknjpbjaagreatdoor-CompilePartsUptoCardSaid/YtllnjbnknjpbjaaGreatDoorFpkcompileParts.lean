/- Proved: the law CompilePartsUpto returns true at every argument, and leaves its arguments as they read; the condition: the listed variables of the library begin as the program's text lays them. -/
import Derived.Test.YtllnjbnknjpbjaaGreatDoorPkKp6
namespace Go.Proofs.YtllnjbnknjpbjaaGreatDoor

theorem compileParts_said : Rows.CompilePartsUptoCardSaid := qk7 (fun p a _ ha h => qlh p a ha (Nat.le_trans (Nat.le_add_right _ _) h))

end Go.Proofs.YtllnjbnknjpbjaaGreatDoor
