/- Proved: the law CompileOneUpto returns true at every argument, and leaves its arguments as they read; the condition: the listed variables of the library begin as the program's text lays them. -/
import Derived.Test.YtllnjbnknjpbjaaGreatDoorPkKo6
namespace Go.Proofs.YtllnjbnknjpbjaaGreatDoor

theorem compileOne_said : Rows.CompileOneUptoCardSaid := qln (fun p q _ _ h => qlw p q h)

end Go.Proofs.YtllnjbnknjpbjaaGreatDoor
