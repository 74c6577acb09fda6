/- Proved: the law CompileCodeUpto returns true at every argument, and leaves its arguments as they read; the condition: the listed variables of the library begin as the program's text lays them. -/
import Derived.Test.YtllnjbnknjpbjaaGreatDoorPkKc7
namespace Go.Proofs.YtllnjbnknjpbjaaGreatDoor

theorem compileCode_said : Rows.CompileCodeUptoCardSaid := qlN (fun p _ h => qmx p h)

end Go.Proofs.YtllnjbnknjpbjaaGreatDoor
