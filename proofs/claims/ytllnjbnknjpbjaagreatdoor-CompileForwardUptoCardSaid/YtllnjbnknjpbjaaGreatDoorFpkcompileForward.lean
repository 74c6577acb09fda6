/- Proved: the law CompileForwardUpto returns true at every argument, and leaves its arguments as they read; the condition: the listed variables of the library begin as the program's text lays them. -/
import Derived.Test.YtllnjbnknjpbjaaGreatDoorPkKf6
namespace Go.Proofs.YtllnjbnknjpbjaaGreatDoor

theorem compileForward_said : Rows.CompileForwardUptoCardSaid := qjl (fun p _ h => qjy p h)

end Go.Proofs.YtllnjbnknjpbjaaGreatDoor
