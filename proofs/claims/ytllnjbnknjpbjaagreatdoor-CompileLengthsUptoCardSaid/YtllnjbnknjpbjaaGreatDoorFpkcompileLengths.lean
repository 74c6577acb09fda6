/- Proved: the law CompileLengthsUpto returns true at every argument, and leaves its arguments as they read; the condition: the listed variables of the library begin as the program's text lays them. -/
import Derived.Test.YtllnjbnknjpbjaaGreatDoorPkKl6
namespace Go.Proofs.YtllnjbnknjpbjaaGreatDoor

theorem compileLengths_said : Rows.CompileLengthsUptoCardSaid := qjq (fun p _ h => qjN p h)

end Go.Proofs.YtllnjbnknjpbjaaGreatDoor
