/- Proved: the law CompileTexts returns true at every argument, and leaves its arguments as they read; the condition: the listed variables of the library begin as the program's text lays them. -/
import Derived.Test.YtllnjbnknjpbjaaGreatDoorPkKx6
namespace Go.Proofs.YtllnjbnknjpbjaaGreatDoor

theorem compileTexts_said : Rows.CompileTextsCardSaid := qjO (fun a b ha _ => qjX a b (fun x hx => ⟨(ha.2.2 x hx).1, (ha.2.2 x hx).2.1, (ha.2.2 x hx).2.2.1⟩))

end Go.Proofs.YtllnjbnknjpbjaaGreatDoor
