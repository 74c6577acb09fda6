/- Proved: the law ExtractTwice returns true at every argument, and leaves its arguments as they read; the condition: the listed variables of the library begin as the program's text lays them. -/
import Derived.Test.YtllfckekodcdaaaGreatDoorPkKw6
namespace Go.Proofs.YtllfckekodcdaaaGreatDoor

theorem extractTwice_said : Rows.ExtractTwiceCardSaid := qkU (fun a b h _ => qlc a b h.1)

end Go.Proofs.YtllfckekodcdaaaGreatDoor
