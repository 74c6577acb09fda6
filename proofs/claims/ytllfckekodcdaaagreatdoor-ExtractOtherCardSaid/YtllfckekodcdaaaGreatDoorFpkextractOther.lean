/- Proved: the law ExtractOther returns true at every argument, and leaves its arguments as they read; the condition: the listed variables of the library begin as the program's text lays them. -/
import Derived.Test.YtllfckekodcdaaaGreatDoorPkKv7
namespace Go.Proofs.YtllfckekodcdaaaGreatDoor

theorem extractOther_said : Rows.ExtractOtherCardSaid := qlg (fun a b c h _ _ => qlu a b c h.1)

end Go.Proofs.YtllfckekodcdaaaGreatDoor
