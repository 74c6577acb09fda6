/- Proved: the law ExtractParts returns true at every argument, and leaves its arguments as they read; the condition: the listed variables of the library begin as the program's text lays them. -/
import Derived.Test.YtllfckekodcdaaaGreatDoorPkKp6
namespace Go.Proofs.YtllfckekodcdaaaGreatDoor

theorem extractParts_said : Rows.ExtractPartsCardSaid := qkX fun a b c h _ hc => qll a b c h.1 hc

end Go.Proofs.YtllfckekodcdaaaGreatDoor
