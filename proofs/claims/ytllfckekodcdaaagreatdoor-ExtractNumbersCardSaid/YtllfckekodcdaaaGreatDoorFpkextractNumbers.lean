/- Proved: the law ExtractNumbers returns true at every argument, and leaves its arguments as they read; the condition: the listed variables of the library begin as the program's text lays them. -/
import Derived.Test.YtllfckekodcdaaaGreatDoorPkKn7
namespace Go.Proofs.YtllfckekodcdaaaGreatDoor

theorem extractNumbers_said : Rows.ExtractNumbersCardSaid := qll fun a b h _ => qlt a b h.1

end Go.Proofs.YtllfckekodcdaaaGreatDoor
