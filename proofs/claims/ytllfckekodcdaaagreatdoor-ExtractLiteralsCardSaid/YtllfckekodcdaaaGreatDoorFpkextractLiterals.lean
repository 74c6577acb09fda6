/- Proved: the law ExtractLiterals returns true at every argument, and leaves its arguments as they read; the condition: the listed variables of the library begin as the program's text lays them. -/
import Derived.Test.YtllfckekodcdaaaGreatDoorPkKl7
namespace Go.Proofs.YtllfckekodcdaaaGreatDoor

theorem extractLiterals_said : Rows.ExtractLiteralsCardSaid := qiW (fun a b _ _ => qjn a b)

end Go.Proofs.YtllfckekodcdaaaGreatDoor
