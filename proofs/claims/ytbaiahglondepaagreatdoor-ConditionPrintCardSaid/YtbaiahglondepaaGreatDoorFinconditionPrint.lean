/- Proved: the law ConditionPrint returns true at every argument, and leaves its arguments as they read; the condition: the listed variables of the library begin as the program's text lays them. -/
import Derived.Test.YtbaiahglondepaaGreatDoorRow08p
import Derived.Test.YtbaiahglondepaaGreatDoorCndF
namespace Go.Proofs.YtbaiahglondepaaGreatDoor

theorem conditionPrint_said : Rows.ConditionPrintCardSaid := conditionPrint_card (fun c d hc _ => conditionPrint_law c d ⟨hc.1, fun l hl => (hc.2 l hl).1⟩)

end Go.Proofs.YtbaiahglondepaaGreatDoor
