/- Proved: the law ConditionHolds returns true at every argument, and leaves its arguments as they read; the condition: the listed variables of the library begin as the program's text lays them. -/
import Derived.Test.YtbaiahglondepaaGreatDoorRow08c
import Derived.Test.YtbaiahglondepaaGreatDoorCndC
namespace Go.Proofs.YtbaiahglondepaaGreatDoor

theorem conditionHolds_said : Rows.ConditionHoldsCardSaid := conditionHolds_card (fun c s _ => conditionHolds_law c s)

end Go.Proofs.YtbaiahglondepaaGreatDoor
