/- Proved: the law ConditionValues returns true at every argument, and leaves its arguments as they read; the condition: the listed variables of the library begin as the program's text lays them. -/
import Derived.Test.YtbaiahglondepaaGreatDoorRow08i
import Derived.Test.YtbaiahglondepaaGreatDoorCndD
namespace Go.Proofs.YtbaiahglondepaaGreatDoor

theorem conditionValues_said : Rows.ConditionValuesCardSaid := conditionValues_card (fun c s _ hs => conditionValues_law c s (by unfold reachBytes at hs; unfold Go.X.LIMS; omega))

end Go.Proofs.YtbaiahglondepaaGreatDoor
