/- Proved: the law ConditionLogic returns true at every argument, and leaves its arguments as they read; the condition: the listed variables of the library begin as the program's text lays them. -/
import Derived.Test.YtbaiahglondepaaGreatDoorRow08d
import Derived.Test.YtbaiahglondepaaGreatDoorCndD
namespace Go.Proofs.YtbaiahglondepaaGreatDoor

theorem conditionLogic_said : Rows.ConditionLogicCardSaid := conditionLogic_card (fun c d s _ _ hs => conditionLogic_law c d s (by unfold reachBytes at hs; unfold Go.X.LIMS; omega))

end Go.Proofs.YtbaiahglondepaaGreatDoor
