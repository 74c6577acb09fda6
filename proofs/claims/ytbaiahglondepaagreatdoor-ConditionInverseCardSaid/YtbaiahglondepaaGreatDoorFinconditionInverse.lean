/- Proved: the law ConditionInverse returns true at every argument, and leaves its arguments as they read; the condition: the listed variables of the library begin as the program's text lays them. -/
import Derived.Test.YtbaiahglondepaaGreatDoorRow08q
import Derived.Test.YtbaiahglondepaaGreatDoorCndI
namespace Go.Proofs.YtbaiahglondepaaGreatDoor

theorem conditionInverse_said : Rows.ConditionInverseCardSaid := conditionInverse_card (fun c s hc _ => conditionInverse_law c s ⟨hc.1, fun l hl => (hc.2 l hl).1⟩)

end Go.Proofs.YtbaiahglondepaaGreatDoor
