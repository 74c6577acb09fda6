/- Proved: the law ConditionSpans returns true at every argument, and leaves its arguments as they read; the condition: the listed variables of the library begin as the program's text lays them. -/
import Derived.Test.YtbaiahglondepaaGreatDoorRow08h
import Derived.Test.YtbaiahglondepaaGreatDoorCndE
namespace Go.Proofs.YtbaiahglondepaaGreatDoor

theorem conditionSpans_said : Rows.ConditionSpansCardSaid := conditionSpans_card (fun c s a hc hs ha => conditionSpans_law c s a ⟨hc.1, fun l hl => (hc.2 l hl).1⟩ (by unfold reachBytes at hs; unfold Go.X.LIMS; omega) (Go.X.inR_u8.1 ha).1)

end Go.Proofs.YtbaiahglondepaaGreatDoor
