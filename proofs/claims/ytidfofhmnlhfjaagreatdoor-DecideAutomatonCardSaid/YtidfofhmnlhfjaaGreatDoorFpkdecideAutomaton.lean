/- Proved: the law DecideAutomaton returns true at every argument, and leaves its arguments as they read; the condition: the listed variables of the library begin as the program's text lays them. -/
import Derived.Test.YtidfofhmnlhfjaaGreatDoorPkAb7
namespace Go.Proofs.YtidfofhmnlhfjaaGreatDoor

theorem decideAutomaton_said : Rows.DecideAutomatonCardSaid := qki (fun c hc => qk2 c (fun l hl => (hc.2 l hl).1))

end Go.Proofs.YtidfofhmnlhfjaaGreatDoor
