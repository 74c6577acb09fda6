/- Proved: the law DecideAccepts returns true at every argument, and leaves its arguments as they read; the condition: the listed variables of the library begin as the program's text lays them. -/
import Derived.Test.YtidfofhmnlhfjaaGreatDoorPkAa6
namespace Go.Proofs.YtidfofhmnlhfjaaGreatDoor

theorem decideAccepts_said : Rows.DecideAcceptsCardSaid := qjV (fun c x z hc hx hz => qkE c x z (fun l hl => (hc.2 l hl).1) (Nat.le_trans hx (by decide)) (qss hz))

end Go.Proofs.YtidfofhmnlhfjaaGreatDoor
