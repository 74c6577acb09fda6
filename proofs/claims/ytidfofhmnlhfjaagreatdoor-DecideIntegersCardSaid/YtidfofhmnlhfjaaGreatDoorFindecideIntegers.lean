/- Proved: the law DecideIntegers returns true at every argument, and leaves its arguments as they read; the condition: the listed variables of the library begin as the program's text lays them. -/
import Derived.Test.YtidfofhmnlhfjaaGreatDoorRow10ri
import Derived.Test.YtidfofhmnlhfjaaGreatDoorDcd5
namespace Go.Proofs.YtidfofhmnlhfjaaGreatDoor

theorem decideIntegers_said : Rows.DecideIntegersCardSaid := decideIntegers_card (fun c n k _ h1 h2 => decideIntegers_law c n k (u16_of h1) (u16_of h2))

end Go.Proofs.YtidfofhmnlhfjaaGreatDoor
