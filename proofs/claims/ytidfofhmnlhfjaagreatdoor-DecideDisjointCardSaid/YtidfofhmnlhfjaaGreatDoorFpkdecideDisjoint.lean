/- Proved: the law DecideDisjoint returns true at every argument, and leaves its arguments as they read; the condition: the listed variables of the library begin as the program's text lays them. -/
import Derived.Test.YtidfofhmnlhfjaaGreatDoorPkD6
namespace Go.Proofs.YtidfofhmnlhfjaaGreatDoor

theorem decideDisjoint_said : Rows.DecideDisjointCardSaid := decideDisjoint_card (fun l num hl hn => decideDisjoint_law l num (fun c hc x hx => ((hl.2 c hc).2 x hx).1) (Nat.le_trans hn (by unfold reachBytes Go.X.LIMS; omega)))

end Go.Proofs.YtidfofhmnlhfjaaGreatDoor
