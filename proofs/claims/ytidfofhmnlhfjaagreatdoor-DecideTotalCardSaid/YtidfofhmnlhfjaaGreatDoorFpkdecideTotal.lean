/- Proved: the law DecideTotal returns true at every argument, and leaves its arguments as they read; the condition: the listed variables of the library begin as the program's text lays them. -/
import Derived.Test.YtidfofhmnlhfjaaGreatDoorPkT6
namespace Go.Proofs.YtidfofhmnlhfjaaGreatDoor

theorem decideTotal_said : Rows.DecideTotalCardSaid := decideTotal_card (fun c s h hs => decideTotal_law c s (fun d hd l hl => ((h.2 d hd).2 l hl).1) (Nat.le_trans hs (by unfold reachBytes Go.X.LIMS; omega)))

end Go.Proofs.YtidfofhmnlhfjaaGreatDoor
