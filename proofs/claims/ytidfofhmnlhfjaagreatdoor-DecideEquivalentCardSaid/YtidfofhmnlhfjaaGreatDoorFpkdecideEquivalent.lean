/- Proved: the law DecideEquivalent returns true at every argument, and leaves its arguments as they read; the condition: the listed variables of the library begin as the program's text lays them. -/
import Derived.Test.YtidfofhmnlhfjaaGreatDoorPkE6
namespace Go.Proofs.YtidfofhmnlhfjaaGreatDoor

theorem decideEquivalent_said : Rows.DecideEquivalentCardSaid := decideEquivalent_card (fun a b s ha hb hs => decideEquivalent_law a b s (fun l hl => (ha.2 l hl).1) (fun l hl => (hb.2 l hl).1) (Nat.le_trans hs (by unfold reachBytes Go.X.LIMS; omega)))

end Go.Proofs.YtidfofhmnlhfjaaGreatDoor
