/- Proved: the law DecideSatisfiable returns true at every argument, and leaves its arguments as they read; the condition: the listed variables of the library begin as the program's text lays them. -/
import Derived.Test.YtidfofhmnlhfjaaGreatDoorPkS6
namespace Go.Proofs.YtidfofhmnlhfjaaGreatDoor

theorem decideSatisfiable_said : Rows.DecideSatisfiableCardSaid := decideSatisfiable_card (fun c s h hs => decideSatisfiable_law c s (fun l hl => (h.2 l hl).1) (Nat.le_trans hs (by unfold reachBytes Go.X.LIMS; omega)))

end Go.Proofs.YtidfofhmnlhfjaaGreatDoor
