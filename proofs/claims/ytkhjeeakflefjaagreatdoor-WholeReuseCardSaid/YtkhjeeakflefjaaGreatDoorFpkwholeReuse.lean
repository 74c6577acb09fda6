/- Proved: the law WholeReuse returns true at every argument, and leaves its arguments as they read; the condition: the listed variables of the library begin as the program's text lays them. -/
import Derived.Test.YtkhjeeakflefjaaGreatDoorPkKw7
namespace Go.Proofs.YtkhjeeakflefjaaGreatDoor

theorem wholeReuse_said : Rows.WholeReuseCardSaid := qm6 (fun a b _ _ => qn8 a b)

end Go.Proofs.YtkhjeeakflefjaaGreatDoor
