/- Proved: the law PluralClasses returns true at every argument, and leaves its arguments as they read; the condition: the listed variables of the library begin as the program's text lays them. -/
import Derived.Test.YtboacfcnmhnbdaaGreatDoorPkS7
namespace Go.Proofs.YtboacfcnmhnbdaaGreatDoor

theorem pluralClasses_said : Rows.PluralClassesCardSaid := qmR (fun l hl => qnr l (fun x hx m hm => ((hl.2 x hx).2.2 m hm).1))

end Go.Proofs.YtboacfcnmhnbdaaGreatDoor
