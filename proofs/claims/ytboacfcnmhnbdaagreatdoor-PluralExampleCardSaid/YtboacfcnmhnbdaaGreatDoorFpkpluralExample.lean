/- Proved: the law PluralExample returns true at every argument, and leaves its arguments as they read; the condition: the listed variables of the library begin as the program's text lays them. -/
import Derived.Test.YtboacfcnmhnbdaaGreatDoorPkX7
namespace Go.Proofs.YtboacfcnmhnbdaaGreatDoor

theorem pluralExample_said : Rows.PluralExampleCardSaid := qmZ (fun l c s hl _ hs => qny l c s (fun x hx m hm => ((hl.2 x hx).2.2 m hm).1) (Nat.le_trans hs (by decide)))

end Go.Proofs.YtboacfcnmhnbdaaGreatDoor
