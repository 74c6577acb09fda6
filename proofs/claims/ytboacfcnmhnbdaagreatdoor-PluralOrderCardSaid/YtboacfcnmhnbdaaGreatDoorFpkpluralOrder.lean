/- Proved: the law PluralOrder returns true at every argument, and leaves its arguments as they read; the condition: the listed variables of the library begin as the program's text lays them. -/
import Derived.Test.YtboacfcnmhnbdaaGreatDoorPkOr6
namespace Go.Proofs.YtboacfcnmhnbdaaGreatDoor

theorem pluralOrder_said : Rows.PluralOrderCardSaid := qmK (fun l s hl hs => qnq l s (fun x hx m hm => ((hl.2 x hx).2.2 m hm).1) (Nat.le_trans hs (by decide)))

end Go.Proofs.YtboacfcnmhnbdaaGreatDoor
