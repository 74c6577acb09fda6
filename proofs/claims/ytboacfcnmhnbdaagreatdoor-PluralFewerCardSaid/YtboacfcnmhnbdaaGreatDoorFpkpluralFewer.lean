/- Proved: the law PluralFewer returns true at every argument, and leaves its arguments as they read; the condition: the listed variables of the library begin as the program's text lays them. -/
import Derived.Test.YtboacfcnmhnbdaaGreatDoorPkF6
namespace Go.Proofs.YtboacfcnmhnbdaaGreatDoor

theorem pluralFewer_said : Rows.PluralFewerCardSaid := pluralFewer_card (fun l s k hl hs hk => pluralFewer_law l s k (fun x hx m hm => ((hl.2 x hx).2.2 m hm).1) (Nat.le_trans hl.1 (by decide)) (Nat.le_trans hs (by decide)) hk)

end Go.Proofs.YtboacfcnmhnbdaaGreatDoor
