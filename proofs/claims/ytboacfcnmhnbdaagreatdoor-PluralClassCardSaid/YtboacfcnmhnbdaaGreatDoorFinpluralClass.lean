/- Proved: the law PluralClass returns true at every argument, and leaves its arguments as they read; the condition: the listed variables of the library begin as the program's text lays them. -/
import Derived.Test.YtboacfcnmhnbdaaGreatDoorRow14c
import Derived.Test.YtboacfcnmhnbdaaGreatDoorPlA
namespace Go.Proofs.YtboacfcnmhnbdaaGreatDoor

theorem pluralClass_said : Rows.PluralClassCardSaid := pluralClass_card (fun l s _ _ => pluralClass_law l s)

end Go.Proofs.YtboacfcnmhnbdaaGreatDoor
