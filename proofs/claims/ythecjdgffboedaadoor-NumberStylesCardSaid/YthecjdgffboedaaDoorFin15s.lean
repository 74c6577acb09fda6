/- Proved: the law NumberStyles returns true at every argument, and leaves its arguments as they read; the condition: the listed variables of the library begin as the program's text lays them. -/
import Derived.Test.YthecjdgffboedaaDoorRow15s
import Derived.Test.YthecjdgffboedaaDoorNum4
namespace Go.Proofs.YthecjdgffboedaaDoor

theorem numberStyles_said : Rows.NumberStylesCardSaid := numberStyles_card numberStyles_pure

end Go.Proofs.YthecjdgffboedaaDoor
