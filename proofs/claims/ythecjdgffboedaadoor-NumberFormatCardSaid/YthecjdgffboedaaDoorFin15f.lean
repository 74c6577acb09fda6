/- Proved: the law NumberFormat returns true at every argument, and leaves its arguments as they read; the condition: the listed variables of the library begin as the program's text lays them. -/
import Derived.Test.YthecjdgffboedaaDoorRow15f
import Derived.Test.YthecjdgffboedaaDoorNum4
namespace Go.Proofs.YthecjdgffboedaaDoor

theorem numberFormat_said : Rows.NumberFormatCardSaid := numberFormat_card numberFormat_pure

end Go.Proofs.YthecjdgffboedaaDoor
