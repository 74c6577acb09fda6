/- Proved: the law NumberInverse returns true at every argument, and leaves its arguments as they read; the condition: the listed variables of the library begin as the program's text lays them. -/
import Derived.Test.YthecjdgffboedaaDoorRow15i
import Derived.Test.YthecjdgffboedaaDoorNum6
namespace Go.Proofs.YthecjdgffboedaaDoor

theorem numberInverse_said : Rows.NumberInverseCardSaid := numberInverse_card numberInverse_pure

end Go.Proofs.YthecjdgffboedaaDoor
