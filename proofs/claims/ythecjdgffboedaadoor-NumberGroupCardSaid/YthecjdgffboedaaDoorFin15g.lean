/- Proved: the law NumberGroup returns true at every argument, and leaves its arguments as they read; the condition: the listed variables of the library begin as the program's text lays them. -/
import Derived.Test.YthecjdgffboedaaDoorRow15g
import Derived.Test.YthecjdgffboedaaDoorNum2
namespace Go.Proofs.YthecjdgffboedaaDoor

theorem numberGroup_said : Rows.NumberGroupCardSaid := numberGroup_card numberGroup_pure

end Go.Proofs.YthecjdgffboedaaDoor
