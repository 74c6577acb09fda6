/- Proved: the law NumberParse returns true at every argument, and leaves its arguments as they read; the condition: the listed variables of the library begin as the program's text lays them. -/
import Derived.Test.YthecjdgffboedaaDoorRow15p
import Derived.Test.YthecjdgffboedaaDoorNum5
namespace Go.Proofs.YthecjdgffboedaaDoor

theorem numberParse_said : Rows.NumberParseCardSaid := numberParse_card numberParse_pure

end Go.Proofs.YthecjdgffboedaaDoor
