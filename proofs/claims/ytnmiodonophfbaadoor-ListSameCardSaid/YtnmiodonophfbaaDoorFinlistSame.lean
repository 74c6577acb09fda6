/- Proved: the law ListSame returns true at every argument, and leaves its arguments as they read; the condition: the listed variables of the library begin as the program's text lays them. -/
import Derived.Test.YtnmiodonophfbaaDoorRow16rm
import Derived.Test.YtnmiodonophfbaaDoorLst5
namespace Go.Proofs.YtnmiodonophfbaaDoor

theorem listSame_said : Rows.ListSameCardSaid := listSame_card (fun s items hs hi => listSame_law s items hs hi.2)

end Go.Proofs.YtnmiodonophfbaaDoor
