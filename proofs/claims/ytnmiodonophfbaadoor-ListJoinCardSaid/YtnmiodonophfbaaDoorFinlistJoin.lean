/- Proved: the law ListJoin returns true at every argument, and leaves its arguments as they read; the condition: the listed variables of the library begin as the program's text lays them. -/
import Derived.Test.YtnmiodonophfbaaDoorRow16rj
import Derived.Test.YtnmiodonophfbaaDoorLst5
namespace Go.Proofs.YtnmiodonophfbaaDoor

theorem listJoin_said : Rows.ListJoinCardSaid := listJoin_card (fun p s items hp _ hi => listJoin_law p s items ⟨hp.1, hp.2.1, hp.2.2.1, hp.2.2.2.1, hp.2.2.2.2, hi.2⟩)

end Go.Proofs.YtnmiodonophfbaaDoor
