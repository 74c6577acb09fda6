/- Proved: the law ListElements returns true at every argument, and leaves its arguments as they read; the condition: the listed variables of the library begin as the program's text lays them. -/
import Derived.Test.YtnmiodonophfbaaDoorRow16re
import Derived.Test.YtnmiodonophfbaaDoorLst5
namespace Go.Proofs.YtnmiodonophfbaaDoor

theorem listElements_said : Rows.ListElementsCardSaid := listElements_card (fun p items hp hi => listElements_law p items ⟨hp.1, hp.2.1, hp.2.2.1, hp.2.2.2.1, hp.2.2.2.2, hi.2⟩)

end Go.Proofs.YtnmiodonophfbaaDoor
