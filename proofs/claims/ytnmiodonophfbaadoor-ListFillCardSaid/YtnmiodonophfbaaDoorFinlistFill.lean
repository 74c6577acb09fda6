/- Proved: the law ListFill returns true at every argument, and leaves its arguments as they read; the condition: the listed variables of the library begin as the program's text lays them. -/
import Derived.Test.YtnmiodonophfbaaDoorRow16rf
import Derived.Test.YtnmiodonophfbaaDoorLst6
namespace Go.Proofs.YtnmiodonophfbaaDoor

theorem listFill_said : Rows.ListFillCardSaid := listFill_card (fun l s ab _ _ hab => listFill_law l s ab hab.1 hab.2)

end Go.Proofs.YtnmiodonophfbaaDoor
