/- Proved: the law VerifyNames returns true at every argument, and leaves its arguments as they read; the condition: the listed variables of the library begin as the program's text lays them. -/
import Derived.Test.YtmghnmfefpeelaaDoorRow34rn
import Derived.Test.YtmghnmfefpeelaaDoorVrf5
namespace Go.Proofs.YtmghnmfefpeelaaDoor

theorem verifyNames_said : Rows.VerifyNamesCardSaid := verifyNames_card (fun c x _ _ => verifyNames_law c x)

end Go.Proofs.YtmghnmfefpeelaaDoor
