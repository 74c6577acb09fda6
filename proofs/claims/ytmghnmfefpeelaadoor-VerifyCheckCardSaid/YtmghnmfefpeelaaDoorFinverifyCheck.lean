/- Proved: the law VerifyCheck returns true at every argument, and leaves its arguments as they read; the condition: the listed variables of the library begin as the program's text lays them. -/
import Derived.Test.YtmghnmfefpeelaaDoorRow34rc
import Derived.Test.YtmghnmfefpeelaaDoorVrf6
namespace Go.Proofs.YtmghnmfefpeelaaDoor

theorem verifyCheck_said : Rows.VerifyCheckCardSaid := verifyCheck_card (fun c _ => verifyCheck_law c)

end Go.Proofs.YtmghnmfefpeelaaDoor
