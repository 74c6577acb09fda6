/- Proved: the law VerifyProper returns true at every argument, and leaves its arguments as they read; the condition: the listed variables of the library begin as the program's text lays them. -/
import Derived.Test.YtmghnmfefpeelaaDoorRow34rp
import Derived.Test.YtmghnmfefpeelaaDoorVrf3
namespace Go.Proofs.YtmghnmfefpeelaaDoor

theorem verifyProper_said : Rows.VerifyProperCardSaid := verifyProper_card (fun c i _ _ => verifyProper_law c i)

end Go.Proofs.YtmghnmfefpeelaaDoor
