/- Proved: the law VerifyStraight returns true at every argument, and leaves its arguments as they read; the condition: the listed variables of the library begin as the program's text lays them. -/
import Derived.Test.YtmghnmfefpeelaaDoorRow34rs
import Derived.Test.YtmghnmfefpeelaaDoorVrf5
namespace Go.Proofs.YtmghnmfefpeelaaDoor

theorem verifyStraight_said : Rows.VerifyStraightCardSaid := verifyStraight_card (fun c _ => verifyStraight_law c)

end Go.Proofs.YtmghnmfefpeelaaDoor
