/- Proved: the law VerifyDamage returns true at every argument, and leaves its arguments as they read; the condition: the listed variables of the library begin as the program's text lays them. -/
import Derived.Test.YtmghnmfefpeelaaDoorRow34rd
import Derived.Test.YtmghnmfefpeelaaDoorVrf5
namespace Go.Proofs.YtmghnmfefpeelaaDoor

theorem verifyDamage_said : Rows.VerifyDamageCardSaid := verifyDamage_card (fun c m p _ _ h => verifyDamage_law c m p (u16_of h.1) (u16_of h.2))

end Go.Proofs.YtmghnmfefpeelaaDoor
