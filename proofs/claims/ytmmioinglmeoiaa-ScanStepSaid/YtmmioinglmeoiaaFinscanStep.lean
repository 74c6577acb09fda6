/- Proved: the law ScanStep returns true at every argument, and leaves its arguments as they read; no condition is asked. -/
import Derived.Test.YtmmioinglmeoiaaRow44rs
import Derived.Test.YtmmioinglmeoiaaScn8s
namespace Go.Proofs.Ytmmioinglmeoiaa

theorem scanStep_said : Rows.ScanStepSaid := scanStep_holds scanStep_law

end Go.Proofs.Ytmmioinglmeoiaa
