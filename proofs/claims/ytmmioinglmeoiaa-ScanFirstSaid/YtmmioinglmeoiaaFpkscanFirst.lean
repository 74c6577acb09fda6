/- Proved: the law ScanFirst returns true at every argument, and leaves its arguments as they read; no condition is asked. -/
import Derived.Test.YtmmioinglmeoiaaPkSf5
namespace Go.Proofs.Ytmmioinglmeoiaa

theorem scanFirst_said : Rows.ScanFirstSaid := scanFirst_holds scanFirst_law

end Go.Proofs.Ytmmioinglmeoiaa
