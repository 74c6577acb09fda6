/- Proved: the law ScanMatch returns true at every argument, and leaves its arguments as they read; no condition is asked. -/
import Derived.Test.YtmmioinglmeoiaaPkSm4
namespace Go.Proofs.Ytmmioinglmeoiaa

theorem scanMatch_said : Rows.ScanMatchSaid := scanMatch_holds scanMatch_law

end Go.Proofs.Ytmmioinglmeoiaa
