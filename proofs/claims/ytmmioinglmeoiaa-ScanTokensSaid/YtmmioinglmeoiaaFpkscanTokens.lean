/- Proved: the law ScanTokens returns true at every argument, and leaves its arguments as they read; no condition is asked. -/
import Derived.Test.YtmmioinglmeoiaaPkSk5
namespace Go.Proofs.Ytmmioinglmeoiaa

theorem scanTokens_said : Rows.ScanTokensSaid := scanTokens_holds scanTokens_law

end Go.Proofs.Ytmmioinglmeoiaa
