/- Proved: the law ScanParse returns true at every argument, and leaves its arguments as they read; no condition is asked. -/
import Derived.Test.YtmmioinglmeoiaaPkSq6
namespace Go.Proofs.Ytmmioinglmeoiaa

theorem scanParse_said : Rows.ScanParseSaid := scanParse_holds scanParse_law

end Go.Proofs.Ytmmioinglmeoiaa
