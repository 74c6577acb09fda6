/- Proved: the law ScanWhole returns true at every argument, and leaves its arguments as they read; no condition is asked. -/
import Derived.Test.YtmmioinglmeoiaaPkSw4
namespace Go.Proofs.Ytmmioinglmeoiaa

theorem scanWhole_said : Rows.ScanWholeSaid := scanWhole_holds scanWhole_law

end Go.Proofs.Ytmmioinglmeoiaa
