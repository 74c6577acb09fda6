/- Proved: the law ScanPrint returns true at every argument, and leaves its arguments as they read; no condition is asked. -/
import Derived.Test.YtmmioinglmeoiaaPkSp6
namespace Go.Proofs.Ytmmioinglmeoiaa

theorem scanPrint_said : Rows.ScanPrintSaid := scanPrint_holds scanPrint_law

end Go.Proofs.Ytmmioinglmeoiaa
