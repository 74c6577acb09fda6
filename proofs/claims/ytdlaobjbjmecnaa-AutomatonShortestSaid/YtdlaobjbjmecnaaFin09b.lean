/- Proved: the law AutomatonShortest returns true at every automaton and every string, and leaves its arguments as they read; no condition is asked. -/
import Derived.Test.YtdlaobjbjmecnaaRow09a
import Derived.Test.YtdlaobjbjmecnaaPure09c
namespace Go.Proofs.Ytdlaobjbjmecnaa

theorem automatonShortest_said : Rows.AutomatonShortestSaid := automatonShortest_holds automatonShortest_pure

end Go.Proofs.Ytdlaobjbjmecnaa
