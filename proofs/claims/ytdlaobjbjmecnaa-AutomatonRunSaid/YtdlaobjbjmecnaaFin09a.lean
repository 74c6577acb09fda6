/- Proved: the law AutomatonRun returns true at every automaton and every string, and leaves its arguments as they read; no condition is asked. -/
import Derived.Test.YtdlaobjbjmecnaaRow09a
import Derived.Test.YtdlaobjbjmecnaaPure09a
namespace Go.Proofs.Ytdlaobjbjmecnaa

theorem automatonRun_said : Rows.AutomatonRunSaid := automatonRun_holds automatonRun_pure

end Go.Proofs.Ytdlaobjbjmecnaa
