/- Proved: the law AutomatonSets returns true at every argument, and leaves its arguments as they read; no condition is asked. -/
import Derived.Test.YtdlaobjbjmecnaaRow09e
import Derived.Test.YtdlaobjbjmecnaaMinI
namespace Go.Proofs.Ytdlaobjbjmecnaa

theorem automatonSets_said : Rows.AutomatonSetsSaid := automatonSets_holds automatonSets_pure

end Go.Proofs.Ytdlaobjbjmecnaa
