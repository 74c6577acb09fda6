/- Proved: the law AutomatonCount returns true at every argument, and leaves its arguments as they read; no condition is asked. -/
import Derived.Test.YtdlaobjbjmecnaaRow09c
import Derived.Test.YtdlaobjbjmecnaaMinF
namespace Go.Proofs.Ytdlaobjbjmecnaa

theorem automatonCount_said : Rows.AutomatonCountSaid := automatonCount_holds automatonCount_pure

end Go.Proofs.Ytdlaobjbjmecnaa
