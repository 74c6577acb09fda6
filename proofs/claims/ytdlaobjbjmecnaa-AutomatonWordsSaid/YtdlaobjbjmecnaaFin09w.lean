/- Proved: the law AutomatonWords returns true at every argument, and leaves its arguments as they read; no condition is asked. -/
import Derived.Test.YtdlaobjbjmecnaaRow09w
import Derived.Test.YtdlaobjbjmecnaaMinH
namespace Go.Proofs.Ytdlaobjbjmecnaa

theorem automatonWords_said : Rows.AutomatonWordsSaid := automatonWords_holds automatonWords_pure

end Go.Proofs.Ytdlaobjbjmecnaa
