/- Proved: the law AutomatonMorgan returns true at every argument, and leaves its arguments as they read; no condition is asked. -/
import Derived.Test.YtdlaobjbjmecnaaRow09o
import Derived.Test.YtdlaobjbjmecnaaMinH
namespace Go.Proofs.Ytdlaobjbjmecnaa

theorem automatonMorgan_said : Rows.AutomatonMorganSaid := automatonMorgan_holds automatonMorgan_pure

end Go.Proofs.Ytdlaobjbjmecnaa
