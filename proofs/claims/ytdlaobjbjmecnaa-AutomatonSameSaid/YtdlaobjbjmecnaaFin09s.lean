/- Proved: the law AutomatonSame returns true at every argument, and leaves its arguments as they read; no condition is asked. -/
import Derived.Test.YtdlaobjbjmecnaaRow09s
import Derived.Test.YtdlaobjbjmecnaaMinE
namespace Go.Proofs.Ytdlaobjbjmecnaa

theorem automatonSame_said : Rows.AutomatonSameSaid := automatonSame_holds automatonSame_pure

end Go.Proofs.Ytdlaobjbjmecnaa
