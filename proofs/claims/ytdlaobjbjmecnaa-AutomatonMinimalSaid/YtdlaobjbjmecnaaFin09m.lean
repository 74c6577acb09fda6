/- Proved: the law AutomatonMinimal returns true at every argument, and leaves its arguments as they read; no condition is asked. -/
import Derived.Test.YtdlaobjbjmecnaaRow09m
import Derived.Test.YtdlaobjbjmecnaaMinE
namespace Go.Proofs.Ytdlaobjbjmecnaa

theorem automatonMinimal_said : Rows.AutomatonMinimalSaid := automatonMinimal_holds automatonMinimal_pure

end Go.Proofs.Ytdlaobjbjmecnaa
