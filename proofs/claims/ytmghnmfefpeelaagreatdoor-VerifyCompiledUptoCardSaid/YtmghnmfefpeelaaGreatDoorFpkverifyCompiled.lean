/- Proved: the law VerifyCompiledUpto returns true at every argument, and leaves its arguments as they read; the condition: the listed variables of the library begin as the program's text lays them. -/
import Derived.Test.YtmghnmfefpeelaaGreatDoorPkVc5
namespace Go.Proofs.YtmghnmfefpeelaaGreatDoor

theorem verifyCompiled_said : Rows.VerifyCompiledUptoCardSaid := qiS (fun p _ h => qja p h)

end Go.Proofs.YtmghnmfefpeelaaGreatDoor
