/- Proved: the law DecideSets returns true at every argument, and leaves its arguments as they read; the condition: the listed variables of the library begin as the program's text lays them. -/
import Derived.Test.YtidfofhmnlhfjaaDoorPkAc6
namespace Go.Proofs.YtidfofhmnlhfjaaDoor

theorem decideSets_said : Rows.DecideSetsCardSaid := qmv (fun a b ha hb => qnf a b (fun l hl => (ha.2 l hl).1) (fun l hl => (hb.2 l hl).1))

end Go.Proofs.YtidfofhmnlhfjaaDoor
