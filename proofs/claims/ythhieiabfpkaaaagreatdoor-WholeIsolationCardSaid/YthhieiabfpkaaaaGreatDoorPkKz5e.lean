/- Texts of this proof, joined by pack.py. -/
import Derived.Test.YthhieiabfpkaaaaGreatDoorPkKz5f
import Derived.Test.YthhieiabfpkaaaaGreatDoorCards
import Derived.Test.YthhieiabfpkaaaaGreatDoorChecked
import Derived.Test.YthhieiabfpkaaaaGreatDoorProg
import Derived.Test.YthhieiabfpkaaaaGreatDoorRows
import Derived.Test.YthhieiabfpkaaaaGreatDoorTie
set_option linter.unusedVariables false
set_option linter.unusedSimpArgs false
namespace Go.Proofs.YthhieiabfpkaaaaGreatDoor
open Go.ChangeShapes Go.WideShapes Go.ChangeAt Go.RowKit Go.X
set_option maxRecDepth 100000 in
theorem qjB (hp:∀ x0 x1 x2,(x0.Before.length ≤ reachBytes ∧ x0.After.length ≤ reachBytes) → (x1.length ≤ reachBytes) → (x2.length ≤ reachBytes) → ∃ N,qbk N x0 x1 x2 = some true):Rows.WholeIsolationCardSaid :=
 Claim7.holds_tied_plain_at .later [] [.data,.data,.data,.data,.sentinel,.sentinel,.pinned] true (true, "2f185e0a863ef723f7bfc4460bb5d7de099e2a4e9012692bf3dbf95088192b27") true (qjh hp) (fun _ h=>by cases h) cd1 (fun _ h=>by cases h) wholeIsolation_row_tie rfl ⟨rfl,rfl⟩ cd2 rfl
  (fun f fn hf hfn=>by
   obtain rfl:f = 3:=Option.some.inj ((show Tryz.prog.funcNamed "calque/calquetop.WholeIsolation" = some 3 by kernel_rfl).symm.trans hf) |>.symm
   obtain rfl:fn = Tryz.f3:=(Option.some.inj (Tryz.func3.symm.trans hfn)).symm
   exact ⟨cd3,fun j t ht=>by
    rw [Tryz.params3] at ht
    have hm:t ∈ [23,9,9]:=by simpa using Array.mem_of_getElem? ht
    have hall:([23,9,9].all fun u=>!Tryz.prog.wantsStandIn u) = true:=by kernel_rfl
    exact (show Tryz.prog.wantsStandIn t = false by simpa using List.all_eq_true.1 hall t hm)⟩)
  cd4
end Go.Proofs.YthhieiabfpkaaaaGreatDoor
