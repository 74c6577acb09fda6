/- The functions of this part as plain Lean functions, printed by gen.py. -/
import Derived.Test.YtnmiodonophfbaaDoorExt16t
import Derived.Test.YtnmiodonophfbaaDoorExt16u
import Derived.Test.YtnmiodonophfbaaDoorExt16a
import Derived.Test.YtnmiodonophfbaaDoorLibW
set_option linter.unusedVariables false
namespace Go.Proofs.YtnmiodonophfbaaDoor
open Go.X

/-- The loop of list.join: k items are still to come, the last first. -/
def jrun (N : Nat) (p : ListPattern) (zs : List (List UInt8)) : Nat → List UInt8 → Option (List UInt8)
  | 0, rest => some rest
  | k + 1, rest => if 20000 < rest.length then some rest else (list_fill N (if k = 0 then p.Start else p.Middle) (zs[k]?.getD []) rest).bind fun r => jrun N p zs k r
def jok (p : ListPattern) (zs : List (List UInt8)) (rest : List UInt8) : Bool :=
  decide (p.Start.length ≤ 1000000) && (decide (p.Middle.length ≤ 1000000) && (decide (rest.length ≤ 5000000) && (decide (1 ≤ zs.length) && (decide (zs.length ≤ 1000000000) && zs.all fun s => decide (s.length ≤ 1000000)))))
def jl (N : Nat) (p : ListPattern) (zs : List (List UInt8)) (rest : List UInt8) : Option (List UInt8) :=
  if jok p zs rest then jrun N p zs zs.length rest else none

def list_join (N : Nat) (p_0 : ListPattern) (items_1 : List (List UInt8)) : Option (List UInt8) :=
  bif ((items_1.length : Int) == 0) then
    some ([])
  else
    bif ((items_1.length : Int) == 1) then
      (idx items_1 0).bind fun x10 =>
      some x10
    else
      bif ((items_1.length : Int) == 2) then
        (show Option ((List UInt8)) from
          (idx items_1 0).bind fun x23 =>
          (idx items_1 1).bind fun x33 =>
          (list_fill N p_0.Two x23 x33).bind fun r43 =>
          some r43).bind fun o21 =>
        some o21
      else
        (show Option ((List UInt8)) from
          (idx items_1 (IntKind.wrap .i64 ((items_1.length : Int) - 2))).bind fun x67 =>
          (idx items_1 (IntKind.wrap .i64 ((items_1.length : Int) - 1))).bind fun x77 =>
          (list_fill N p_0.End x67 x77).bind fun r87 =>
          some r87).bind fun o64 =>
        (slc items_1 0 (IntKind.wrap .i64 ((items_1.length : Int) - 2))).bind fun l113 =>
        jl N p_0 l113 o64

end Go.Proofs.YtnmiodonophfbaaDoor
