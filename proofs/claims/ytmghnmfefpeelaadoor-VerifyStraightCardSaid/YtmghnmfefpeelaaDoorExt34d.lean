/- The functions of this part as plain Lean functions, printed by gen8.py. -/
import Derived.Test.YtmghnmfefpeelaaDoorExt34a1
import Derived.Test.YtmghnmfefpeelaaDoorExt34a2
import Derived.Test.YtmghnmfefpeelaaDoorLibLM
set_option linter.unusedVariables false
namespace Go.Proofs.YtmghnmfefpeelaaDoor
open Go.X

structure Arr2_Int where
  e0 : Int
  e1 : Int

def Arr2_Int.list (a : Arr2_Int) : List (Int) := [a.e0, a.e1]
def Arr2_Int.of : List (Int) → Option Arr2_Int
  | [x0, x1] => some ⟨x0, x1⟩
  | _ => none
def Arr2_Int.get (a : Arr2_Int) (i : Int) : Option (Int) := idx a.list i
def Arr2_Int.set (a : Arr2_Int) (i : Int) (x : Int) : Option Arr2_Int := (setI a.list i x).bind Arr2_Int.of

def calquelaw34_VerifyDamage (N : Nat) (c_0 : Code) (more_1 : Ins) (at_2 : Arr2_Int) : Option Bool :=
  (calquelaw34_awake N ).bind fun r14 =>
  bif (!r14) then
    some false
  else
    (calqueref33_Few N c_0).bind fun r17 =>
    bif (!r17) then
      some true
    else
      bif (decide ((more_1.S.length : Int) > 300)) then
        some true
      else
        (calquelaw33_Own N c_0).bind fun r21 =>
        (verify_Check N r21).bind fun r31 =>
        bif (r31.2 != 0) then
          some (r31.2 != 0)
        else
          bif ((r21.Ins.length : Int) == 0) then
            some (r31.2 != 0)
          else
            (show Option Code from
              (slc r21.Ins 0 (IntKind.wrap .i64 ((r21.Ins.length : Int) - 1))).bind fun l43 =>
              some (Code.mk r21.Names l43)).bind fun o37 =>
            (show Option Code from
              (app ([] : List (Ins)) r21.Ins).bind fun l68 =>
              (app l68 ([more_1] : List (Ins))).bind fun l76 =>
              some (Code.mk r21.Names l76)).bind fun o58 =>
            (verify_Check N o37).bind fun r220 =>
            (verify_Check N o58).bind fun r229 =>
            bif (r220.2 == 0) then
              some false
            else
              bif (r229.2 == 0) then
                some false
              else
                (rm (IntKind.wrap .i64 at_2.e0) (r21.Ins.length : Int)).bind fun q235 =>
                (idx r21.Ins q235).bind fun x237 =>
                bif (x237.Op != 11) then
                  (idx r21.Ins q235).bind fun x251 =>
                  bif (x251.Op != 12) then
                    some true
                  else
                    (show Option Code from
                      (app ([] : List (Ins)) r21.Ins).bind fun l275 =>
                      some (Code.mk r21.Names l275)).bind fun o265 =>
                    (show Option Code from
                      (rm (IntKind.wrap .i64 at_2.e1) (IntKind.wrap .i64 (q235 + 1))).bind fun q311 =>
                      (idx o265.Ins q235).bind fun x313 =>
                      (setI o265.Ins q235 (Ins.mk x313.Op q311 x313.B x313.S)).bind fun l323 =>
                      some (Code.mk o265.Names l323)).bind fun o305 =>
                    (verify_Check N o305).bind fun r347 =>
                    bif (r347.2 == 4) then
                      some (decide (r347.1 ≤ q235))
                    else
                      some false
                else
                  (show Option Code from
                    (app ([] : List (Ins)) r21.Ins).bind fun l362 =>
                    some (Code.mk r21.Names l362)).bind fun o352 =>
                  (show Option Code from
                    (rm (IntKind.wrap .i64 at_2.e1) (IntKind.wrap .i64 (q235 + 1))).bind fun q398 =>
                    (idx o352.Ins q235).bind fun x400 =>
                    (setI o352.Ins q235 (Ins.mk x400.Op q398 x400.B x400.S)).bind fun l410 =>
                    some (Code.mk o352.Names l410)).bind fun o392 =>
                  (verify_Check N o392).bind fun r434 =>
                  bif (r434.2 == 4) then
                    some (decide (r434.1 ≤ q235))
                  else
                    some false

end Go.Proofs.YtmghnmfefpeelaaDoor
