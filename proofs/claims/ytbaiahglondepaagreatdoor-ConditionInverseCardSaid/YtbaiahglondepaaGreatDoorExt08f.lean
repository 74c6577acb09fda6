/- The functions of this part as plain Lean functions, printed by gen8.py. -/
import Derived.Test.YtbaiahglondepaaGreatDoorExt08a1
import Derived.Test.YtbaiahglondepaaGreatDoorExt08a2
import Derived.Test.YtbaiahglondepaaGreatDoorExt08b
import Derived.Test.YtbaiahglondepaaGreatDoorExt08e
import Derived.Test.YtbaiahglondepaaGreatDoorLibM
set_option linter.unusedVariables false
namespace Go.Proofs.YtbaiahglondepaaGreatDoor
open Go.X

def calquelaw08_ConditionInverse (N : Nat) (c_0 : List (List (Relation))) (s_1 : List UInt8) : Option Bool :=
  (calquelaw08_awake N ).bind fun r1 =>
  bif (!r1) then
    (calquelaw08_awake N ).bind fun r4 =>
    some r4
  else
    (calqueref08_Few N c_0).bind fun r6 =>
    bif (!r6) then
      (calquelaw08_awake N ).bind fun r9 =>
      some r9
    else
      bif (decide ((s_1.length : Int) > 400)) then
        (calquelaw08_awake N ).bind fun r12 =>
        some r12
      else
        (condition_Print N c_0).bind fun r14 =>
        (show Option (Unit ⊕ Bool) from
          bif (r14.2 == 0) then
            (condition_Parse N r14.1).bind fun r23 =>
            bif (r23.2.2 != 0) then
              some (.inr false)
            else
              (calqueref08_Equal N r23.1 c_0).bind fun r31 =>
              bif (!r31) then
                some (.inr false)
              else
                some (.inl ())
          else
            some (.inl ())).bind fun o18 =>
        Sum.elim (fun _o18 =>
          (condition_Parse N s_1).bind fun r35 =>
          bif (r35.2.2 != 0) then
            some ((r35.1.length : Int) == 0)
          else
            (condition_Print N r35.1).bind fun r43 =>
            (condition_Parse N r43.1).bind fun r47 =>
            bif (r43.2 == 0) then
              bif (r47.2.2 == 0) then
                (calqueref08_Equal N r47.1 r35.1).bind fun r56 =>
                some r56
              else
                some false
            else
              some false)
        (fun o18 =>
          some o18) o18

end Go.Proofs.YtbaiahglondepaaGreatDoor
