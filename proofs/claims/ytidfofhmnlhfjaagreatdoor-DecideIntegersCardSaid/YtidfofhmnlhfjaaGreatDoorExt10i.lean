/- The functions of this part as plain Lean functions, printed by gen8.py. -/
import Derived.Test.YtidfofhmnlhfjaaGreatDoorExt10a1
import Derived.Test.YtidfofhmnlhfjaaGreatDoorExt10a2
import Derived.Test.YtidfofhmnlhfjaaGreatDoorExt10a3
import Derived.Test.YtidfofhmnlhfjaaGreatDoorExt10a4
import Derived.Test.YtidfofhmnlhfjaaGreatDoorExt10h
import Derived.Test.YtidfofhmnlhfjaaGreatDoorLibTZ
set_option linter.unusedVariables false
namespace Go.Proofs.YtidfofhmnlhfjaaGreatDoor
open Go.X

def calquelaw10_DecideIntegers (N : Nat) (c_0 : List (List (Relation))) (n_1 : Int) (k_2 : Int) : Option Bool :=
  (calquelaw10_awake N ).bind fun r1 =>
  bif (!r1) then
    (calquelaw10_awake N ).bind fun r4 =>
    some r4
  else
    (calquelaw10_few N ([c_0] : List (List (List (Relation))))).bind fun r14 =>
    bif (!r14) then
      (calquelaw10_awake N ).bind fun r17 =>
      some r17
    else
      (calqueref08_Valid N c_0).bind fun r19 =>
      bif (!r19) then
        (calquelaw10_awake N ).bind fun r22 =>
        some r22
      else
        (calqueref10_Decimal N (IntKind.wrap .i64 ((101 : Int) + (IntKind.wrap .i64 n_1)))).bind fun r24 =>
        (condition_Holds N c_0 r24).bind fun r27 =>
        (calqueref10_Decimal N (IntKind.wrap .i64 ((IntKind.wrap .i64 ((101 : Int) + (IntKind.wrap .i64 n_1))) + (IntKind.wrap .i64 ((300 : Int) * (IntKind.wrap .i64 k_2)))))).bind fun r30 =>
        (condition_Holds N c_0 r30).bind fun r33 =>
        bif (r27.2 == 0) then
          bif (r33.2 == 0) then
            some (r27.1 == r33.1)
          else
            some false
        else
          some false

end Go.Proofs.YtidfofhmnlhfjaaGreatDoor
