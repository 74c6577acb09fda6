/- The functions of this part as plain Lean functions, printed by gen8.py. -/
import Derived.Test.YtmmioinglmeoiaaExt44a1
import Derived.Test.YtmmioinglmeoiaaExt44a2
import Derived.Test.YtmmioinglmeoiaaExt44b1
import Derived.Test.YtmmioinglmeoiaaExt44b2
import Derived.Test.YtmmioinglmeoiaaExt44c
import Derived.Test.YtmmioinglmeoiaaLibNR
set_option linter.unusedVariables false
namespace Go.Proofs.Ytmmioinglmeoiaa
open Go.X

structure Place where
  State : Int
  At : Int

def scan_Step (N : Nat) (script_0 : List (State)) (state_1 : Int) (s_2 : List UInt8) (at_3 : Int) : Option (Token × Int × Int) :=
  (scan_Valid N script_0).bind fun r2 =>
  bif (!r2) then
    some ((Token.mk ([]) ([]) 0), 0, 1)
  else
    bif (decide (state_1 < 0)) then
      some ((Token.mk ([]) ([]) 0), 0, 2)
    else
      bif (decide (state_1 ≥ (script_0.length : Int))) then
        some ((Token.mk ([]) ([]) 0), 0, 2)
      else
        bif (decide (at_3 < 0)) then
          some ((Token.mk ([]) ([]) 0), 0, 2)
        else
          bif (decide (at_3 > (s_2.length : Int))) then
            some ((Token.mk ([]) ([]) 0), 0, 2)
          else
            bif (at_3 == (s_2.length : Int)) then
              some ((Token.mk ([]) ([]) 0), 0, 8)
            else
              (scan_lexerOf N script_0).bind fun r10 =>
              (scan_lexer_step N state_1 s_2 at_3 r10).bind fun r22 =>
              bif (!r22.2.2) then
                some ((Token.mk ([]) ([]) 0), 0, 3)
              else
                some (r22.1, r22.2.1, 0)

def calquelaw44_ScanStep (N : Nat) (s_0 : List (State)) (text_1 : List UInt8) (p_2 : Place) : Option Bool :=
  (calquelaw44_awake N ).bind fun r4 =>
  bif (!r4) then
    some false
  else
    (calqueref44_Few N s_0).bind fun r7 =>
    bif (!r7) then
      some true
    else
      bif (decide ((text_1.length : Int) > 300)) then
        some true
      else
        (show Option (Token × Int × Int) from
          (calquelaw44_Own N s_0).bind fun r19 =>
          (scan_Step N r19 p_2.State text_1 p_2.At).bind fun r24 =>
          some (r24.1, r24.2.1, r24.2.2)).bind fun o11 =>
        (calqueref44_Step N s_0 p_2.State text_1 p_2.At).bind fun r75 =>
        bif ((o11.1.Kind == r75.1.Kind) && ((o11.1.Text == r75.1.Text) && (o11.1.From == r75.1.From))) then
          bif (o11.2.1 == r75.2.1) then
            some (o11.2.2 == r75.2.2)
          else
            some false
        else
          some false

end Go.Proofs.Ytmmioinglmeoiaa
