/- The functions of this part as plain Lean functions, printed by gen8.py. -/
import Derived.Test.YtmghnmfefpeelaaDoorExt34p2
import Derived.Test.YtmghnmfefpeelaaDoorLibLM
set_option linter.unusedVariables false
namespace Go.Proofs.YtmghnmfefpeelaaDoor
open Go.X

def calquelaw34_VerifyProper (N : Nat) (c_0 : Code) (i_1 : Int) : Option Bool :=
  (calquelaw34_awake N ).bind fun r6 =>
  bif (!r6) then
    some false
  else
    (show Option Bool from
      (calqueref33_Few N c_0).bind fun r11 =>
      bif (!r11) then
        some true
      else
        (calquelaw33_Own N c_0).bind fun r14 =>
        (verify_Proper N r14 i_1).bind fun r23 =>
        (calqueref34_Proper N c_0 i_1).bind fun r25 =>
        some (r23 == r25)).bind fun o9 =>
    some o9

end Go.Proofs.YtmghnmfefpeelaaDoor
