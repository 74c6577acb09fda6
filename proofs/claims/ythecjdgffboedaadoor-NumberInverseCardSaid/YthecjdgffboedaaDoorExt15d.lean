/- The functions of this part as plain Lean functions, printed by gen.py. -/
import Derived.Test.YthecjdgffboedaaDoorExt15a
import Derived.Test.YthecjdgffboedaaDoorExt15b
import Derived.Test.YthecjdgffboedaaDoorExt15c
import Derived.Test.YthecjdgffboedaaDoorLibT
set_option linter.unusedVariables false
namespace Go.Proofs.YthecjdgffboedaaDoor
open Go.X

def calquelaw15_NumberStyles (N : Nat) (x_0 : Symbols) (n_1 : List UInt8) : Option Bool :=
  (calquelaw15_awake N ).bind fun r8 =>
  bif (!r8) then
    (calquelaw15_awake N ).bind fun r11 =>
    some r11
  else
    (calqueref15_Few N x_0).bind fun r13 =>
    bif (!r13) then
      (calquelaw15_awake N ).bind fun r16 =>
      some r16
    else
      (calqueref07_Valid N n_1).bind fun r18 =>
      bif (!r18) then
        (calquelaw15_awake N ).bind fun r21 =>
        some r21
      else
        (calqueref07_Round N n_1 0).bind fun r24 =>
        (number_Format N (Locale.mk ([]) ([]) ([]) ([]) ([]) x_0 ([]) ([]) ([]) ([]) ([])) n_1 ([105, 110, 116, 101, 103, 101, 114])).bind fun r28 =>
        (calqueref07_Shift N n_1 2).bind fun r32 =>
        (number_Format N (Locale.mk ([]) ([]) ([]) ([]) ([]) x_0 ([]) ([]) ([]) ([]) ([])) n_1 ([112, 101, 114, 99, 101, 110, 116])).bind fun r36 =>
        bif (x_0.Decimal == ([])) then
          bif (r28.2 == 18) then
            some (r36.2 == 18)
          else
            some false
        else
          bif (r24.2 != r28.2) then
            some false
          else
            bif (r32.2 != r36.2) then
              some false
            else
              (show Option (Unit ⊕ Bool) from
                bif (r24.2 == 0) then
                  (number_Format N (Locale.mk ([]) ([]) ([]) ([]) ([]) x_0 ([]) ([]) ([]) ([]) ([])) r24.1 ([])).bind fun r48 =>
                  bif (r48.2 != 0) then
                    some (.inr false)
                  else
                    bif (r48.1 != r28.1) then
                      some (.inr false)
                    else
                      some (.inl ())
                else
                  some (.inl ())).bind fun o44 =>
              Sum.elim (fun _o44 =>
                bif (r32.2 == 0) then
                  (number_Format N (Locale.mk ([]) ([]) ([]) ([]) ([]) x_0 ([]) ([]) ([]) ([]) ([])) r32.1 ([])).bind fun r55 =>
                  bif (r55.2 == 0) then
                    (cat r55.1 x_0.Percent).bind fun s60 =>
                    some (s60 == r36.1)
                  else
                    some false
                else
                  some true)
              (fun o44 =>
                some o44) o44

end Go.Proofs.YthecjdgffboedaaDoor
