/- The functions of this part as plain Lean functions, printed by gen8.py. -/
import Derived.Test.YtmghnmfefpeelaaDoorExt34a1
import Derived.Test.YtmghnmfefpeelaaDoorExt34a2
import Derived.Test.YtmghnmfefpeelaaDoorExt34m
import Derived.Test.YtmghnmfefpeelaaDoorLibLM
set_option linter.unusedVariables false
namespace Go.Proofs.YtmghnmfefpeelaaDoor
open Go.X

def calquelaw34_VerifyNames (N : Nat) (c_0 : Code) (name_1 : List UInt8) : Option Bool :=
  (calquelaw34_awake N ).bind fun r6 =>
  bif (!r6) then
    some false
  else
    (calqueref33_Few N c_0).bind fun r9 =>
    bif (!r9) then
      some true
    else
      bif (decide ((name_1.length : Int) > 100)) then
        some true
      else
        (calquelaw33_Own N c_0).bind fun r13 =>
        (verify_Check N r13).bind fun r23 =>
        bif (r23.2 != 0) then
          some true
        else
          (show Option Code from
            (app ([] : List (List UInt8)) r13.Names).bind fun l38 =>
            (app l38 ([name_1] : List (List UInt8))).bind fun l46 =>
            some (Code.mk l46 r13.Ins)).bind fun o28 =>
          (verify_Check N o28).bind fun r195 =>
          (calqueref34_Named N o28.Names).bind fun r204 =>
          bif ((r195.2 == 0) == r204) then
            bif (r195.2 == 0) then
              some true
            else
              some (r195.2 == 1)
          else
            some false

def calquelaw34_VerifyStraight_b1 (_N : Nat) (c_0 : Code) (i_29 : Int) (x_30 : Code) : Option ((Int × Code) ⊕ Code) :=
  bif (decide (i_29 < (c_0.Ins.length : Int))) then
    (idx c_0.Ins i_29).bind fun x38 =>
    bif (x38.Op == 1) then
      (show Option Code from
        (idx c_0.Ins i_29).bind fun x58 =>
        (app x_30.Ins ([x58] : List (Ins))).bind fun l74 =>
        some (Code.mk x_30.Names l74)).bind fun o52 =>
      some (.inl ((i_29 + 1), o52))
    else
      bif (decide (x38.Op ≥ 5)) then
        bif (decide (x38.Op ≤ 9)) then
          (show Option Code from
            (idx c_0.Ins i_29).bind fun x109 =>
            (app x_30.Ins ([x109] : List (Ins))).bind fun l125 =>
            some (Code.mk x_30.Names l125)).bind fun o103 =>
          some (.inl ((i_29 + 1), o103))
        else
          some (.inl ((i_29 + 1), x_30))
      else
        some (.inl ((i_29 + 1), x_30))
  else
    some (.inr x_30)

def calquelaw34_VerifyStraight_b2 (N : Nat) (l160 : List (Ins)) (r167 : Code) (all_182 : Bool) (i_183 : Int) : Option ((Bool × Int) ⊕ Bool) :=
  bif (decide (i_183 < (l160.length : Int))) then
    bif all_182 then
      (verify_Proper N r167 i_183).bind fun r187 =>
      some (.inl (r187, (i_183 + 1)))
    else
      some (.inl (false, (i_183 + 1)))
  else
    some (.inr all_182)
def calquelaw34_VerifyStraight (N : Nat) (c_0 : Code) : Option Bool :=
  (calquelaw34_awake N ).bind fun r6 =>
  bif (!r6) then
    some false
  else
    (calqueref33_Few N c_0).bind fun r9 =>
    bif (!r9) then
      some true
    else
      (iter (fun s => calquelaw34_VerifyStraight_b1 N c_0 s.1 s.2) N (0, (Code.mk c_0.Names ([])))).bind fun o22 =>
      (app o22.Ins ([(Ins.mk 13 0 0 ([]))] : List (Ins))).bind fun l160 =>
      (calquelaw33_Own N (Code.mk o22.Names l160)).bind fun r167 =>
      (calqueref34_Named N o22.Names).bind fun r177 =>
      (iter (fun s => calquelaw34_VerifyStraight_b2 N l160 r167 s.1 s.2) N (r177, 0)).bind fun o180 =>
      (verify_Check N r167).bind fun r189 =>
      some ((r189.2 == 0) == o180)

end Go.Proofs.YtmghnmfefpeelaaDoor
