/- The functions of this part as plain Lean functions, printed by gen.py. -/
import Derived.Test.YthecjdgffboedaaDoorExt15a
import Derived.Test.YthecjdgffboedaaDoorExt15b
import Derived.Test.YthecjdgffboedaaDoorExt15c
import Derived.Test.YthecjdgffboedaaDoorExt15e
import Derived.Test.YthecjdgffboedaaDoorExt15t
import Derived.Test.YthecjdgffboedaaDoorExt15u
import Derived.Test.YthecjdgffboedaaDoorLibU
set_option linter.unusedVariables false
namespace Go.Proofs.YthecjdgffboedaaDoor
open Go.X

def strings_ContainsAny (N : Nat) (s_0 : List UInt8) (chars_1 : List UInt8) : Option Bool :=
  (strings_IndexAny N s_0 chars_1).bind fun r1 =>
  some (decide (r1 ≥ 0))

def number_Sound_b1 (N : Nat) (x_0 : Symbols) (x_23 : Int) : Option (Int ⊕ ((Unit ⊕ Bool))) :=
  bif (decide (x_23 < (([x_0.Decimal, x_0.Group] : List (List UInt8)).length : Int))) then
    (idx ([x_0.Decimal, x_0.Group] : List (List UInt8)) x_23).bind fun x26 =>
    bif (x26 != ([])) then
      (strings_HasPrefix N x26 x_0.Minus).bind fun r38 =>
      bif r38 then
        some (.inr (.inr false))
      else
        (strings_HasPrefix N x_0.Minus x26).bind fun r41 =>
        bif r41 then
          some (.inr (.inr false))
        else
          some (.inl (x_23 + 1))
    else
      some (.inl (x_23 + 1))
  else
    some (.inr (.inl ()))

def number_Sound_b2 (N : Nat) (x_0 : Symbols) (x_47 : Int) : Option (Int ⊕ ((Unit ⊕ Bool))) :=
  bif (decide (x_47 < (x_0.Decimal.length : Int))) then
    (idx x_0.Decimal x_47).bind fun c50 =>
    (strings_IndexByte N x_0.Group (c50.toNat : Int)).bind fun r52 =>
    bif (decide (r52 ≥ 0)) then
      some (.inr (.inr false))
    else
      some (.inl (x_47 + 1))
  else
    some (.inr (.inl ()))
def number_Sound (N : Nat) (x_0 : Symbols) : Option Bool :=
  bif (x_0.Minus == ([])) then
    some false
  else
    bif (x_0.Decimal == ([])) then
      some false
    else
      (cat x_0.Minus x_0.Decimal).bind fun s10 =>
      (cat s10 x_0.Group).bind fun s12 =>
      (strings_ContainsAny N s12 ([48, 49, 50, 51, 52, 53, 54, 55, 56, 57])).bind fun r14 =>
      bif r14 then
        some false
      else
        (iter (fun s => number_Sound_b1 N x_0 s) N 0).bind fun o21 =>
        Sum.elim (fun _o21 =>
          (iter (fun s => number_Sound_b2 N x_0 s) N 0).bind fun o45 =>
          Sum.elim (fun _o45 =>
            some true)
          (fun o45 =>
            some o45) o45)
        (fun o21 =>
          some o21) o21

def calqueref15_common_b2 (_N : Nat) (a_0 : List UInt8) (b_1 : List UInt8) (i_4 : Int) (k_10 : Int) : Option (Int ⊕ ((Unit ⊕ Bool))) :=
  bif (decide (k_10 < (b_1.length : Int))) then
    (idx a_0 i_4).bind fun c13 =>
    (idx b_1 k_10).bind fun c15 =>
    bif ((c13.toNat : Int) == (c15.toNat : Int)) then
      some (.inr (.inr true))
    else
      some (.inl (k_10 + 1))
  else
    some (.inr (.inl ()))

def calqueref15_common_b1 (N : Nat) (a_0 : List UInt8) (b_1 : List UInt8) (i_4 : Int) : Option (Int ⊕ ((Unit ⊕ Bool))) :=
  bif (decide (i_4 < (a_0.length : Int))) then
    (iter (fun s => calqueref15_common_b2 N a_0 b_1 i_4 s) N 0).bind fun o8 =>
    Sum.elim (fun _o8 =>
      some (.inl (i_4 + 1)))
    (fun o8 =>
      some (.inr (.inr o8))) o8
  else
    some (.inr (.inl ()))
def calqueref15_common (N : Nat) (a_0 : List UInt8) (b_1 : List UInt8) : Option Bool :=
  (iter (fun s => calqueref15_common_b1 N a_0 b_1 s) N 0).bind fun o2 =>
  Sum.elim (fun _o2 =>
    some false)
  (fun o2 =>
    some o2) o2

def calqueref15_Sound (N : Nat) (x_0 : Symbols) : Option Bool :=
  bif (x_0.Minus == ([])) then
    some false
  else
    bif (x_0.Decimal == ([])) then
      some false
    else
      (cat x_0.Minus x_0.Decimal).bind fun s10 =>
      (cat s10 x_0.Group).bind fun s12 =>
      (calqueref15_common N s12 ([48, 49, 50, 51, 52, 53, 54, 55, 56, 57])).bind fun r14 =>
      bif r14 then
        some false
      else
        (calqueref15_common N x_0.Decimal x_0.Group).bind fun r17 =>
        bif r17 then
          some false
        else
          (calqueref15_begins N x_0.Decimal x_0.Minus).bind fun r20 =>
          bif r20 then
            some false
          else
            (calqueref15_begins N x_0.Minus x_0.Decimal).bind fun r23 =>
            bif r23 then
              some false
            else
              bif (x_0.Group == ([])) then
                some true
              else
                (calqueref15_begins N x_0.Group x_0.Minus).bind fun r27 =>
                bif (!r27) then
                  (calqueref15_begins N x_0.Minus x_0.Group).bind fun r30 =>
                  some (!r30)
                else
                  some false

def calquelaw15_NumberInverse (N : Nat) (x_0 : Symbols) (n_1 : List UInt8) : Option Bool :=
  (calquelaw15_awake N ).bind fun r8 =>
  bif (!r8) then
    (calquelaw15_awake N ).bind fun r11 =>
    some r11
  else
    (calqueref15_Few N x_0).bind fun r13 =>
    bif (!r13) then
      (calquelaw15_awake N ).bind fun r16 =>
      some r16
    else
      (calqueref07_Valid N n_1).bind fun r18 =>
      bif (!r18) then
        (calquelaw15_awake N ).bind fun r21 =>
        some r21
      else
        (number_Sound N x_0).bind fun r23 =>
        (calqueref15_Sound N x_0).bind fun r25 =>
        bif (r23 != r25) then
          some false
        else
          (calqueref15_Sound N x_0).bind fun r28 =>
          bif (!r28) then
            some true
          else
            (number_Format N (Locale.mk ([]) ([]) ([]) ([]) ([]) x_0 ([]) ([]) ([]) ([]) ([])) n_1 ([])).bind fun r32 =>
            (number_Parse N (Locale.mk ([]) ([]) ([]) ([]) ([]) x_0 ([]) ([]) ([]) ([]) ([])) r32.1).bind fun r36 =>
            bif (r32.2 == 0) then
              bif (r36.2 == 0) then
                some (r36.1 == n_1)
              else
                some false
            else
              some false

end Go.Proofs.YthecjdgffboedaaDoor
