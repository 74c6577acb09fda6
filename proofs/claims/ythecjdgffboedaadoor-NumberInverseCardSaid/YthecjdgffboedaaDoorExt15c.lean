/- The functions of this part as plain Lean functions, printed by gen.py. -/
import Derived.Test.YthecjdgffboedaaDoorExt15a
import Derived.Test.YthecjdgffboedaaDoorExt15b
import Derived.Test.YthecjdgffboedaaDoorLibT
set_option linter.unusedVariables false
namespace Go.Proofs.YthecjdgffboedaaDoor
open Go.X

def number_text (N : Nat) (x_0 : Symbols) (number_1 : List UInt8) : Option (List UInt8) :=
  (strings_CutPrefix N number_1 ([45])).bind fun r8 =>
  (strings_Cut N r8.1 ([46])).bind fun r11 =>
  (number_Group N x_0 r11.1).bind fun r15 =>
  (show Option ((List UInt8)) from
    bif r11.2.2 then
      (cat x_0.Decimal r11.2.1).bind fun s21 =>
      (cat r15 s21).bind fun s23 =>
      some s23
    else
      some r15).bind fun o18 =>
  bif r8.2 then
    (cat x_0.Minus o18).bind fun s27 =>
    some s27
  else
    some o18

def number_Format (N : Nat) (loc_0 : Locale) (number_1 : List UInt8) (style_2 : List UInt8) : Option ((List UInt8) × Int) :=
  (decimal_Valid N number_1).bind fun r26 =>
  bif (!r26) then
    some ([], 1)
  else
    bif (style_2 != ([])) then
      bif (style_2 != ([105, 110, 116, 101, 103, 101, 114])) then
        bif (style_2 != ([112, 101, 114, 99, 101, 110, 116])) then
          some ([], 1)
        else
          bif (loc_0.Symbols.Decimal == ([])) then
            some ([], 18)
          else
            (show Option ((List UInt8) × (List UInt8) × Int) from
              bif (style_2 == ([105, 110, 116, 101, 103, 101, 114])) then
                (decimal_Round N number_1 0).bind fun r38 =>
                some (r38.1, [], r38.2)
              else
                bif (style_2 == ([112, 101, 114, 99, 101, 110, 116])) then
                  (decimal_Shift N number_1 2).bind fun r43 =>
                  some (r43.1, loc_0.Symbols.Percent, r43.2)
                else
                  some (number_1, [], 0)).bind fun o33 =>
            bif (o33.2.2 != 0) then
              some ([], o33.2.2)
            else
              (number_text N loc_0.Symbols o33.1).bind fun r51 =>
              (cat r51 o33.2.1).bind fun s54 =>
              some (s54, 0)
      else
        bif (loc_0.Symbols.Decimal == ([])) then
          some ([], 18)
        else
          (show Option ((List UInt8) × (List UInt8) × Int) from
            bif (style_2 == ([105, 110, 116, 101, 103, 101, 114])) then
              (decimal_Round N number_1 0).bind fun r62 =>
              some (r62.1, [], r62.2)
            else
              bif (style_2 == ([112, 101, 114, 99, 101, 110, 116])) then
                (decimal_Shift N number_1 2).bind fun r67 =>
                some (r67.1, loc_0.Symbols.Percent, r67.2)
              else
                some (number_1, [], 0)).bind fun o57 =>
          bif (o57.2.2 != 0) then
            some ([], o57.2.2)
          else
            (number_text N loc_0.Symbols o57.1).bind fun r75 =>
            (cat r75 o57.2.1).bind fun s78 =>
            some (s78, 0)
    else
      bif (loc_0.Symbols.Decimal == ([])) then
        some ([], 18)
      else
        (show Option ((List UInt8) × (List UInt8) × Int) from
          bif (style_2 == ([105, 110, 116, 101, 103, 101, 114])) then
            (decimal_Round N number_1 0).bind fun r86 =>
            some (r86.1, [], r86.2)
          else
            bif (style_2 == ([112, 101, 114, 99, 101, 110, 116])) then
              (decimal_Shift N number_1 2).bind fun r91 =>
              some (r91.1, loc_0.Symbols.Percent, r91.2)
            else
              some (number_1, [], 0)).bind fun o81 =>
        bif (o81.2.2 != 0) then
          some ([], o81.2.2)
        else
          (number_text N loc_0.Symbols o81.1).bind fun r99 =>
          (cat r99 o81.2.1).bind fun s102 =>
          some (s102, 0)

def calquelaw15_awake (N : Nat) : Option Bool :=
  (number_Format N (Locale.mk ([]) ([]) ([]) ([]) ([]) (Symbols.mk ([46]) ([44]) ([45]) ([37]) 3 2) ([]) ([]) ([]) ([]) ([])) ([49, 50, 51, 52, 53, 54, 55, 46, 53, 48]) ([])).bind fun r2 =>
  (number_Format N (Locale.mk ([]) ([]) ([]) ([]) ([]) (Symbols.mk ([46]) ([44]) ([45]) ([37]) 3 2) ([]) ([]) ([]) ([]) ([])) ([48, 46, 50, 53, 54]) ([112, 101, 114, 99, 101, 110, 116])).bind fun r6 =>
  bif (r2.2 == 0) then
    bif (r6.2 == 0) then
      bif (r2.1 == ([49, 50, 44, 51, 52, 44, 53, 54, 55, 46, 53, 48])) then
        some (r6.1 == ([50, 53, 46, 54, 37]))
      else
        some false
    else
      some false
  else
    some false

def calqueref15_Few (_N : Nat) (x_0 : Symbols) : Option Bool :=
  bif (decide ((x_0.Decimal.length : Int) ≤ 20)) then
    bif (decide ((x_0.Group.length : Int) ≤ 20)) then
      bif (decide ((x_0.Minus.length : Int) ≤ 20)) then
        some (decide ((x_0.Percent.length : Int) ≤ 20))
      else
        some false
    else
      some false
  else
    some false

def calquelaw15_NumberFormat (N : Nat) (x_0 : Symbols) (n_1 : List UInt8) (style_2 : List UInt8) : Option Bool :=
  (calquelaw15_awake N ).bind fun r8 =>
  bif (!r8) then
    (calquelaw15_awake N ).bind fun r11 =>
    some r11
  else
    (calqueref15_Few N x_0).bind fun r13 =>
    bif (!r13) then
      (calquelaw15_awake N ).bind fun r16 =>
      some r16
    else
      bif (decide ((n_1.length : Int) > 60)) then
        (calquelaw15_awake N ).bind fun r19 =>
        some r19
      else
        bif (decide ((style_2.length : Int) > 60)) then
          (calquelaw15_awake N ).bind fun r22 =>
          some r22
        else
          (number_Format N (Locale.mk ([]) ([]) ([]) ([]) ([]) x_0 ([]) ([]) ([]) ([]) ([])) n_1 style_2).bind fun r24 =>
          (calqueref15_Format N (Locale.mk ([]) ([]) ([]) ([]) ([]) x_0 ([]) ([]) ([]) ([]) ([])) n_1 style_2).bind fun r28 =>
          bif (r24.1 == r28.1) then
            some (r24.2 == r28.2)
          else
            some false

def calquelaw15_NumberGroup_b1 (_N : Nat) (digits_1 : List UInt8) (i_34 : Int) : Option (Int ⊕ ((Unit ⊕ Bool))) :=
  bif (decide (i_34 < (digits_1.length : Int))) then
    (idx digits_1 i_34).bind fun c37 =>
    bif ((c37.toNat : Int) == 0) then
      some (.inr (.inr true))
    else
      some (.inl (i_34 + 1))
  else
    some (.inr (.inl ()))

def calquelaw15_NumberGroup_b2 (_N : Nat) (r28 : (List UInt8)) (rest_49 : List UInt8) (last_50 : Int) (groups_51 : Int) (i_52 : Int) : Option (((List UInt8) × Int × Int × Int) ⊕ (((List UInt8) × Int × Int))) :=
  bif (decide (i_52 < (r28.length : Int))) then
    (idx r28 i_52).bind fun c58 =>
    bif ((c58.toNat : Int) == 0) then
      some (.inl (rest_49, 0, (IntKind.wrap .i64 (groups_51 + 1)), (i_52 + 1)))
    else
      (slc r28 i_52 (i_52 + 1)).bind fun s61 =>
      (cat rest_49 s61).bind fun s63 =>
      some (.inl (s63, (IntKind.wrap .i64 (last_50 + 1)), groups_51, (i_52 + 1)))
  else
    some (.inr (rest_49, last_50, groups_51))
def calquelaw15_NumberGroup (N : Nat) (x_0 : Symbols) (digits_1 : List UInt8) : Option Bool :=
  (calquelaw15_awake N ).bind fun r8 =>
  bif (!r8) then
    (calquelaw15_awake N ).bind fun r11 =>
    some r11
  else
    (calqueref15_Few N x_0).bind fun r13 =>
    bif (!r13) then
      (calquelaw15_awake N ).bind fun r16 =>
      some r16
    else
      bif (decide ((digits_1.length : Int) > 60)) then
        (calquelaw15_awake N ).bind fun r19 =>
        some r19
      else
        (number_Group N x_0 digits_1).bind fun r21 =>
        (calqueref15_Group N x_0 digits_1).bind fun r24 =>
        bif (r21 != r24) then
          some false
        else
          (number_Group N (Symbols.mk x_0.Decimal ([0]) x_0.Minus x_0.Percent x_0.Primary x_0.Secondary) digits_1).bind fun r28 =>
          (iter (fun s => calquelaw15_NumberGroup_b1 N digits_1 s) N 0).bind fun o32 =>
          Sum.elim (fun _o32 =>
            (iter (fun s => calquelaw15_NumberGroup_b2 N r28 s.1 s.2.1 s.2.2.1 s.2.2.2) N ([], 0, 0, 0)).bind fun o44 =>
            bif (o44.1 == digits_1) then
              bif (o44.2.2 == 0) then
                some true
              else
                some (o44.2.1 == x_0.Primary)
            else
              some false)
          (fun o32 =>
            some o32) o32

end Go.Proofs.YthecjdgffboedaaDoor
