/- The functions of this part as plain Lean functions, printed by gen.py. -/
import Derived.Test.YthecjdgffboedaaDoorExt15a
import Derived.Test.YthecjdgffboedaaDoorExt15b
import Derived.Test.YthecjdgffboedaaDoorExt15c
import Derived.Test.YthecjdgffboedaaDoorLibT
set_option linter.unusedVariables false
namespace Go.Proofs.YthecjdgffboedaaDoor
open Go.X

def number_Parse (N : Nat) (loc_0 : Locale) (s_1 : List UInt8) : Option ((List UInt8) × Int) :=
  bif (loc_0.Symbols.Decimal == ([])) then
    some ([], 18)
  else
    bif (loc_0.Symbols.Minus != ([])) then
      (strings_HasPrefix N s_1 loc_0.Symbols.Minus).bind fun r28 =>
      (show Option ((List UInt8) × (List UInt8)) from
        bif r28 then
          (slc s_1 (loc_0.Symbols.Minus.length : Int) (s_1.length : Int)).bind fun s34 =>
          some (s34, [45])
        else
          some (s_1, [])).bind fun o30 =>
      (strings_Cut N o30.1 loc_0.Symbols.Decimal).bind fun r38 =>
      (show Option ((List UInt8)) from
        bif (loc_0.Symbols.Group != ([])) then
          (strings_ReplaceAll N r38.1 loc_0.Symbols.Group ([])).bind fun r45 =>
          some r45
        else
          some r38.1).bind fun o42 =>
      (cat o30.2 o42).bind fun s49 =>
      (show Option ((List UInt8)) from
        bif r38.2.2 then
          (cat ([46]) r38.2.1).bind fun s54 =>
          (cat s49 s54).bind fun s56 =>
          some s56
        else
          some s49).bind fun o51 =>
      (decimal_Valid N o51).bind fun r59 =>
      bif (!r59) then
        some ([], 3)
      else
        (number_text N loc_0.Symbols o51).bind fun r62 =>
        bif (r62 != s_1) then
          some ([], 3)
        else
          some (o51, 0)
    else
      (strings_Cut N s_1 loc_0.Symbols.Decimal).bind fun r66 =>
      (show Option ((List UInt8)) from
        bif (loc_0.Symbols.Group != ([])) then
          (strings_ReplaceAll N r66.1 loc_0.Symbols.Group ([])).bind fun r73 =>
          some r73
        else
          some r66.1).bind fun o70 =>
      (cat ([]) o70).bind fun s77 =>
      (show Option ((List UInt8)) from
        bif r66.2.2 then
          (cat ([46]) r66.2.1).bind fun s82 =>
          (cat s77 s82).bind fun s84 =>
          some s84
        else
          some s77).bind fun o79 =>
      (decimal_Valid N o79).bind fun r87 =>
      bif (!r87) then
        some ([], 3)
      else
        (number_text N loc_0.Symbols o79).bind fun r90 =>
        bif (r90 != s_1) then
          some ([], 3)
        else
          some (o79, 0)

def calqueref15_begins (_N : Nat) (s_0 : List UInt8) (t_1 : List UInt8) : Option Bool :=
  bif (decide ((s_0.length : Int) ≥ (t_1.length : Int))) then
    (slc s_0 0 (t_1.length : Int)).bind fun s2 =>
    some (s2 == t_1)
  else
    some false

def calqueref15_without_b1 (N : Nat) (t_1 : List UInt8) (s_6 : List UInt8) (out_7 : List UInt8) : Option (((List UInt8) × (List UInt8)) ⊕ (((List UInt8)))) :=
  bif (s_6 != ([])) then
    bif (t_1 != ([])) then
      (calqueref15_begins N s_6 t_1).bind fun r12 =>
      bif r12 then
        (slc s_6 (t_1.length : Int) (s_6.length : Int)).bind fun s15 =>
        some (.inl (s15, out_7))
      else
        (slc s_6 0 1).bind fun s17 =>
        (cat out_7 s17).bind fun s19 =>
        (slc s_6 1 (s_6.length : Int)).bind fun s21 =>
        some (.inl (s21, s19))
    else
      (slc s_6 0 1).bind fun s23 =>
      (cat out_7 s23).bind fun s25 =>
      (slc s_6 1 (s_6.length : Int)).bind fun s27 =>
      some (.inl (s27, s25))
  else
    some (.inr out_7)
def calqueref15_without (N : Nat) (s_0 : List UInt8) (t_1 : List UInt8) : Option (List UInt8) :=
  (iter (fun s => calqueref15_without_b1 N t_1 s.1 s.2) N (s_0, [])).bind fun o3 =>
  some o3

def calqueref15_Parse_b1 (N : Nat) (loc_0 : Locale) (o30 : ((List UInt8) × (List UInt8))) (k_41 : Int) : Option (Int ⊕ Int) :=
  bif (decide (k_41 < (o30.1.length : Int))) then
    (slc o30.1 k_41 (o30.1.length : Int)).bind fun s44 =>
    (calqueref15_begins N s44 loc_0.Symbols.Decimal).bind fun r46 =>
    bif (!r46) then
      some (.inl (k_41 + 1))
    else
      some (.inr k_41)
  else
    some (.inr k_41)

def calqueref15_Parse_b2 (N : Nat) (loc_0 : Locale) (s_1 : List UInt8) (k_78 : Int) : Option (Int ⊕ Int) :=
  bif (decide (k_78 < (s_1.length : Int))) then
    (slc s_1 k_78 (s_1.length : Int)).bind fun s81 =>
    (calqueref15_begins N s81 loc_0.Symbols.Decimal).bind fun r83 =>
    bif (!r83) then
      some (.inl (k_78 + 1))
    else
      some (.inr k_78)
  else
    some (.inr k_78)
def calqueref15_Parse (N : Nat) (loc_0 : Locale) (s_1 : List UInt8) : Option ((List UInt8) × Int) :=
  bif (loc_0.Symbols.Decimal == ([])) then
    some ([], 18)
  else
    bif (loc_0.Symbols.Minus != ([])) then
      (calqueref15_begins N s_1 loc_0.Symbols.Minus).bind fun r28 =>
      (show Option ((List UInt8) × (List UInt8)) from
        bif r28 then
          (slc s_1 (loc_0.Symbols.Minus.length : Int) (s_1.length : Int)).bind fun s34 =>
          some (s34, [45])
        else
          some (s_1, [])).bind fun o30 =>
      (iter (fun s => calqueref15_Parse_b1 N loc_0 o30 s) N 0).bind fun o39 =>
      (slc o30.1 0 o39).bind fun s50 =>
      (calqueref15_without N s50 loc_0.Symbols.Group).bind fun r52 =>
      (cat o30.2 r52).bind fun s55 =>
      (show Option ((List UInt8)) from
        bif (decide (o39 < (o30.1.length : Int))) then
          (slc o30.1 (IntKind.wrap .i64 (o39 + (loc_0.Symbols.Decimal.length : Int))) (o30.1.length : Int)).bind fun s60 =>
          (cat ([46]) s60).bind fun s62 =>
          (cat s55 s62).bind fun s64 =>
          some s64
        else
          some s55).bind fun o57 =>
      (calqueref07_Valid N o57).bind fun r67 =>
      bif (!r67) then
        some ([], 3)
      else
        (calqueref15_Text N loc_0.Symbols o57).bind fun r70 =>
        bif (r70 != s_1) then
          some ([], 3)
        else
          some (o57, 0)
    else
      (iter (fun s => calqueref15_Parse_b2 N loc_0 s_1 s) N 0).bind fun o76 =>
      (slc s_1 0 o76).bind fun s87 =>
      (calqueref15_without N s87 loc_0.Symbols.Group).bind fun r89 =>
      (cat ([]) r89).bind fun s92 =>
      (show Option ((List UInt8)) from
        bif (decide (o76 < (s_1.length : Int))) then
          (slc s_1 (IntKind.wrap .i64 (o76 + (loc_0.Symbols.Decimal.length : Int))) (s_1.length : Int)).bind fun s97 =>
          (cat ([46]) s97).bind fun s99 =>
          (cat s92 s99).bind fun s101 =>
          some s101
        else
          some s92).bind fun o94 =>
      (calqueref07_Valid N o94).bind fun r104 =>
      bif (!r104) then
        some ([], 3)
      else
        (calqueref15_Text N loc_0.Symbols o94).bind fun r107 =>
        bif (r107 != s_1) then
          some ([], 3)
        else
          some (o94, 0)

def calquelaw15_NumberParse (N : Nat) (x_0 : Symbols) (s_1 : List UInt8) : Option Bool :=
  (calquelaw15_awake N ).bind fun r8 =>
  bif (!r8) then
    (calquelaw15_awake N ).bind fun r11 =>
    some r11
  else
    (calqueref15_Few N x_0).bind fun r13 =>
    bif (!r13) then
      (calquelaw15_awake N ).bind fun r16 =>
      some r16
    else
      bif (decide ((s_1.length : Int) > 100)) then
        (calquelaw15_awake N ).bind fun r19 =>
        some r19
      else
        (number_Parse N (Locale.mk ([]) ([]) ([]) ([]) ([]) x_0 ([]) ([]) ([]) ([]) ([])) s_1).bind fun r22 =>
        (calqueref15_Parse N (Locale.mk ([]) ([]) ([]) ([]) ([]) x_0 ([]) ([]) ([]) ([]) ([])) s_1).bind fun r26 =>
        bif (r22.1 != r26.1) then
          some false
        else
          bif (r22.2 != r26.2) then
            some false
          else
            bif (r22.2 != 0) then
              some (r22.1 == ([]))
            else
              (number_Format N (Locale.mk ([]) ([]) ([]) ([]) ([]) x_0 ([]) ([]) ([]) ([]) ([])) r22.1 ([])).bind fun r33 =>
              bif (r33.2 == 0) then
                some (r33.1 == s_1)
              else
                some false

end Go.Proofs.YthecjdgffboedaaDoor
