/- The functions of this part as plain Lean functions, printed by gen8.py. -/
import Derived.Test.YtidfofhmnlhfjaaGreatDoorExt10a2
import Derived.Test.YtidfofhmnlhfjaaGreatDoorLibTZ
set_option linter.unusedVariables false
namespace Go.Proofs.YtidfofhmnlhfjaaGreatDoor
open Go.X

def calqueref08_next_b1 (_N : Nat) (s_0 : List UInt8) (at_5 : Int) : Option (Int ⊕ Int) :=
  (show Option Bool from
    bif (decide (at_5 < (s_0.length : Int))) then
      (idx s_0 at_5).bind fun c9 =>
      bif ((c9.toNat : Int) == 32) then
        some true
      else
        (idx s_0 at_5).bind fun c12 =>
        bif ((c12.toNat : Int) == 9) then
          some true
        else
          (idx s_0 at_5).bind fun c15 =>
          some ((c15.toNat : Int) == 10)
    else
      some false).bind fun o7 =>
  bif o7 then
    some (.inl (IntKind.wrap .i64 (at_5 + 1)))
  else
    some (.inr at_5)
def calqueref08_next (N : Nat) (s_0 : List UInt8) (at_1 : Int) : Option (Word × Int) :=
  (iter (fun s => calqueref08_next_b1 N s_0 s) N at_1).bind fun o3 =>
  bif (o3 == (s_0.length : Int)) then
    some ((Word.mk ([]) o3), o3)
  else
    (slc s_0 o3 (s_0.length : Int)).bind fun s20 =>
    (calqueref08_longest N s20 97 122).bind fun r22 =>
    (show Option Int from
      bif (r22 == 0) then
        (slc s_0 o3 (s_0.length : Int)).bind fun s28 =>
        (calqueref08_longest N s28 48 57).bind fun r30 =>
        some r30
      else
        some r22).bind fun o25 =>
    (show Option Bool from
      bif (o25 == 0) then
        bif (decide ((IntKind.wrap .i64 (o3 + 1)) < (s_0.length : Int))) then
          (slc s_0 o3 (IntKind.wrap .i64 (o3 + 2))).bind fun s37 =>
          bif (s37 == ([33, 61])) then
            some true
          else
            (slc s_0 o3 (IntKind.wrap .i64 (o3 + 2))).bind fun s40 =>
            some (s40 == ([46, 46]))
        else
          some false
      else
        some false).bind fun o34 =>
    (show Option Int from
      bif o34 then
        some 2
      else
        some o25).bind fun o42 =>
    (show Option Bool from
      bif (o42 == 0) then
        (idx s_0 o3).bind fun c48 =>
        bif ((c48.toNat : Int) == 37) then
          some true
        else
          (idx s_0 o3).bind fun c51 =>
          bif ((c51.toNat : Int) == 61) then
            some true
          else
            (idx s_0 o3).bind fun c54 =>
            some ((c54.toNat : Int) == 44)
      else
        some false).bind fun o46 =>
    (show Option Int from
      bif o46 then
        some 1
      else
        some o42).bind fun o56 =>
    (slc s_0 o3 (IntKind.wrap .i64 (o3 + o56))).bind fun s60 =>
    some ((Word.mk s60 o3), (IntKind.wrap .i64 (o3 + o56)))

def calqueref08_parser_step (N : Nat) (x0 : Parser) : Option Parser :=
  bif (x0.e == 0) then
    (show Option Parser from
      (calqueref08_next N x0.s x0.to_).bind fun r22 =>
      some (Parser.mk x0.s r22.2 r22.1 x0.at_ x0.e)).bind fun o14 =>
    some o14
  else
    some x0

def calqueref08_parser_is (_N : Nat) (s_1 : List UInt8) (x0 : Parser) : Option Bool :=
  bif (x0.e == 0) then
    some (x0.w.text == s_1)
  else
    some false

def calqueref08_parser_letter_b1 (N : Nat) (x0 : Parser) (i_10 : Int) : Option (Int ⊕ ((Unit ⊕ Bool))) :=
  bif (decide (i_10 < 6)) then
    (slc ([110, 105, 118, 119, 102, 116]) i_10 (i_10 + 1)).bind fun s13 =>
    (calqueref08_parser_is N s13 x0).bind fun r15 =>
    bif r15 then
      some (.inr (.inr true))
    else
      some (.inl (i_10 + 1))
  else
    some (.inr (.inl ()))
def calqueref08_parser_letter (N : Nat) (x0 : Parser) : Option Bool :=
  (iter (fun s => calqueref08_parser_letter_b1 N x0 s) N 0).bind fun o8 =>
  Sum.elim (fun _o8 =>
    some false)
  (fun o8 =>
    some o8) o8

def calqueref08_parser_fail (_N : Nat) (e_1 : Int) (x0 : Parser) : Option Parser :=
  bif (x0.e == 0) then
    some (Parser.mk x0.s x0.to_ x0.w x0.w.at_ e_1)
  else
    some x0

def calqueref08_has_b1 (_N : Nat) (l_0 : List (Int)) (n_1 : Int) (i_4 : Int) : Option (Int ⊕ ((Unit ⊕ Bool))) :=
  bif (decide (i_4 < (l_0.length : Int))) then
    (idx l_0 i_4).bind fun x7 =>
    bif (x7 == n_1) then
      some (.inr (.inr true))
    else
      some (.inl (i_4 + 1))
  else
    some (.inr (.inl ()))
def calqueref08_has (N : Nat) (l_0 : List (Int)) (n_1 : Int) : Option Bool :=
  (iter (fun s => calqueref08_has_b1 N l_0 n_1 s) N 0).bind fun o2 =>
  Sum.elim (fun _o2 =>
    some false)
  (fun o2 =>
    some o2) o2

def calqueref08_Mods (_N : Nat) (operand_0 : Int) : Option (List (Int)) :=
  (show Option Bool from
    bif (operand_0 == 1) then
      some (operand_0 == 1)
    else
      some (operand_0 == 2)).bind fun o1 =>
  bif o1 then
    some ([2, 3, 4, 5, 6, 10, 20, 25, 50, 100] : List (Int))
  else
    (show Option Bool from
      bif (operand_0 == 5) then
        some (operand_0 == 5)
      else
        some (operand_0 == 6)).bind fun o9 =>
    bif o9 then
      some ([10, 100] : List (Int))
    else
      some ([])

def calqueref08_Bound (_N : Nat) (operand_0 : Int) : Option Int :=
  bif (operand_0 == 3) then
    some 6
  else
    bif (operand_0 == 4) then
      some 6
    else
      some 100

def calqueref07_Value_b1 (_N : Nat) (s_0 : List UInt8) (n_6 : Int) (i_7 : Int) : Option ((Int × Int) ⊕ Int) :=
  bif (decide (i_7 < (s_0.length : Int))) then
    (idx s_0 i_7).bind fun c11 =>
    some (.inl ((IntKind.wrap .i64 ((IntKind.wrap .i64 ((10 : Int) * n_6)) + (IntKind.wrap .u8 ((c11.toNat : Int) - 48)))), (i_7 + 1)))
  else
    some (.inr n_6)
def calqueref07_Value (N : Nat) (s_0 : List UInt8) : Option Int :=
  (iter (fun s => calqueref07_Value_b1 N s_0 s.1 s.2) N (0, 0)).bind fun o3 =>
  some o3

def calqueref08_parser_number (N : Nat) (x0 : Parser) : Option (Int × Parser) :=
  bif (x0.w.text == ([])) then
    (calqueref08_parser_fail N 3 x0).bind fun r14 =>
    some (0, r14)
  else
    (idx x0.w.text 0).bind fun c22 =>
    bif (decide ((c22.toNat : Int) < 48)) then
      (calqueref08_parser_fail N 3 x0).bind fun r25 =>
      some (0, r25)
    else
      (idx x0.w.text 0).bind fun c33 =>
      bif (decide ((c33.toNat : Int) > 57)) then
        (calqueref08_parser_fail N 3 x0).bind fun r36 =>
        some (0, r36)
      else
        bif (decide ((x0.w.text.length : Int) > 3)) then
          (calqueref08_parser_fail N 3 x0).bind fun r45 =>
          some (0, r45)
        else
          bif (decide ((x0.w.text.length : Int) > 1)) then
            (idx x0.w.text 0).bind fun c54 =>
            bif ((c54.toNat : Int) == 48) then
              (calqueref08_parser_fail N 3 x0).bind fun r57 =>
              some (0, r57)
            else
              (calqueref07_Value N x0.w.text).bind fun r65 =>
              some (r65, x0)
          else
            (calqueref07_Value N x0.w.text).bind fun r68 =>
            some (r68, x0)

def calqueref08_parser_span (N : Nat) (operand_1 : Int) (x0 : Parser) : Option (Span × Parser) :=
  (calqueref08_parser_number N x0).bind fun r14 =>
  (calqueref08_Bound N operand_1).bind fun r24 =>
  (show Option Parser from
    bif (decide (r14.1 > r24)) then
      (calqueref08_parser_fail N 2 r14.2).bind fun r35 =>
      some r35
    else
      some r14.2).bind fun o27 =>
  (calqueref08_parser_step N o27).bind fun r49 =>
  (calqueref08_parser_is N ([46, 46]) r49).bind fun r57 =>
  bif r57 then
    (calqueref08_parser_step N r49).bind fun r60 =>
    (calqueref08_parser_number N r60).bind fun r68 =>
    (calqueref08_Bound N operand_1).bind fun r77 =>
    bif (decide (r68.1 > r77)) then
      (calqueref08_parser_fail N 2 r68.2).bind fun r81 =>
      (calqueref08_parser_step N r81).bind fun r89 =>
      some ((Span.mk r14.1 r68.1), r89)
    else
      bif (decide (r68.1 < r14.1)) then
        (calqueref08_parser_fail N 2 r68.2).bind fun r98 =>
        (calqueref08_parser_step N r98).bind fun r106 =>
        some ((Span.mk r14.1 r68.1), r106)
      else
        (calqueref08_parser_step N r68.2).bind fun r114 =>
        some ((Span.mk r14.1 r68.1), r114)
  else
    some ((Span.mk r14.1 r14.1), r49)

def calqueref08_parser_digit (N : Nat) (x0 : Parser) : Option Bool :=
  (show Option Parser from
    some (Parser.mk x0.s 0 x0.w 0 0)).bind fun o7 =>
  (calqueref08_parser_number N o7).bind fun r24 =>
  some (r24.2.e == 0)

def calqueref08_parser_relation_b1 (N : Nat) (x0 : Parser) (i_23 : Int) (x_24 : Relation) : Option ((Int × Relation) ⊕ Relation) :=
  bif (decide (i_23 < 6)) then
    (slc ([110, 105, 118, 119, 102, 116]) i_23 (i_23 + 1)).bind fun s29 =>
    (calqueref08_parser_is N s29 x0).bind fun r31 =>
    bif r31 then
      some (.inl ((i_23 + 1), (Relation.mk (i_23 + 1) x_24.Mod x_24.Not ([]))))
    else
      some (.inl ((i_23 + 1), (Relation.mk x_24.Operand x_24.Mod x_24.Not ([]))))
  else
    some (.inr (Relation.mk x_24.Operand x_24.Mod x_24.Not ([])))

def calqueref08_parser_relation_b2 (N : Nat) (x_269 : Parser) (x_270 : Relation) : Option ((Parser × Relation) ⊕ ((Relation × Parser))) :=
  (calqueref08_parser_is N ([44]) x_269).bind fun r283 =>
  bif r283 then
    (calqueref08_parser_step N x_269).bind fun r286 =>
    bif ((x_270.Spans.length : Int) == 4) then
      (calqueref08_parser_digit N r286).bind fun r295 =>
      bif r295 then
        (calqueref07_Value N r286.w.text).bind fun r298 =>
        (calqueref08_Bound N x_270.Operand).bind fun r301 =>
        (show Option Parser from
          bif (decide (r298 ≤ r301)) then
            (calqueref08_parser_fail N 6 r286).bind fun r312 =>
            some r312
          else
            some r286).bind fun o304 =>
        (show Option (Parser × Relation) from
          (calqueref08_parser_span N x_270.Operand o304).bind fun r339 =>
          (app x_270.Spans ([r339.1] : List (Span))).bind fun l355 =>
          some (r339.2, (Relation.mk x_270.Operand x_270.Mod x_270.Not l355))).bind fun o326 =>
        some (.inl (o326.1, o326.2))
      else
        (show Option (Parser × Relation) from
          (calqueref08_parser_span N x_270.Operand r286).bind fun r402 =>
          (app x_270.Spans ([r402.1] : List (Span))).bind fun l418 =>
          some (r402.2, (Relation.mk x_270.Operand x_270.Mod x_270.Not l418))).bind fun o389 =>
        some (.inl (o389.1, o389.2))
    else
      (show Option (Parser × Relation) from
        (calqueref08_parser_span N x_270.Operand r286).bind fun r465 =>
        (app x_270.Spans ([r465.1] : List (Span))).bind fun l481 =>
        some (r465.2, (Relation.mk x_270.Operand x_270.Mod x_270.Not l481))).bind fun o452 =>
      some (.inl (o452.1, o452.2))
  else
    some (.inr (x_270, x_269))

def calqueref08_parser_relation_b3 (N : Nat) (x_640 : Parser) (x_641 : Relation) : Option ((Parser × Relation) ⊕ ((Relation × Parser))) :=
  (calqueref08_parser_is N ([44]) x_640).bind fun r654 =>
  bif r654 then
    (calqueref08_parser_step N x_640).bind fun r657 =>
    bif ((x_641.Spans.length : Int) == 4) then
      (calqueref08_parser_digit N r657).bind fun r666 =>
      bif r666 then
        (calqueref07_Value N r657.w.text).bind fun r669 =>
        (calqueref08_Bound N x_641.Operand).bind fun r672 =>
        (show Option Parser from
          bif (decide (r669 ≤ r672)) then
            (calqueref08_parser_fail N 6 r657).bind fun r683 =>
            some r683
          else
            some r657).bind fun o675 =>
        (show Option (Parser × Relation) from
          (calqueref08_parser_span N x_641.Operand o675).bind fun r710 =>
          (app x_641.Spans ([r710.1] : List (Span))).bind fun l726 =>
          some (r710.2, (Relation.mk x_641.Operand x_641.Mod x_641.Not l726))).bind fun o697 =>
        some (.inl (o697.1, o697.2))
      else
        (show Option (Parser × Relation) from
          (calqueref08_parser_span N x_641.Operand r657).bind fun r773 =>
          (app x_641.Spans ([r773.1] : List (Span))).bind fun l789 =>
          some (r773.2, (Relation.mk x_641.Operand x_641.Mod x_641.Not l789))).bind fun o760 =>
        some (.inl (o760.1, o760.2))
    else
      (show Option (Parser × Relation) from
        (calqueref08_parser_span N x_641.Operand r657).bind fun r836 =>
        (app x_641.Spans ([r836.1] : List (Span))).bind fun l852 =>
        some (r836.2, (Relation.mk x_641.Operand x_641.Mod x_641.Not l852))).bind fun o823 =>
      some (.inl (o823.1, o823.2))
  else
    some (.inr (x_641, x_640))
def calqueref08_parser_relation (N : Nat) (x0 : Parser) : Option (Relation × Parser) :=
  (iter (fun s => calqueref08_parser_relation_b1 N x0 s.1 s.2) N (0, (Relation.mk 0 0 false ([])))).bind fun o19 =>
  (show Option Parser from
    bif (o19.Operand == 0) then
      (calqueref08_parser_fail N 3 x0).bind fun r44 =>
      some r44
    else
      some x0).bind fun o36 =>
  (calqueref08_parser_step N o36).bind fun r58 =>
  (calqueref08_parser_is N ([37]) r58).bind fun r66 =>
  (show Option (Parser × Relation) from
    bif r66 then
      (calqueref08_parser_step N r58).bind fun r79 =>
      (calqueref08_parser_number N r79).bind fun r87 =>
      (show Option Bool from
        (calqueref08_Mods N o19.Operand).bind fun r98 =>
        (calqueref08_has N r98 r87.1).bind fun r103 =>
        some (!r103)).bind fun o96 =>
      bif o96 then
        (calqueref08_parser_fail N 2 r87.2).bind fun r110 =>
        (calqueref08_parser_step N r110).bind fun r118 =>
        some (r118, (Relation.mk o19.Operand r87.1 o19.Not ([])))
      else
        (calqueref08_parser_step N r87.2).bind fun r126 =>
        some (r126, (Relation.mk o19.Operand r87.1 o19.Not ([])))
    else
      some (r58, (Relation.mk o19.Operand o19.Mod o19.Not ([])))).bind fun o68 =>
  (calqueref08_parser_is N ([33, 61]) o68.1).bind fun r143 =>
  (calqueref08_parser_is N ([61]) o68.1).bind fun r145 =>
  bif (!r145) then
    (show Option Parser from
      bif (!r143) then
        (calqueref08_parser_fail N 3 o68.1).bind fun r156 =>
        some r156
      else
        some o68.1).bind fun o148 =>
    (calqueref08_parser_step N o148).bind fun r170 =>
    (show Option (Parser × Relation) from
      (calqueref08_parser_span N o68.2.Operand r170).bind fun r191 =>
      (app ([] : List (Span)) ([r191.1] : List (Span))).bind fun l209 =>
      some (r191.2, (Relation.mk o68.2.Operand o68.2.Mod r143 l209))).bind fun o178 =>
    (iter (fun s => calqueref08_parser_relation_b2 N s.1 s.2) N (o178.1, o178.2)).bind fun o256 =>
    some (o256.1, o256.2)
  else
    (calqueref08_parser_step N o68.1).bind fun r541 =>
    (show Option (Parser × Relation) from
      (calqueref08_parser_span N o68.2.Operand r541).bind fun r562 =>
      (app ([] : List (Span)) ([r562.1] : List (Span))).bind fun l580 =>
      some (r562.2, (Relation.mk o68.2.Operand o68.2.Mod r143 l580))).bind fun o549 =>
    (iter (fun s => calqueref08_parser_relation_b3 N s.1 s.2) N (o549.1, o549.2)).bind fun o627 =>
    some (o627.1, o627.2)

end Go.Proofs.YtidfofhmnlhfjaaGreatDoor
