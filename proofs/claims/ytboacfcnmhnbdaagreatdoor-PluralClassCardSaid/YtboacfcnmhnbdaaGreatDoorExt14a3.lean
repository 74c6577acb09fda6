/- The functions of this part as plain Lean functions, printed by gen8.py. -/
import Derived.Test.YtboacfcnmhnbdaaGreatDoorExt14a2
import Derived.Test.YtboacfcnmhnbdaaGreatDoorLibSA
set_option linter.unusedVariables false
namespace Go.Proofs.YtboacfcnmhnbdaaGreatDoor
open Go.X

def condition_parser_relation_b1 (N : Nat) (r17 : Int) (more_118 : Bool) (x_119 : Parser) (x_120 : Relation) : Option ((Bool × Parser × Relation) ⊕ ((Relation × Parser))) :=
  bif more_118 then
    bif (x_119.e == 0) then
      (show Option (Parser × Relation) from
        (condition_parser_span N r17 (x_120.Spans.length : Int) x_119).bind fun r144 =>
        (app x_120.Spans ([r144.1] : List (Span))).bind fun l158 =>
        some (r144.2, (Relation.mk x_120.Operand x_120.Mod x_120.Not l158))).bind fun o133 =>
      (condition_parser_next N ([44]) o133.1).bind fun r188 =>
      some (.inl (r188.1, r188.2, o133.2))
    else
      some (.inr (x_120, x_119))
  else
    some (.inr (x_120, x_119))

def condition_parser_relation_b2 (N : Nat) (r17 : Int) (more_322 : Bool) (x_323 : Parser) (x_324 : Relation) : Option ((Bool × Parser × Relation) ⊕ ((Parser × Relation))) :=
  bif more_322 then
    bif (x_323.e == 0) then
      (show Option (Parser × Relation) from
        (condition_parser_span N r17 (x_324.Spans.length : Int) x_323).bind fun r348 =>
        (app x_324.Spans ([r348.1] : List (Span))).bind fun l362 =>
        some (r348.2, (Relation.mk x_324.Operand x_324.Mod x_324.Not l362))).bind fun o337 =>
      (condition_parser_next N ([44]) o337.1).bind fun r392 =>
      some (.inl (r392.1, r392.2, o337.2))
    else
      some (.inr (x_323, x_324))
  else
    some (.inr (x_323, x_324))
def condition_parser_relation (N : Nat) (x0 : Parser) : Option (Relation × Parser) :=
  (condition_parser_peek N x0).bind fun r10 =>
  (strings_Index N ([32, 110, 105, 118, 119, 102, 116]) r10.1).bind fun r17 =>
  bif ((r10.1.length : Int) != 1) then
    (condition_parser_fail N 3 r10.2).bind fun r22 =>
    (show Option Parser from
      bif (decide ((IntKind.wrap .i64 (r22.relations + 1)) > 6)) then
        (condition_parser_fail N 6 (Parser.mk r22.s r22.at_ (IntKind.wrap .i64 (r22.relations + 1)) r22.e)).bind fun r34 =>
        some r34
      else
        some (Parser.mk r22.s r22.at_ (IntKind.wrap .i64 (r22.relations + 1)) r22.e)).bind fun o28 =>
    (condition_parser_take N ([r10.1] : List (List UInt8)) o28).bind fun r50 =>
    (condition_parser_next N ([37]) r50.2).bind fun r57 =>
    (show Option (Parser × Relation) from
      bif r57.1 then
        (condition_parser_number__98 N r57.2 r17).bind fun r71 =>
        some (r71.2, (Relation.mk r17 r71.1 false ([])))
      else
        some (r57.2, (Relation.mk r17 0 false ([])))).bind fun o63 =>
    (condition_parser_take N ([[61], [33, 61]] : List (List UInt8)) o63.1).bind fun r89 =>
    (iter (fun s => condition_parser_relation_b1 N r17 s.1 s.2.1 s.2.2) N (true, r89.2, (Relation.mk o63.2.Operand o63.2.Mod (r89.1 == ([33, 61])) ([])))).bind fun o107 =>
    some (o107.1, o107.2)
  else
    (show Option Parser from
      bif (decide (r17 < 1)) then
        (condition_parser_fail N 3 r10.2).bind fun r222 =>
        some r222
      else
        some r10.2).bind fun o216 =>
    (show Option Parser from
      bif (decide ((IntKind.wrap .i64 (o216.relations + 1)) > 6)) then
        (condition_parser_fail N 6 (Parser.mk o216.s o216.at_ (IntKind.wrap .i64 (o216.relations + 1)) o216.e)).bind fun r238 =>
        some r238
      else
        some (Parser.mk o216.s o216.at_ (IntKind.wrap .i64 (o216.relations + 1)) o216.e)).bind fun o232 =>
    (condition_parser_take N ([r10.1] : List (List UInt8)) o232).bind fun r254 =>
    (condition_parser_next N ([37]) r254.2).bind fun r261 =>
    (show Option (Parser × Relation) from
      bif r261.1 then
        (condition_parser_number__98 N r261.2 r17).bind fun r275 =>
        some (r275.2, (Relation.mk r17 r275.1 false ([])))
      else
        some (r261.2, (Relation.mk r17 0 false ([])))).bind fun o267 =>
    (condition_parser_take N ([[61], [33, 61]] : List (List UInt8)) o267.1).bind fun r293 =>
    (iter (fun s => condition_parser_relation_b2 N r17 s.1 s.2.1 s.2.2) N (true, r293.2, (Relation.mk o267.2.Operand o267.2.Mod (r293.1 == ([33, 61])) ([])))).bind fun o311 =>
    some (o311.2, o311.1)

def condition_Parse_b2 (N : Nat) (list_51 : List (Relation)) (and_52 : Bool) (x_53 : Parser) : Option (((List (Relation)) × Bool × Parser) ⊕ ((Parser × (List (Relation))))) :=
  bif and_52 then
    bif (x_53.e == 0) then
      (condition_parser_relation N x_53).bind fun r64 =>
      (app list_51 ([r64.1] : List (Relation))).bind fun l80 =>
      (condition_parser_next N ([97, 110, 100]) r64.2).bind fun r85 =>
      some (.inl (l80, r85.1, r85.2))
    else
      some (.inr (x_53, list_51))
  else
    some (.inr (x_53, list_51))

def condition_Parse_b1 (N : Nat) (c_20 : List (List (Relation))) (more_21 : Bool) (x_22 : Parser) : Option (((List (List (Relation))) × Bool × Parser) ⊕ ((Parser × (List (List (Relation)))))) :=
  bif more_21 then
    bif (x_22.e == 0) then
      (iter (fun s => condition_Parse_b2 N s.1 s.2.1 s.2.2) N ([], true, x_22)).bind fun o42 =>
      (app c_20 ([o42.2] : List (List (Relation)))).bind fun l104 =>
      (condition_parser_next N ([111, 114]) o42.1).bind fun r109 =>
      some (.inl (l104, r109.1, r109.2))
    else
      some (.inr (x_22, c_20))
  else
    some (.inr (x_22, c_20))
def condition_Parse (N : Nat) (s_0 : List UInt8) : Option ((List (List (Relation))) × Int × Int) :=
  (iter (fun s => condition_Parse_b1 N s.1 s.2.1 s.2.2) N ([], true, (Parser.mk s_0 0 0 0))).bind fun o11 =>
  (condition_parser_skip N o11.1).bind fun r131 =>
  (show Option Parser from
    bif (decide (r131.at_ < (s_0.length : Int))) then
      (condition_parser_fail N 3 r131).bind fun r143 =>
      some r143
    else
      some r131).bind fun o137 =>
  bif (o137.e != 0) then
    some ([], o137.at_, o137.e)
  else
    some (o11.2, 0, 0)

def calquelaw14_pl (N : Nat) : Option (List (Rule)) :=
  (condition_Parse N ([105, 32, 61, 32, 49, 32, 97, 110, 100, 32, 118, 32, 61, 32, 48])).bind fun r1 =>
  (condition_Parse N ([118, 32, 61, 32, 48, 32, 97, 110, 100, 32, 105, 32, 37, 32, 49, 48, 32, 61, 32, 50, 46, 46, 52, 32, 97, 110, 100, 32, 105, 32, 37, 32, 49, 48, 48, 32, 33, 61, 32, 49, 50, 46, 46, 49, 52])).bind fun r8 =>
  some ([(Rule.mk ([111, 110, 101]) r1.1), (Rule.mk ([102, 101, 119]) r8.1)] : List (Rule))

def calquelaw14_awake (N : Nat) : Option Bool :=
  (calquelaw14_pl N ).bind fun r1 =>
  (plural_Class N r1 ([50, 50])).bind fun r6 =>
  (calquelaw14_pl N ).bind fun r10 =>
  (plural_Class N r10 ([49, 46, 53])).bind fun r15 =>
  bif (r6.2 == 0) then
    bif (r15.2 == 0) then
      bif (r6.1 == ([102, 101, 119])) then
        some (r15.1 == ([111, 116, 104, 101, 114]))
      else
        some false
    else
      some false
  else
    some false

def calqueref08_Few_b2 (_N : Nat) (c_0 : List (List (Relation))) (i_7 : Int) (n_16 : Int) (k_17 : Int) : Option ((Int × Int) ⊕ Int) :=
  (idx c_0 i_7).bind fun x20 =>
  bif (decide (k_17 < (x20.length : Int))) then
    (idx c_0 i_7).bind fun x32 =>
    (idx x32 k_17).bind fun x43 =>
    some (.inl ((IntKind.wrap .i64 (n_16 + (IntKind.wrap .i64 ((1 : Int) + (x43.Spans.length : Int))))), (k_17 + 1)))
  else
    some (.inr n_16)

def calqueref08_Few_b1 (N : Nat) (c_0 : List (List (Relation))) (n_6 : Int) (i_7 : Int) : Option ((Int × Int) ⊕ ((Unit ⊕ Bool))) :=
  bif (decide (i_7 < (c_0.length : Int))) then
    (iter (fun s => calqueref08_Few_b2 N c_0 i_7 s.1 s.2) N (n_6, 0)).bind fun o13 =>
    bif (decide (o13 > 80)) then
      some (.inr (.inr false))
    else
      some (.inl (o13, (i_7 + 1)))
  else
    some (.inr (.inl ()))
def calqueref08_Few (N : Nat) (c_0 : List (List (Relation))) : Option Bool :=
  (iter (fun s => calqueref08_Few_b1 N c_0 s.1 s.2) N (0, 0)).bind fun o3 =>
  Sum.elim (fun _o3 =>
    some (decide ((c_0.length : Int) ≤ 30)))
  (fun o3 =>
    some o3) o3

def calqueref14_Few_b1 (N : Nat) (l_0 : List (Rule)) (i_4 : Int) : Option (Int ⊕ ((Unit ⊕ Bool))) :=
  bif (decide (i_4 < (l_0.length : Int))) then
    (idx l_0 i_4).bind fun x7 =>
    (calqueref08_Few N x7.Cond).bind fun r19 =>
    bif (!r19) then
      some (.inr (.inr false))
    else
      some (.inl (i_4 + 1))
  else
    some (.inr (.inl ()))
def calqueref14_Few (N : Nat) (l_0 : List (Rule)) : Option Bool :=
  (iter (fun s => calqueref14_Few_b1 N l_0 s) N 0).bind fun o2 =>
  Sum.elim (fun _o2 =>
    some (decide ((l_0.length : Int) ≤ 10)))
  (fun o2 =>
    some o2) o2

def calqueref14_has_b1 (_N : Nat) (l_0 : List (List UInt8)) (s_1 : List UInt8) (i_4 : Int) : Option (Int ⊕ ((Unit ⊕ Bool))) :=
  bif (decide (i_4 < (l_0.length : Int))) then
    (idx l_0 i_4).bind fun x7 =>
    bif (x7 == s_1) then
      some (.inr (.inr true))
    else
      some (.inl (i_4 + 1))
  else
    some (.inr (.inl ()))
def calqueref14_has (N : Nat) (l_0 : List (List UInt8)) (s_1 : List UInt8) : Option Bool :=
  (iter (fun s => calqueref14_has_b1 N l_0 s_1 s) N 0).bind fun o2 =>
  Sum.elim (fun _o2 =>
    some false)
  (fun o2 =>
    some o2) o2

def calqueref12_Classes (_N : Nat) : Option (List (List UInt8)) :=
  some ([[122, 101, 114, 111], [111, 110, 101], [116, 119, 111], [102, 101, 119], [109, 97, 110, 121]] : List (List UInt8))

def calqueref08_has_b1 (_N : Nat) (l_0 : List (Int)) (n_1 : Int) (i_4 : Int) : Option (Int ⊕ ((Unit ⊕ Bool))) :=
  bif (decide (i_4 < (l_0.length : Int))) then
    (idx l_0 i_4).bind fun x7 =>
    bif (x7 == n_1) then
      some (.inr (.inr true))
    else
      some (.inl (i_4 + 1))
  else
    some (.inr (.inl ()))
def calqueref08_has (N : Nat) (l_0 : List (Int)) (n_1 : Int) : Option Bool :=
  (iter (fun s => calqueref08_has_b1 N l_0 n_1 s) N 0).bind fun o2 =>
  Sum.elim (fun _o2 =>
    some false)
  (fun o2 =>
    some o2) o2

def calqueref08_Mods (_N : Nat) (operand_0 : Int) : Option (List (Int)) :=
  (show Option Bool from
    bif (operand_0 == 1) then
      some (operand_0 == 1)
    else
      some (operand_0 == 2)).bind fun o1 =>
  bif o1 then
    some ([2, 3, 4, 5, 6, 10, 20, 25, 50, 100] : List (Int))
  else
    (show Option Bool from
      bif (operand_0 == 5) then
        some (operand_0 == 5)
      else
        some (operand_0 == 6)).bind fun o9 =>
    bif o9 then
      some ([10, 100] : List (Int))
    else
      some ([])

def calqueref08_Bound (_N : Nat) (operand_0 : Int) : Option Int :=
  bif (operand_0 == 3) then
    some 6
  else
    bif (operand_0 == 4) then
      some 6
    else
      some 100

def calqueref08_proper_b1 (N : Nat) (r_0 : Relation) (i_35 : Int) : Option (Int ⊕ ((Unit ⊕ Bool))) :=
  bif (decide (i_35 < (r_0.Spans.length : Int))) then
    (idx r_0.Spans i_35).bind fun x38 =>
    bif (decide (x38.From < 0)) then
      some (.inr (.inr false))
    else
      bif (decide (x38.From > x38.To)) then
        some (.inr (.inr false))
      else
        (calqueref08_Bound N r_0.Operand).bind fun r52 =>
        bif (decide (x38.To > r52)) then
          some (.inr (.inr false))
        else
          some (.inl (i_35 + 1))
  else
    some (.inr (.inl ()))
def calqueref08_proper (N : Nat) (r_0 : Relation) : Option Bool :=
  (show Option Bool from
    bif (decide (r_0.Operand < 1)) then
      some true
    else
      bif (decide (r_0.Operand > 6)) then
        some true
      else
        bif (r_0.Mod != 0) then
          (calqueref08_Mods N r_0.Operand).bind fun r11 =>
          (calqueref08_has N r11 r_0.Mod).bind fun r16 =>
          bif (!r16) then
            some true
          else
            bif (decide ((r_0.Spans.length : Int) < 1)) then
              some true
            else
              some (decide ((r_0.Spans.length : Int) > 4))
        else
          bif (decide ((r_0.Spans.length : Int) < 1)) then
            some true
          else
            some (decide ((r_0.Spans.length : Int) > 4))).bind fun o6 =>
  bif o6 then
    some false
  else
    (iter (fun s => calqueref08_proper_b1 N r_0 s) N 0).bind fun o33 =>
    Sum.elim (fun _o33 =>
      some true)
    (fun o33 =>
      some o33) o33

def calqueref08_Valid_b2 (N : Nat) (c_0 : List (List (Relation))) (i_7 : Int) (n_28 : Int) (k_29 : Int) : Option ((Int × Int) ⊕ ((Int ⊕ Bool))) :=
  (idx c_0 i_7).bind fun x32 =>
  bif (decide (k_29 < (x32.length : Int))) then
    (idx c_0 i_7).bind fun x44 =>
    (idx x44 k_29).bind fun x55 =>
    (calqueref08_proper N x55).bind fun r68 =>
    bif (!r68) then
      some (.inr (.inr false))
    else
      some (.inl ((IntKind.wrap .i64 (n_28 + 1)), (k_29 + 1)))
  else
    some (.inr (.inl n_28))

def calqueref08_Valid_b1 (N : Nat) (c_0 : List (List (Relation))) (n_6 : Int) (i_7 : Int) : Option ((Int × Int) ⊕ ((Int ⊕ Bool))) :=
  bif (decide (i_7 < (c_0.length : Int))) then
    (idx c_0 i_7).bind fun x11 =>
    bif ((x11.length : Int) == 0) then
      some (.inr (.inr false))
    else
      (iter (fun s => calqueref08_Valid_b2 N c_0 i_7 s.1 s.2) N (n_6, 0)).bind fun o25 =>
      Sum.elim (fun o25 =>
        some (.inl (o25, (i_7 + 1))))
      (fun o25 =>
        some (.inr (.inr o25))) o25
  else
    some (.inr (.inl n_6))
def calqueref08_Valid (N : Nat) (c_0 : List (List (Relation))) : Option Bool :=
  (iter (fun s => calqueref08_Valid_b1 N c_0 s.1 s.2) N (0, 0)).bind fun o3 =>
  Sum.elim (fun o3 =>
    bif (decide ((c_0.length : Int) > 0)) then
      some (decide (o3 ≤ 6))
    else
      some false)
  (fun o3 =>
    some o3) o3

def calqueref14_Valid_b2 (_N : Nat) (l_0 : List (Rule)) (i_5 : Int) (k_86 : Int) : Option (Int ⊕ ((Unit ⊕ Bool))) :=
  bif (decide (k_86 < i_5)) then
    (idx l_0 k_86).bind fun x89 =>
    (idx l_0 i_5).bind fun x101 =>
    bif (x89.Class == x101.Class) then
      some (.inr (.inr false))
    else
      some (.inl (k_86 + 1))
  else
    some (.inr (.inl ()))

def calqueref14_Valid_b1 (N : Nat) (l_0 : List (Rule)) (i_5 : Int) : Option (Int ⊕ ((Unit ⊕ Bool))) :=
  bif (decide (i_5 < (l_0.length : Int))) then
    (show Option Bool from
      (calqueref12_Classes N ).bind fun r11 =>
      (idx l_0 i_5).bind fun x16 =>
      (calqueref14_has N r11 x16.Class).bind fun r28 =>
      bif (!r28) then
        some true
      else
        (idx l_0 i_5).bind fun x44 =>
        (calqueref08_Valid N x44.Cond).bind fun r56 =>
        some (!r56)).bind fun o9 =>
    bif o9 then
      some (.inr (.inr false))
    else
      (iter (fun s => calqueref14_Valid_b2 N l_0 i_5 s) N 0).bind fun o84 =>
      Sum.elim (fun _o84 =>
        some (.inl (i_5 + 1)))
      (fun o84 =>
        some (.inr (.inr o84))) o84
  else
    some (.inr (.inl ()))
def calqueref14_Valid (N : Nat) (l_0 : List (Rule)) : Option Bool :=
  (iter (fun s => calqueref14_Valid_b1 N l_0 s) N 0).bind fun o2 =>
  Sum.elim (fun _o2 =>
    some true)
  (fun o2 =>
    some o2) o2

def calqueref07_digits_b1 (_N : Nat) (s_0 : List UInt8) (i_4 : Int) : Option (Int ⊕ ((Unit ⊕ Bool))) :=
  bif (decide (i_4 < (s_0.length : Int))) then
    (idx s_0 i_4).bind fun c7 =>
    bif (decide ((c7.toNat : Int) < 48)) then
      some (.inr (.inr false))
    else
      (idx s_0 i_4).bind fun c10 =>
      bif (decide ((c10.toNat : Int) > 57)) then
        some (.inr (.inr false))
      else
        some (.inl (i_4 + 1))
  else
    some (.inr (.inl ()))
def calqueref07_digits (N : Nat) (s_0 : List UInt8) : Option Bool :=
  (iter (fun s => calqueref07_digits_b1 N s_0 s) N 0).bind fun o2 =>
  Sum.elim (fun _o2 =>
    some true)
  (fun o2 =>
    some o2) o2

def calqueref07_Zero_b1 (_N : Nat) (s_0 : List UInt8) (i_4 : Int) : Option (Int ⊕ ((Unit ⊕ Bool))) :=
  bif (decide (i_4 < (s_0.length : Int))) then
    (idx s_0 i_4).bind fun c7 =>
    bif ((c7.toNat : Int) != 48) then
      some (.inr (.inr false))
    else
      some (.inl (i_4 + 1))
  else
    some (.inr (.inl ()))
def calqueref07_Zero (N : Nat) (s_0 : List UInt8) : Option Bool :=
  (iter (fun s => calqueref07_Zero_b1 N s_0 s) N 0).bind fun o2 =>
  Sum.elim (fun _o2 =>
    some true)
  (fun o2 =>
    some o2) o2

end Go.Proofs.YtboacfcnmhnbdaaGreatDoor
