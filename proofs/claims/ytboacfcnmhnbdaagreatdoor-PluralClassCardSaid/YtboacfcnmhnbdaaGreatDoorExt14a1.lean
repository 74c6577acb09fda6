/- The functions of this part as plain Lean functions, printed by gen8.py. -/
import Derived.Test.YtboacfcnmhnbdaaGreatDoorLibSA
set_option linter.unusedVariables false
namespace Go.Proofs.YtboacfcnmhnbdaaGreatDoor
open Go.X

structure Span where
  From : Int
  To : Int

structure Relation where
  Operand : Int
  Mod : Int
  Not : Bool
  Spans : List (Span)

structure Rule where
  Class : List UInt8
  Cond : List (List (Relation))

structure Arr6_List_UInt8 where
  e0 : List UInt8
  e1 : List UInt8
  e2 : List UInt8
  e3 : List UInt8
  e4 : List UInt8
  e5 : List UInt8

def Arr6_List_UInt8.list (a : Arr6_List_UInt8) : List (List UInt8) := [a.e0, a.e1, a.e2, a.e3, a.e4, a.e5]
def Arr6_List_UInt8.of : List (List UInt8) → Option Arr6_List_UInt8
  | [x0, x1, x2, x3, x4, x5] => some ⟨x0, x1, x2, x3, x4, x5⟩
  | _ => none
def Arr6_List_UInt8.get (a : Arr6_List_UInt8) (i : Int) : Option (List UInt8) := idx a.list i
def Arr6_List_UInt8.set (a : Arr6_List_UInt8) (i : Int) (x : List UInt8) : Option Arr6_List_UInt8 := (setI a.list i x).bind Arr6_List_UInt8.of

structure Number where
  negative : Bool
  whole : List UInt8
  fraction : List UInt8

structure Parser where
  s : List UInt8
  at_ : Int
  relations : Int
  e : Int

structure Number2 where
  Neg : Bool
  Whole : List UInt8
  Frac : List UInt8

def plural_order (_N : Nat) : Option Arr6_List_UInt8 :=
  some (Arr6_List_UInt8.mk ([122, 101, 114, 111]) ([111, 110, 101]) ([116, 119, 111]) ([102, 101, 119]) ([109, 97, 110, 121]) ([111, 116, 104, 101, 114]))

def slices_Index_string_string_b1 (_N : Nat) (s_0 : List (List UInt8)) (v_1 : List UInt8) (x_4 : Int) : Option (Int ⊕ ((Unit ⊕ Int))) :=
  bif (decide (x_4 < (s_0.length : Int))) then
    (idx s_0 x_4).bind fun x7 =>
    bif (v_1 == x7) then
      some (.inr (.inr x_4))
    else
      some (.inl (x_4 + 1))
  else
    some (.inr (.inl ()))
def slices_Index_string_string (N : Nat) (s_0 : List (List UInt8)) (v_1 : List UInt8) : Option Int :=
  (iter (fun s => slices_Index_string_string_b1 N s_0 v_1 s) N 0).bind fun o2 =>
  Sum.elim (fun _o2 =>
    some (-1))
  (fun o2 =>
    some o2) o2

def slices_Contains_string_string (N : Nat) (s_0 : List (List UInt8)) (v_1 : List UInt8) : Option Bool :=
  (slices_Index_string_string N s_0 v_1).bind fun r1 =>
  some (decide (r1 ≥ 0))

def plural_known (N : Nat) (class_0 : List UInt8) : Option Bool :=
  (plural_order N ).bind fun r1 =>
  (slices_Contains_string_string N ([r1.e0, r1.e1, r1.e2, r1.e3, r1.e4, r1.e5] : List (List UInt8)) class_0).bind fun r15 =>
  some r15

def slices_Index_int_int_b1 (_N : Nat) (s_0 : List (Int)) (v_1 : Int) (x_4 : Int) : Option (Int ⊕ ((Unit ⊕ Int))) :=
  bif (decide (x_4 < (s_0.length : Int))) then
    (idx s_0 x_4).bind fun x7 =>
    bif (v_1 == x7) then
      some (.inr (.inr x_4))
    else
      some (.inl (x_4 + 1))
  else
    some (.inr (.inl ()))
def slices_Index_int_int (N : Nat) (s_0 : List (Int)) (v_1 : Int) : Option Int :=
  (iter (fun s => slices_Index_int_int_b1 N s_0 v_1 s) N 0).bind fun o2 =>
  Sum.elim (fun _o2 =>
    some (-1))
  (fun o2 =>
    some o2) o2

def slices_Contains_int_int (N : Nat) (s_0 : List (Int)) (v_1 : Int) : Option Bool :=
  (slices_Index_int_int N s_0 v_1).bind fun r1 =>
  some (decide (r1 ≥ 0))

def condition_permitted (N : Nat) (operand_0 : Int) (mod_1 : Int) : Option Bool :=
  (show Option Bool from
    bif (operand_0 == 1) then
      some (operand_0 == 1)
    else
      some (operand_0 == 2)).bind fun o1 =>
  bif o1 then
    (slices_Contains_int_int N ([2, 3, 4, 5, 6, 10, 20, 25, 50, 100] : List (Int)) mod_1).bind fun r12 =>
    some r12
  else
    (show Option Bool from
      bif (operand_0 == 5) then
        some (operand_0 == 5)
      else
        some (operand_0 == 6)).bind fun o14 =>
    bif o14 then
      bif (mod_1 == 10) then
        some true
      else
        some (mod_1 == 100)
    else
      some false

def condition_greatest (_N : Nat) (operand_0 : Int) : Option Int :=
  bif (operand_0 == 3) then
    some 6
  else
    bif (operand_0 == 4) then
      some 6
    else
      some 100

def condition_proper_b1 (N : Nat) (r_0 : Relation) (x_17 : Int) : Option (Int ⊕ ((Unit ⊕ Bool))) :=
  bif (decide (x_17 < (r_0.Spans.length : Int))) then
    (idx r_0.Spans x_17).bind fun x20 =>
    bif (decide (x20.From < 0)) then
      some (.inr (.inr false))
    else
      bif (decide (x20.From > x20.To)) then
        some (.inr (.inr false))
      else
        (condition_greatest N r_0.Operand).bind fun r34 =>
        bif (decide (x20.To > r34)) then
          some (.inr (.inr false))
        else
          some (.inl (x_17 + 1))
  else
    some (.inr (.inl ()))

def condition_proper_b2 (N : Nat) (r_0 : Relation) (x_45 : Int) : Option (Int ⊕ ((Unit ⊕ Bool))) :=
  bif (decide (x_45 < (r_0.Spans.length : Int))) then
    (idx r_0.Spans x_45).bind fun x48 =>
    bif (decide (x48.From < 0)) then
      some (.inr (.inr false))
    else
      bif (decide (x48.From > x48.To)) then
        some (.inr (.inr false))
      else
        (condition_greatest N r_0.Operand).bind fun r62 =>
        bif (decide (x48.To > r62)) then
          some (.inr (.inr false))
        else
          some (.inl (x_45 + 1))
  else
    some (.inr (.inl ()))
def condition_proper (N : Nat) (r_0 : Relation) : Option Bool :=
  bif (decide (r_0.Operand < 1)) then
    some false
  else
    bif (decide (r_0.Operand > 6)) then
      some false
    else
      bif (r_0.Mod != 0) then
        (condition_permitted N r_0.Operand r_0.Mod).bind fun r9 =>
        bif (!r9) then
          some false
        else
          bif (decide ((r_0.Spans.length : Int) < 1)) then
            some false
          else
            bif (decide ((r_0.Spans.length : Int) > 4)) then
              some false
            else
              (iter (fun s => condition_proper_b1 N r_0 s) N 0).bind fun o15 =>
              Sum.elim (fun _o15 =>
                some true)
              (fun o15 =>
                some o15) o15
      else
        bif (decide ((r_0.Spans.length : Int) < 1)) then
          some false
        else
          bif (decide ((r_0.Spans.length : Int) > 4)) then
            some false
          else
            (iter (fun s => condition_proper_b2 N r_0 s) N 0).bind fun o43 =>
            Sum.elim (fun _o43 =>
              some true)
            (fun o43 =>
              some o43) o43

def condition_Valid_1 (N : Nat) (r_0 : Relation) : Option Bool :=
  (condition_proper N r_0).bind fun r6 =>
  some (!r6)

def slices_IndexFunc_api_Relation_api_Relation__57_b1 (N : Nat) (s_0 : List (Relation)) (x_4 : Int) : Option (Int ⊕ ((Unit ⊕ Int))) :=
  bif (decide (x_4 < (s_0.length : Int))) then
    (idx s_0 x_4).bind fun x7 =>
    (condition_Valid_1 N x7).bind fun r20 =>
    bif r20 then
      some (.inr (.inr x_4))
    else
      some (.inl (x_4 + 1))
  else
    some (.inr (.inl ()))
def slices_IndexFunc_api_Relation_api_Relation__57 (N : Nat) (s_0 : List (Relation)) : Option Int :=
  (iter (fun s => slices_IndexFunc_api_Relation_api_Relation__57_b1 N s_0 s) N 0).bind fun o2 =>
  Sum.elim (fun _o2 =>
    some (-1))
  (fun o2 =>
    some o2) o2

def slices_ContainsFunc_api_Relation_api_Relation__57 (N : Nat) (s_0 : List (Relation)) : Option Bool :=
  (slices_IndexFunc_api_Relation_api_Relation__57 N s_0).bind fun r1 =>
  some (decide (r1 ≥ 0))

def condition_Valid_b1 (N : Nat) (c_0 : List (List (Relation))) (n_6 : Int) (x_7 : Int) : Option ((Int × Int) ⊕ ((Int ⊕ Bool))) :=
  bif (decide (x_7 < (c_0.length : Int))) then
    (idx c_0 x_7).bind fun x11 =>
    bif ((x11.length : Int) == 0) then
      some (.inr (.inr false))
    else
      (slices_ContainsFunc_api_Relation_api_Relation__57 N x11).bind fun r23 =>
      bif r23 then
        some (.inr (.inr false))
      else
        some (.inl ((IntKind.wrap .i64 (n_6 + (x11.length : Int))), (x_7 + 1)))
  else
    some (.inr (.inl n_6))
def condition_Valid (N : Nat) (c_0 : List (List (Relation))) : Option Bool :=
  (iter (fun s => condition_Valid_b1 N c_0 s.1 s.2) N (0, 0)).bind fun o3 =>
  Sum.elim (fun o3 =>
    bif (decide ((c_0.length : Int) > 0)) then
      some (decide (o3 ≤ 6))
    else
      some false)
  (fun o3 =>
    some o3) o3

def plural_Valid_1 (_N : Nat) (x_0 : Rule) (x0 : Rule) : Option Bool :=
  some (x_0.Class == x0.Class)

def slices_IndexFunc_api_Rule_api_Rule__32_b1 (N : Nat) (s_0 : List (Rule)) (x0 : Rule) (x_7 : Int) : Option (Int ⊕ ((Unit ⊕ Int))) :=
  bif (decide (x_7 < (s_0.length : Int))) then
    (idx s_0 x_7).bind fun x10 =>
    (plural_Valid_1 N x10 x0).bind fun r22 =>
    bif r22 then
      some (.inr (.inr x_7))
    else
      some (.inl (x_7 + 1))
  else
    some (.inr (.inl ()))
def slices_IndexFunc_api_Rule_api_Rule__32 (N : Nat) (s_0 : List (Rule)) (x0 : Rule) : Option Int :=
  (iter (fun s => slices_IndexFunc_api_Rule_api_Rule__32_b1 N s_0 x0 s) N 0).bind fun o5 =>
  Sum.elim (fun _o5 =>
    some (-1))
  (fun o5 =>
    some o5) o5

def slices_ContainsFunc_api_Rule_api_Rule__32 (N : Nat) (s_0 : List (Rule)) (x0 : Rule) : Option Bool :=
  (slices_IndexFunc_api_Rule_api_Rule__32 N s_0 x0).bind fun r4 =>
  some (decide (r4 ≥ 0))

def plural_Valid_b1 (N : Nat) (l_0 : List (Rule)) (x_4 : Int) : Option (Int ⊕ ((Unit ⊕ Bool))) :=
  bif (decide (x_4 < (l_0.length : Int))) then
    (idx l_0 x_4).bind fun x7 =>
    (plural_known N x7.Class).bind fun r20 =>
    bif (!r20) then
      some (.inr (.inr false))
    else
      bif (x7.Class == ([111, 116, 104, 101, 114])) then
        some (.inr (.inr false))
      else
        (condition_Valid N x7.Cond).bind fun r24 =>
        bif (!r24) then
          some (.inr (.inr false))
        else
          (slc l_0 0 x_4).bind fun l27 =>
          (slices_ContainsFunc_api_Rule_api_Rule__32 N l27 x7).bind fun r32 =>
          bif r32 then
            some (.inr (.inr false))
          else
            some (.inl (x_4 + 1))
  else
    some (.inr (.inl ()))
def plural_Valid (N : Nat) (l_0 : List (Rule)) : Option Bool :=
  (iter (fun s => plural_Valid_b1 N l_0 s) N 0).bind fun o2 =>
  Sum.elim (fun _o2 =>
    some true)
  (fun o2 =>
    some o2) o2

def decimal_digits (N : Nat) (s_0 : List UInt8) : Option Bool :=
  (strings_Trim N s_0 ([48, 49, 50, 51, 52, 53, 54, 55, 56, 57])).bind fun r1 =>
  some (r1 == ([]))

def decimal_zero (N : Nat) (s_0 : List UInt8) : Option Bool :=
  (strings_Trim N s_0 ([48])).bind fun r1 =>
  some (r1 == ([]))

def decimal_number_zero (N : Nat) (x_0 : Number) : Option Bool :=
  (decimal_zero N x_0.whole).bind fun r4 =>
  bif r4 then
    (decimal_zero N x_0.fraction).bind fun r7 =>
    some r7
  else
    some false

def decimal_split (N : Nat) (s_0 : List UInt8) : Option (Number × Bool) :=
  (strings_CutPrefix N s_0 ([45])).bind fun r2 =>
  (strings_Cut N r2.1 ([46])).bind fun r5 =>
  bif (decide ((r5.1.length : Int) < 1)) then
    some ((Number.mk r2.2 r5.1 r5.2.1), false)
  else
    bif (decide ((r5.1.length : Int) > 15)) then
      some ((Number.mk r2.2 r5.1 r5.2.1), false)
    else
      (decimal_digits N r5.1).bind fun r12 =>
      bif (!r12) then
        some ((Number.mk r2.2 r5.1 r5.2.1), false)
      else
        bif (decide ((r5.1.length : Int) > 1)) then
          (idx r5.1 0).bind fun c16 =>
          bif ((c16.toNat : Int) == 48) then
            some ((Number.mk r2.2 r5.1 r5.2.1), false)
          else
            bif r5.2.2 then
              bif ((r5.2.1.length : Int) == 0) then
                some ((Number.mk r2.2 r5.1 r5.2.1), false)
              else
                bif (decide ((r5.2.1.length : Int) > 6)) then
                  some ((Number.mk r2.2 r5.1 r5.2.1), false)
                else
                  (decimal_digits N r5.2.1).bind fun r22 =>
                  bif (!r22) then
                    some ((Number.mk r2.2 r5.1 r5.2.1), false)
                  else
                    (show Option (Bool × Number) from
                      bif (!r2.2) then
                        some (true, (Number.mk r2.2 r5.1 r5.2.1))
                      else
                        (decimal_number_zero N (Number.mk r2.2 r5.1 r5.2.1)).bind fun r29 =>
                        some ((!r29), (Number.mk r2.2 r5.1 r5.2.1))).bind fun o25 =>
                    some (o25.2, o25.1)
            else
              bif (decide ((r5.2.1.length : Int) > 6)) then
                some ((Number.mk r2.2 r5.1 r5.2.1), false)
              else
                (decimal_digits N r5.2.1).bind fun r34 =>
                bif (!r34) then
                  some ((Number.mk r2.2 r5.1 r5.2.1), false)
                else
                  (show Option (Bool × Number) from
                    bif (!r2.2) then
                      some (true, (Number.mk r2.2 r5.1 r5.2.1))
                    else
                      (decimal_number_zero N (Number.mk r2.2 r5.1 r5.2.1)).bind fun r41 =>
                      some ((!r41), (Number.mk r2.2 r5.1 r5.2.1))).bind fun o37 =>
                  some (o37.2, o37.1)
        else
          bif r5.2.2 then
            bif ((r5.2.1.length : Int) == 0) then
              some ((Number.mk r2.2 r5.1 r5.2.1), false)
            else
              bif (decide ((r5.2.1.length : Int) > 6)) then
                some ((Number.mk r2.2 r5.1 r5.2.1), false)
              else
                (decimal_digits N r5.2.1).bind fun r48 =>
                bif (!r48) then
                  some ((Number.mk r2.2 r5.1 r5.2.1), false)
                else
                  (show Option (Bool × Number) from
                    bif (!r2.2) then
                      some (true, (Number.mk r2.2 r5.1 r5.2.1))
                    else
                      (decimal_number_zero N (Number.mk r2.2 r5.1 r5.2.1)).bind fun r55 =>
                      some ((!r55), (Number.mk r2.2 r5.1 r5.2.1))).bind fun o51 =>
                  some (o51.2, o51.1)
          else
            bif (decide ((r5.2.1.length : Int) > 6)) then
              some ((Number.mk r2.2 r5.1 r5.2.1), false)
            else
              (decimal_digits N r5.2.1).bind fun r60 =>
              bif (!r60) then
                some ((Number.mk r2.2 r5.1 r5.2.1), false)
              else
                (show Option (Bool × Number) from
                  bif (!r2.2) then
                    some (true, (Number.mk r2.2 r5.1 r5.2.1))
                  else
                    (decimal_number_zero N (Number.mk r2.2 r5.1 r5.2.1)).bind fun r67 =>
                    some ((!r67), (Number.mk r2.2 r5.1 r5.2.1))).bind fun o63 =>
                some (o63.2, o63.1)

def decimal_Valid (N : Nat) (s_0 : List UInt8) : Option Bool :=
  (decimal_split N s_0).bind fun r1 =>
  some r1.2

def decimal_value (N : Nat) (s_0 : List UInt8) : Option Int :=
  (cat ([48]) s_0).bind fun s1 =>
  (strconv_Atoi N s1).bind fun r3 =>
  some r3.1

def decimal_Operand (N : Nat) (s_0 : List UInt8) (operand_1 : Int) : Option (Int × Int) :=
  (decimal_split N s_0).bind fun r1 =>
  bif (!r1.2) then
    some (0, 1)
  else
    (strings_TrimRight N r1.1.fraction ([48])).bind fun r10 =>
    bif (operand_1 == 1) then
      bif (r10 != ([])) then
        some (0, 8)
      else
        (decimal_value N r1.1.whole).bind fun r15 =>
        some (r15, 0)
    else
      bif (operand_1 == 2) then
        (decimal_value N r1.1.whole).bind fun r19 =>
        some (r19, 0)
      else
        bif (operand_1 == 3) then
          some ((r1.1.fraction.length : Int), 0)
        else
          bif (operand_1 == 4) then
            some ((r10.length : Int), 0)
          else
            bif (operand_1 == 5) then
              (decimal_value N r1.1.fraction).bind fun r25 =>
              some (r25, 0)
            else
              bif (operand_1 == 6) then
                (decimal_value N r10).bind fun r29 =>
                some (r29, 0)
              else
                some (0, 1)

def condition_in_1 (_N : Nat) (s_0 : Span) (x0 : Int) : Option Bool :=
  bif (decide (x0 ≥ s_0.From)) then
    some (decide (x0 ≤ s_0.To))
  else
    some false

def slices_IndexFunc_api_Span_api_Span__108_b1 (N : Nat) (s_0 : List (Span)) (x0 : Int) (x_5 : Int) : Option (Int ⊕ ((Unit ⊕ Int))) :=
  bif (decide (x_5 < (s_0.length : Int))) then
    (idx s_0 x_5).bind fun x8 =>
    (condition_in_1 N x8 x0).bind fun r19 =>
    bif r19 then
      some (.inr (.inr x_5))
    else
      some (.inl (x_5 + 1))
  else
    some (.inr (.inl ()))
def slices_IndexFunc_api_Span_api_Span__108 (N : Nat) (s_0 : List (Span)) (x0 : Int) : Option Int :=
  (iter (fun s => slices_IndexFunc_api_Span_api_Span__108_b1 N s_0 x0 s) N 0).bind fun o3 =>
  Sum.elim (fun _o3 =>
    some (-1))
  (fun o3 =>
    some o3) o3

def slices_ContainsFunc_api_Span_api_Span__108 (N : Nat) (s_0 : List (Span)) (x0 : Int) : Option Bool :=
  (slices_IndexFunc_api_Span_api_Span__108 N s_0 x0).bind fun r2 =>
  some (decide (r2 ≥ 0))

def condition_in (N : Nat) (l_0 : List (Span)) (n_1 : Int) : Option Bool :=
  (slices_ContainsFunc_api_Span_api_Span__108 N l_0 n_1).bind fun r2 =>
  some r2

def condition_holds (N : Nat) (r_0 : Relation) (number_1 : List UInt8) : Option Bool :=
  (decimal_Operand N number_1 r_0.Operand).bind fun r6 =>
  bif (r6.2 != 0) then
    some r_0.Not
  else
    (show Option Int from
      bif (r_0.Mod != 0) then
        (rm r6.1 r_0.Mod).bind fun q14 =>
        some q14
      else
        some r6.1).bind fun o11 =>
    (condition_in N r_0.Spans o11).bind fun r17 =>
    some (r17 != r_0.Not)

def condition_Holds_1_1 (N : Nat) (r_0 : Relation) (x0 : List UInt8) : Option Bool :=
  (condition_holds N r_0 x0).bind fun r7 =>
  some (!r7)

def slices_IndexFunc_api_Relation_api_Relation__52_b1 (N : Nat) (s_0 : List (Relation)) (x0 : List UInt8) (x_5 : Int) : Option (Int ⊕ ((Unit ⊕ Int))) :=
  bif (decide (x_5 < (s_0.length : Int))) then
    (idx s_0 x_5).bind fun x8 =>
    (condition_Holds_1_1 N x8 x0).bind fun r21 =>
    bif r21 then
      some (.inr (.inr x_5))
    else
      some (.inl (x_5 + 1))
  else
    some (.inr (.inl ()))
def slices_IndexFunc_api_Relation_api_Relation__52 (N : Nat) (s_0 : List (Relation)) (x0 : List UInt8) : Option Int :=
  (iter (fun s => slices_IndexFunc_api_Relation_api_Relation__52_b1 N s_0 x0 s) N 0).bind fun o3 =>
  Sum.elim (fun _o3 =>
    some (-1))
  (fun o3 =>
    some o3) o3

def slices_ContainsFunc_api_Relation_api_Relation__52 (N : Nat) (s_0 : List (Relation)) (x0 : List UInt8) : Option Bool :=
  (slices_IndexFunc_api_Relation_api_Relation__52 N s_0 x0).bind fun r2 =>
  some (decide (r2 ≥ 0))

def condition_Holds_1 (N : Nat) (list_0 : List (Relation)) (x0 : List UInt8) : Option Bool :=
  (slices_ContainsFunc_api_Relation_api_Relation__52 N list_0 x0).bind fun r2 =>
  some (!r2)

def slices_IndexFunc_api_Cond_api_Relation__50_b1 (N : Nat) (s_0 : List (List (Relation))) (x0 : List UInt8) (x_5 : Int) : Option (Int ⊕ ((Unit ⊕ Int))) :=
  bif (decide (x_5 < (s_0.length : Int))) then
    (idx s_0 x_5).bind fun x8 =>
    (condition_Holds_1 N x8 x0).bind fun r19 =>
    bif r19 then
      some (.inr (.inr x_5))
    else
      some (.inl (x_5 + 1))
  else
    some (.inr (.inl ()))
def slices_IndexFunc_api_Cond_api_Relation__50 (N : Nat) (s_0 : List (List (Relation))) (x0 : List UInt8) : Option Int :=
  (iter (fun s => slices_IndexFunc_api_Cond_api_Relation__50_b1 N s_0 x0 s) N 0).bind fun o3 =>
  Sum.elim (fun _o3 =>
    some (-1))
  (fun o3 =>
    some o3) o3

def slices_ContainsFunc_api_Cond_api_Relation__50 (N : Nat) (s_0 : List (List (Relation))) (x0 : List UInt8) : Option Bool :=
  (slices_IndexFunc_api_Cond_api_Relation__50 N s_0 x0).bind fun r2 =>
  some (decide (r2 ≥ 0))

def condition_Holds (N : Nat) (c_0 : List (List (Relation))) (number_1 : List UInt8) : Option (Bool × Int) :=
  (condition_Valid N c_0).bind fun r2 =>
  bif (!r2) then
    some (false, 1)
  else
    (decimal_Valid N number_1).bind fun r5 =>
    bif (!r5) then
      some (false, 1)
    else
      (slices_ContainsFunc_api_Cond_api_Relation__50 N c_0 number_1).bind fun r8 =>
      some (r8, 0)

end Go.Proofs.YtboacfcnmhnbdaaGreatDoor
