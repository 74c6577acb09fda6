/- The functions of this part as plain Lean functions, printed by gen8.py. -/
import Derived.Test.YtidfofhmnlhfjaaGreatDoorExt10a1
import Derived.Test.YtidfofhmnlhfjaaGreatDoorExt10a2
import Derived.Test.YtidfofhmnlhfjaaGreatDoorExt10a3
import Derived.Test.YtidfofhmnlhfjaaGreatDoorExt10a4
import Derived.Test.YtidfofhmnlhfjaaGreatDoorLibTZ
set_option linter.unusedVariables false
namespace Go.Proofs.YtidfofhmnlhfjaaGreatDoor
open Go.X

structure Number2 where
  negative : Bool
  whole : List UInt8
  fraction : List UInt8

def decimal_digits (N : Nat) (s_0 : List UInt8) : Option Bool :=
  (strings_Trim N s_0 ([48, 49, 50, 51, 52, 53, 54, 55, 56, 57])).bind fun r1 =>
  some (r1 == ([]))

def decimal_zero (N : Nat) (s_0 : List UInt8) : Option Bool :=
  (strings_Trim N s_0 ([48])).bind fun r1 =>
  some (r1 == ([]))

def decimal_number_zero (N : Nat) (x_0 : Number2) : Option Bool :=
  (decimal_zero N x_0.whole).bind fun r4 =>
  bif r4 then
    (decimal_zero N x_0.fraction).bind fun r7 =>
    some r7
  else
    some false

def decimal_split (N : Nat) (s_0 : List UInt8) : Option (Number2 × Bool) :=
  (strings_CutPrefix N s_0 ([45])).bind fun r2 =>
  (strings_Cut N r2.1 ([46])).bind fun r5 =>
  bif (decide ((r5.1.length : Int) < 1)) then
    some ((Number2.mk r2.2 r5.1 r5.2.1), false)
  else
    bif (decide ((r5.1.length : Int) > 15)) then
      some ((Number2.mk r2.2 r5.1 r5.2.1), false)
    else
      (decimal_digits N r5.1).bind fun r12 =>
      bif (!r12) then
        some ((Number2.mk r2.2 r5.1 r5.2.1), false)
      else
        bif (decide ((r5.1.length : Int) > 1)) then
          (idx r5.1 0).bind fun c16 =>
          bif ((c16.toNat : Int) == 48) then
            some ((Number2.mk r2.2 r5.1 r5.2.1), false)
          else
            bif r5.2.2 then
              bif ((r5.2.1.length : Int) == 0) then
                some ((Number2.mk r2.2 r5.1 r5.2.1), false)
              else
                bif (decide ((r5.2.1.length : Int) > 6)) then
                  some ((Number2.mk r2.2 r5.1 r5.2.1), false)
                else
                  (decimal_digits N r5.2.1).bind fun r22 =>
                  bif (!r22) then
                    some ((Number2.mk r2.2 r5.1 r5.2.1), false)
                  else
                    (show Option (Bool × Number2) from
                      bif (!r2.2) then
                        some (true, (Number2.mk r2.2 r5.1 r5.2.1))
                      else
                        (decimal_number_zero N (Number2.mk r2.2 r5.1 r5.2.1)).bind fun r29 =>
                        some ((!r29), (Number2.mk r2.2 r5.1 r5.2.1))).bind fun o25 =>
                    some (o25.2, o25.1)
            else
              bif (decide ((r5.2.1.length : Int) > 6)) then
                some ((Number2.mk r2.2 r5.1 r5.2.1), false)
              else
                (decimal_digits N r5.2.1).bind fun r34 =>
                bif (!r34) then
                  some ((Number2.mk r2.2 r5.1 r5.2.1), false)
                else
                  (show Option (Bool × Number2) from
                    bif (!r2.2) then
                      some (true, (Number2.mk r2.2 r5.1 r5.2.1))
                    else
                      (decimal_number_zero N (Number2.mk r2.2 r5.1 r5.2.1)).bind fun r41 =>
                      some ((!r41), (Number2.mk r2.2 r5.1 r5.2.1))).bind fun o37 =>
                  some (o37.2, o37.1)
        else
          bif r5.2.2 then
            bif ((r5.2.1.length : Int) == 0) then
              some ((Number2.mk r2.2 r5.1 r5.2.1), false)
            else
              bif (decide ((r5.2.1.length : Int) > 6)) then
                some ((Number2.mk r2.2 r5.1 r5.2.1), false)
              else
                (decimal_digits N r5.2.1).bind fun r48 =>
                bif (!r48) then
                  some ((Number2.mk r2.2 r5.1 r5.2.1), false)
                else
                  (show Option (Bool × Number2) from
                    bif (!r2.2) then
                      some (true, (Number2.mk r2.2 r5.1 r5.2.1))
                    else
                      (decimal_number_zero N (Number2.mk r2.2 r5.1 r5.2.1)).bind fun r55 =>
                      some ((!r55), (Number2.mk r2.2 r5.1 r5.2.1))).bind fun o51 =>
                  some (o51.2, o51.1)
          else
            bif (decide ((r5.2.1.length : Int) > 6)) then
              some ((Number2.mk r2.2 r5.1 r5.2.1), false)
            else
              (decimal_digits N r5.2.1).bind fun r60 =>
              bif (!r60) then
                some ((Number2.mk r2.2 r5.1 r5.2.1), false)
              else
                (show Option (Bool × Number2) from
                  bif (!r2.2) then
                    some (true, (Number2.mk r2.2 r5.1 r5.2.1))
                  else
                    (decimal_number_zero N (Number2.mk r2.2 r5.1 r5.2.1)).bind fun r67 =>
                    some ((!r67), (Number2.mk r2.2 r5.1 r5.2.1))).bind fun o63 =>
                some (o63.2, o63.1)

def decimal_Valid (N : Nat) (s_0 : List UInt8) : Option Bool :=
  (decimal_split N s_0).bind fun r1 =>
  some r1.2

def decimal_value (N : Nat) (s_0 : List UInt8) : Option Int :=
  (cat ([48]) s_0).bind fun s1 =>
  (strconv_Atoi N s1).bind fun r3 =>
  some r3.1

def decimal_Operand (N : Nat) (s_0 : List UInt8) (operand_1 : Int) : Option (Int × Int) :=
  (decimal_split N s_0).bind fun r1 =>
  bif (!r1.2) then
    some (0, 1)
  else
    (strings_TrimRight N r1.1.fraction ([48])).bind fun r10 =>
    bif (operand_1 == 1) then
      bif (r10 != ([])) then
        some (0, 8)
      else
        (decimal_value N r1.1.whole).bind fun r15 =>
        some (r15, 0)
    else
      bif (operand_1 == 2) then
        (decimal_value N r1.1.whole).bind fun r19 =>
        some (r19, 0)
      else
        bif (operand_1 == 3) then
          some ((r1.1.fraction.length : Int), 0)
        else
          bif (operand_1 == 4) then
            some ((r10.length : Int), 0)
          else
            bif (operand_1 == 5) then
              (decimal_value N r1.1.fraction).bind fun r25 =>
              some (r25, 0)
            else
              bif (operand_1 == 6) then
                (decimal_value N r10).bind fun r29 =>
                some (r29, 0)
              else
                some (0, 1)

def condition_in_1 (_N : Nat) (s_0 : Span) (x0 : Int) : Option Bool :=
  bif (decide (x0 ≥ s_0.From)) then
    some (decide (x0 ≤ s_0.To))
  else
    some false

def slices_IndexFunc_api_Span_api_Span__141_b1 (N : Nat) (s_0 : List (Span)) (x0 : Int) (x_5 : Int) : Option (Int ⊕ ((Unit ⊕ Int))) :=
  bif (decide (x_5 < (s_0.length : Int))) then
    (idx s_0 x_5).bind fun x8 =>
    (condition_in_1 N x8 x0).bind fun r19 =>
    bif r19 then
      some (.inr (.inr x_5))
    else
      some (.inl (x_5 + 1))
  else
    some (.inr (.inl ()))
def slices_IndexFunc_api_Span_api_Span__141 (N : Nat) (s_0 : List (Span)) (x0 : Int) : Option Int :=
  (iter (fun s => slices_IndexFunc_api_Span_api_Span__141_b1 N s_0 x0 s) N 0).bind fun o3 =>
  Sum.elim (fun _o3 =>
    some (-1))
  (fun o3 =>
    some o3) o3

def slices_ContainsFunc_api_Span_api_Span__141 (N : Nat) (s_0 : List (Span)) (x0 : Int) : Option Bool :=
  (slices_IndexFunc_api_Span_api_Span__141 N s_0 x0).bind fun r2 =>
  some (decide (r2 ≥ 0))

def condition_in (N : Nat) (l_0 : List (Span)) (n_1 : Int) : Option Bool :=
  (slices_ContainsFunc_api_Span_api_Span__141 N l_0 n_1).bind fun r2 =>
  some r2

def condition_holds (N : Nat) (r_0 : Relation) (number_1 : List UInt8) : Option Bool :=
  (decimal_Operand N number_1 r_0.Operand).bind fun r6 =>
  bif (r6.2 != 0) then
    some r_0.Not
  else
    (show Option Int from
      bif (r_0.Mod != 0) then
        (rm r6.1 r_0.Mod).bind fun q14 =>
        some q14
      else
        some r6.1).bind fun o11 =>
    (condition_in N r_0.Spans o11).bind fun r17 =>
    some (r17 != r_0.Not)

def condition_Holds_1_1 (N : Nat) (r_0 : Relation) (x0 : List UInt8) : Option Bool :=
  (condition_holds N r_0 x0).bind fun r7 =>
  some (!r7)

def slices_IndexFunc_api_Relation_api_Relation__70_b1 (N : Nat) (s_0 : List (Relation)) (x0 : List UInt8) (x_5 : Int) : Option (Int ⊕ ((Unit ⊕ Int))) :=
  bif (decide (x_5 < (s_0.length : Int))) then
    (idx s_0 x_5).bind fun x8 =>
    (condition_Holds_1_1 N x8 x0).bind fun r21 =>
    bif r21 then
      some (.inr (.inr x_5))
    else
      some (.inl (x_5 + 1))
  else
    some (.inr (.inl ()))
def slices_IndexFunc_api_Relation_api_Relation__70 (N : Nat) (s_0 : List (Relation)) (x0 : List UInt8) : Option Int :=
  (iter (fun s => slices_IndexFunc_api_Relation_api_Relation__70_b1 N s_0 x0 s) N 0).bind fun o3 =>
  Sum.elim (fun _o3 =>
    some (-1))
  (fun o3 =>
    some o3) o3

def slices_ContainsFunc_api_Relation_api_Relation__70 (N : Nat) (s_0 : List (Relation)) (x0 : List UInt8) : Option Bool :=
  (slices_IndexFunc_api_Relation_api_Relation__70 N s_0 x0).bind fun r2 =>
  some (decide (r2 ≥ 0))

def condition_Holds_1 (N : Nat) (list_0 : List (Relation)) (x0 : List UInt8) : Option Bool :=
  (slices_ContainsFunc_api_Relation_api_Relation__70 N list_0 x0).bind fun r2 =>
  some (!r2)

def slices_IndexFunc_api_Cond_api_Relation__68_b1 (N : Nat) (s_0 : List (List (Relation))) (x0 : List UInt8) (x_5 : Int) : Option (Int ⊕ ((Unit ⊕ Int))) :=
  bif (decide (x_5 < (s_0.length : Int))) then
    (idx s_0 x_5).bind fun x8 =>
    (condition_Holds_1 N x8 x0).bind fun r19 =>
    bif r19 then
      some (.inr (.inr x_5))
    else
      some (.inl (x_5 + 1))
  else
    some (.inr (.inl ()))
def slices_IndexFunc_api_Cond_api_Relation__68 (N : Nat) (s_0 : List (List (Relation))) (x0 : List UInt8) : Option Int :=
  (iter (fun s => slices_IndexFunc_api_Cond_api_Relation__68_b1 N s_0 x0 s) N 0).bind fun o3 =>
  Sum.elim (fun _o3 =>
    some (-1))
  (fun o3 =>
    some o3) o3

def slices_ContainsFunc_api_Cond_api_Relation__68 (N : Nat) (s_0 : List (List (Relation))) (x0 : List UInt8) : Option Bool :=
  (slices_IndexFunc_api_Cond_api_Relation__68 N s_0 x0).bind fun r2 =>
  some (decide (r2 ≥ 0))

def condition_Holds (N : Nat) (c_0 : List (List (Relation))) (number_1 : List UInt8) : Option (Bool × Int) :=
  (condition_Valid N c_0).bind fun r2 =>
  bif (!r2) then
    some (false, 1)
  else
    (decimal_Valid N number_1).bind fun r5 =>
    bif (!r5) then
      some (false, 1)
    else
      (slices_ContainsFunc_api_Cond_api_Relation__68 N c_0 number_1).bind fun r8 =>
      some (r8, 0)

def calqueref08_proper_b1 (N : Nat) (r_0 : Relation) (i_35 : Int) : Option (Int ⊕ ((Unit ⊕ Bool))) :=
  bif (decide (i_35 < (r_0.Spans.length : Int))) then
    (idx r_0.Spans i_35).bind fun x38 =>
    bif (decide (x38.From < 0)) then
      some (.inr (.inr false))
    else
      bif (decide (x38.From > x38.To)) then
        some (.inr (.inr false))
      else
        (calqueref08_Bound N r_0.Operand).bind fun r52 =>
        bif (decide (x38.To > r52)) then
          some (.inr (.inr false))
        else
          some (.inl (i_35 + 1))
  else
    some (.inr (.inl ()))
def calqueref08_proper (N : Nat) (r_0 : Relation) : Option Bool :=
  (show Option Bool from
    bif (decide (r_0.Operand < 1)) then
      some true
    else
      bif (decide (r_0.Operand > 6)) then
        some true
      else
        bif (r_0.Mod != 0) then
          (calqueref08_Mods N r_0.Operand).bind fun r11 =>
          (calqueref08_has N r11 r_0.Mod).bind fun r16 =>
          bif (!r16) then
            some true
          else
            bif (decide ((r_0.Spans.length : Int) < 1)) then
              some true
            else
              some (decide ((r_0.Spans.length : Int) > 4))
        else
          bif (decide ((r_0.Spans.length : Int) < 1)) then
            some true
          else
            some (decide ((r_0.Spans.length : Int) > 4))).bind fun o6 =>
  bif o6 then
    some false
  else
    (iter (fun s => calqueref08_proper_b1 N r_0 s) N 0).bind fun o33 =>
    Sum.elim (fun _o33 =>
      some true)
    (fun o33 =>
      some o33) o33

def calqueref08_Valid_b2 (N : Nat) (c_0 : List (List (Relation))) (i_7 : Int) (n_28 : Int) (k_29 : Int) : Option ((Int × Int) ⊕ ((Int ⊕ Bool))) :=
  (idx c_0 i_7).bind fun x32 =>
  bif (decide (k_29 < (x32.length : Int))) then
    (idx c_0 i_7).bind fun x44 =>
    (idx x44 k_29).bind fun x55 =>
    (calqueref08_proper N x55).bind fun r68 =>
    bif (!r68) then
      some (.inr (.inr false))
    else
      some (.inl ((IntKind.wrap .i64 (n_28 + 1)), (k_29 + 1)))
  else
    some (.inr (.inl n_28))

def calqueref08_Valid_b1 (N : Nat) (c_0 : List (List (Relation))) (n_6 : Int) (i_7 : Int) : Option ((Int × Int) ⊕ ((Int ⊕ Bool))) :=
  bif (decide (i_7 < (c_0.length : Int))) then
    (idx c_0 i_7).bind fun x11 =>
    bif ((x11.length : Int) == 0) then
      some (.inr (.inr false))
    else
      (iter (fun s => calqueref08_Valid_b2 N c_0 i_7 s.1 s.2) N (n_6, 0)).bind fun o25 =>
      Sum.elim (fun o25 =>
        some (.inl (o25, (i_7 + 1))))
      (fun o25 =>
        some (.inr (.inr o25))) o25
  else
    some (.inr (.inl n_6))
def calqueref08_Valid (N : Nat) (c_0 : List (List (Relation))) : Option Bool :=
  (iter (fun s => calqueref08_Valid_b1 N c_0 s.1 s.2) N (0, 0)).bind fun o3 =>
  Sum.elim (fun o3 =>
    bif (decide ((c_0.length : Int) > 0)) then
      some (decide (o3 ≤ 6))
    else
      some false)
  (fun o3 =>
    some o3) o3

def calqueref09_Symbol (_N : Nat) (c_0 : Int) : Option Int :=
  bif (c_0 == 46) then
    some 10
  else
    bif (decide (c_0 < 48)) then
      some (-1)
    else
      bif (decide (c_0 > 57)) then
        some (-1)
      else
        some (IntKind.wrap .u8 (c_0 - 48))

def calqueref10_Before_b1 (N : Nat) (a_0 : List UInt8) (b_1 : List UInt8) (i_5 : Int) : Option (Int ⊕ ((Unit ⊕ Bool))) :=
  bif (decide (i_5 < (a_0.length : Int))) then
    (idx a_0 i_5).bind fun c8 =>
    (idx b_1 i_5).bind fun c10 =>
    bif ((c8.toNat : Int) != (c10.toNat : Int)) then
      (idx a_0 i_5).bind fun c13 =>
      (calqueref09_Symbol N (c13.toNat : Int)).bind fun r15 =>
      (idx b_1 i_5).bind fun c18 =>
      (calqueref09_Symbol N (c18.toNat : Int)).bind fun r20 =>
      some (.inr (.inr (decide (r15 < r20))))
    else
      some (.inl (i_5 + 1))
  else
    some (.inr (.inl ()))
def calqueref10_Before (N : Nat) (a_0 : List UInt8) (b_1 : List UInt8) : Option Bool :=
  bif ((a_0.length : Int) != (b_1.length : Int)) then
    some (decide ((a_0.length : Int) < (b_1.length : Int)))
  else
    (iter (fun s => calqueref10_Before_b1 N a_0 b_1 s) N 0).bind fun o3 =>
    Sum.elim (fun _o3 =>
      some false)
    (fun o3 =>
      some o3) o3

def calqueref10_decimal (N : Nat) (n_0 : Int) : Option (List UInt8) :=
  match N with
  | 0 => none
  | N + 1 =>
    bif (decide (n_0 ≥ 10)) then
      (calqueref10_decimal N (IntKind.wrap .i64 (n_0.tdiv 10))).bind fun r2 =>
      (rm n_0 10).bind fun q5 =>
      (calqueref10_decimal N q5).bind fun r7 =>
      (cat r2 r7).bind fun s10 =>
      some s10
    else
      some (bytesOf ([(IntKind.wrap .u8 (IntKind.wrap .i64 ((48 : Int) + n_0)))] : List (Int)))

def calqueref10_Decimal (N : Nat) (n_0 : Int) : Option (List UInt8) :=
  (calqueref10_decimal N n_0).bind fun r1 =>
  some r1

end Go.Proofs.YtidfofhmnlhfjaaGreatDoor
