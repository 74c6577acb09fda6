/- The functions of this part as plain Lean functions, printed by gen8.py. -/
import Derived.Test.YtboacfcnmhnbdaaGreatDoorExt14a3
import Derived.Test.YtboacfcnmhnbdaaGreatDoorLibSA
set_option linter.unusedVariables false
namespace Go.Proofs.YtboacfcnmhnbdaaGreatDoor
open Go.X

def calqueref07_Split_b1 (_N : Nat) (o6 : ((List UInt8) × Number2)) (k_26 : Int) : Option (Int ⊕ Int) :=
  bif (decide (k_26 < (o6.1.length : Int))) then
    (idx o6.1 k_26).bind fun c29 =>
    bif ((c29.toNat : Int) != 46) then
      some (.inl (k_26 + 1))
    else
      some (.inr k_26)
  else
    some (.inr k_26)

def calqueref07_Split_b2 (_N : Nat) (s_0 : List UInt8) (k_75 : Int) : Option (Int ⊕ Int) :=
  bif (decide (k_75 < (s_0.length : Int))) then
    (idx s_0 k_75).bind fun c78 =>
    bif ((c78.toNat : Int) != 46) then
      some (.inl (k_75 + 1))
    else
      some (.inr k_75)
  else
    some (.inr k_75)
def calqueref07_Split (N : Nat) (s_0 : List UInt8) : Option (Number2 × Bool) :=
  bif (decide ((s_0.length : Int) > 0)) then
    (idx s_0 0).bind fun c4 =>
    (show Option ((List UInt8) × Number2) from
      bif ((c4.toNat : Int) == 45) then
        (show Option ((List UInt8) × Number2) from
          (slc s_0 1 (s_0.length : Int)).bind fun s15 =>
          some (s15, (Number2.mk true ([]) ([])))).bind fun o11 =>
        some (o11.1, o11.2)
      else
        some (s_0, (Number2.mk false ([]) ([])))).bind fun o6 =>
    (iter (fun s => calqueref07_Split_b1 N o6 s) N 0).bind fun o24 =>
    (slc o6.1 0 o24).bind fun s33 =>
    (show Option (Number2 ⊕ (Number2 × Bool)) from
      bif (decide (o24 < (o6.1.length : Int))) then
        (slc o6.1 (o24 + 1) (o6.1.length : Int)).bind fun s41 =>
        bif ((s41.length : Int) == 0) then
          some (.inr ((Number2.mk false ([]) ([])), false))
        else
          some (.inl (Number2.mk o6.2.Neg s33 s41))
      else
        some (.inl (Number2.mk o6.2.Neg s33 o6.2.Frac))).bind fun o35 =>
    Sum.elim (fun o35 =>
      (cat o35.Whole o35.Frac).bind fun s46 =>
      (calqueref07_digits N s46).bind fun r48 =>
      bif (!r48) then
        some ((Number2.mk false ([]) ([])), false)
      else
        bif (decide ((o35.Whole.length : Int) < 1)) then
          some ((Number2.mk false ([]) ([])), false)
        else
          bif (decide ((o35.Whole.length : Int) > 15)) then
            some ((Number2.mk false ([]) ([])), false)
          else
            bif (decide ((o35.Whole.length : Int) > 1)) then
              (idx o35.Whole 0).bind fun c54 =>
              bif ((c54.toNat : Int) == 48) then
                some ((Number2.mk false ([]) ([])), false)
              else
                bif (decide ((o35.Frac.length : Int) > 6)) then
                  some ((Number2.mk false ([]) ([])), false)
                else
                  bif o35.Neg then
                    (cat o35.Whole o35.Frac).bind fun s59 =>
                    (calqueref07_Zero N s59).bind fun r61 =>
                    bif r61 then
                      some ((Number2.mk false ([]) ([])), false)
                    else
                      some (o35, true)
                  else
                    some (o35, true)
            else
              bif (decide ((o35.Frac.length : Int) > 6)) then
                some ((Number2.mk false ([]) ([])), false)
              else
                bif o35.Neg then
                  (cat o35.Whole o35.Frac).bind fun s66 =>
                  (calqueref07_Zero N s66).bind fun r68 =>
                  bif r68 then
                    some ((Number2.mk false ([]) ([])), false)
                  else
                    some (o35, true)
                else
                  some (o35, true))
    (fun o35 =>
      some o35) o35
  else
    (iter (fun s => calqueref07_Split_b2 N s_0 s) N 0).bind fun o73 =>
    (slc s_0 0 o73).bind fun s82 =>
    (show Option (Number2 ⊕ (Number2 × Bool)) from
      bif (decide (o73 < (s_0.length : Int))) then
        (slc s_0 (o73 + 1) (s_0.length : Int)).bind fun s90 =>
        bif ((s90.length : Int) == 0) then
          some (.inr ((Number2.mk false ([]) ([])), false))
        else
          some (.inl (Number2.mk false s82 s90))
      else
        some (.inl (Number2.mk false s82 ([])))).bind fun o84 =>
    Sum.elim (fun o84 =>
      (cat o84.Whole o84.Frac).bind fun s95 =>
      (calqueref07_digits N s95).bind fun r97 =>
      bif (!r97) then
        some ((Number2.mk false ([]) ([])), false)
      else
        bif (decide ((o84.Whole.length : Int) < 1)) then
          some ((Number2.mk false ([]) ([])), false)
        else
          bif (decide ((o84.Whole.length : Int) > 15)) then
            some ((Number2.mk false ([]) ([])), false)
          else
            bif (decide ((o84.Whole.length : Int) > 1)) then
              (idx o84.Whole 0).bind fun c103 =>
              bif ((c103.toNat : Int) == 48) then
                some ((Number2.mk false ([]) ([])), false)
              else
                bif (decide ((o84.Frac.length : Int) > 6)) then
                  some ((Number2.mk false ([]) ([])), false)
                else
                  bif o84.Neg then
                    (cat o84.Whole o84.Frac).bind fun s108 =>
                    (calqueref07_Zero N s108).bind fun r110 =>
                    bif r110 then
                      some ((Number2.mk false ([]) ([])), false)
                    else
                      some (o84, true)
                  else
                    some (o84, true)
            else
              bif (decide ((o84.Frac.length : Int) > 6)) then
                some ((Number2.mk false ([]) ([])), false)
              else
                bif o84.Neg then
                  (cat o84.Whole o84.Frac).bind fun s115 =>
                  (calqueref07_Zero N s115).bind fun r117 =>
                  bif r117 then
                    some ((Number2.mk false ([]) ([])), false)
                  else
                    some (o84, true)
                else
                  some (o84, true))
    (fun o84 =>
      some o84) o84

def calqueref07_Valid (N : Nat) (s_0 : List UInt8) : Option Bool :=
  (calqueref07_Split N s_0).bind fun r1 =>
  some r1.2

def calqueref07_Value_b1 (_N : Nat) (s_0 : List UInt8) (n_6 : Int) (i_7 : Int) : Option ((Int × Int) ⊕ Int) :=
  bif (decide (i_7 < (s_0.length : Int))) then
    (idx s_0 i_7).bind fun c11 =>
    some (.inl ((IntKind.wrap .i64 ((IntKind.wrap .i64 ((10 : Int) * n_6)) + (IntKind.wrap .u8 ((c11.toNat : Int) - 48)))), (i_7 + 1)))
  else
    some (.inr n_6)
def calqueref07_Value (N : Nat) (s_0 : List UInt8) : Option Int :=
  (iter (fun s => calqueref07_Value_b1 N s_0 s.1 s.2) N (0, 0)).bind fun o3 =>
  some o3

def calqueref07_Trim_b1 (_N : Nat) (s_4 : List UInt8) : Option (((List UInt8)) ⊕ (((List UInt8)))) :=
  bif (decide ((s_4.length : Int) > 0)) then
    (idx s_4 ((s_4.length : Int) - 1)).bind fun c7 =>
    bif ((c7.toNat : Int) == 48) then
      (slc s_4 0 ((s_4.length : Int) - 1)).bind fun s10 =>
      some (.inl s10)
    else
      some (.inr s_4)
  else
    some (.inr s_4)
def calqueref07_Trim (N : Nat) (s_0 : List UInt8) : Option (List UInt8) :=
  (iter (fun s => calqueref07_Trim_b1 N s) N s_0).bind fun o2 =>
  some o2

def calqueref07_Operand (N : Nat) (s_0 : List UInt8) (operand_1 : Int) : Option (Int × Int) :=
  (calqueref07_Split N s_0).bind fun r1 =>
  bif (!r1.2) then
    some (0, 1)
  else
    bif (operand_1 == 1) then
      (calqueref07_Zero N r1.1.Frac).bind fun r11 =>
      bif (!r11) then
        some (0, 8)
      else
        (calqueref07_Value N r1.1.Whole).bind fun r14 =>
        some (r14, 0)
    else
      bif (operand_1 == 2) then
        (calqueref07_Value N r1.1.Whole).bind fun r18 =>
        some (r18, 0)
      else
        bif (operand_1 == 3) then
          some ((r1.1.Frac.length : Int), 0)
        else
          bif (operand_1 == 4) then
            (calqueref07_Trim N r1.1.Frac).bind fun r23 =>
            some ((r23.length : Int), 0)
          else
            bif (operand_1 == 5) then
              (calqueref07_Value N r1.1.Frac).bind fun r27 =>
              some (r27, 0)
            else
              bif (operand_1 == 6) then
                (calqueref07_Trim N r1.1.Frac).bind fun r31 =>
                (calqueref07_Value N r31).bind fun r34 =>
                some (r34, 0)
              else
                some (0, 1)

def calqueref08_Inside_b1 (_N : Nat) (l_0 : List (Span)) (n_1 : Int) (i_4 : Int) : Option (Int ⊕ ((Unit ⊕ Bool))) :=
  bif (decide (i_4 < (l_0.length : Int))) then
    (idx l_0 i_4).bind fun x7 =>
    bif (decide (n_1 ≥ x7.From)) then
      (idx l_0 i_4).bind fun x19 =>
      bif (decide (n_1 ≤ x19.To)) then
        some (.inr (.inr true))
      else
        some (.inl (i_4 + 1))
    else
      some (.inl (i_4 + 1))
  else
    some (.inr (.inl ()))
def calqueref08_Inside (N : Nat) (l_0 : List (Span)) (n_1 : Int) : Option Bool :=
  (iter (fun s => calqueref08_Inside_b1 N l_0 n_1 s) N 0).bind fun o2 =>
  Sum.elim (fun _o2 =>
    some false)
  (fun o2 =>
    some o2) o2

def calqueref08_Relation (N : Nat) (r_0 : Relation) (number_1 : List UInt8) : Option Bool :=
  (calqueref07_Operand N number_1 r_0.Operand).bind fun r6 =>
  bif (r6.2 != 0) then
    some r_0.Not
  else
    (show Option Int from
      bif (r_0.Mod != 0) then
        (rm r6.1 r_0.Mod).bind fun q14 =>
        some q14
      else
        some r6.1).bind fun o11 =>
    (calqueref08_Inside N r_0.Spans o11).bind fun r17 =>
    some (r17 != r_0.Not)

def calqueref08_Holds_b2 (N : Nat) (c_0 : List (List (Relation))) (number_1 : List UInt8) (i_10 : Int) (all_16 : Bool) (k_17 : Int) : Option ((Bool × Int) ⊕ Bool) :=
  (idx c_0 i_10).bind fun x19 =>
  bif (decide (k_17 < (x19.length : Int))) then
    bif all_16 then
      (idx c_0 i_10).bind fun x32 =>
      (idx x32 k_17).bind fun x43 =>
      (calqueref08_Relation N x43 number_1).bind fun r56 =>
      some (.inl (r56, (k_17 + 1)))
    else
      some (.inl (false, (k_17 + 1)))
  else
    some (.inr all_16)

def calqueref08_Holds_b1 (N : Nat) (c_0 : List (List (Relation))) (number_1 : List UInt8) (i_10 : Int) : Option (Int ⊕ ((Unit ⊕ (Bool × Int)))) :=
  bif (decide (i_10 < (c_0.length : Int))) then
    (iter (fun s => calqueref08_Holds_b2 N c_0 number_1 i_10 s.1 s.2) N (true, 0)).bind fun o14 =>
    bif o14 then
      some (.inr (.inr (true, 0)))
    else
      some (.inl (i_10 + 1))
  else
    some (.inr (.inl ()))
def calqueref08_Holds (N : Nat) (c_0 : List (List (Relation))) (number_1 : List UInt8) : Option (Bool × Int) :=
  (calqueref08_Valid N c_0).bind fun r1 =>
  bif (!r1) then
    some (false, 1)
  else
    (calqueref07_Valid N number_1).bind fun r4 =>
    bif (!r4) then
      some (false, 1)
    else
      (iter (fun s => calqueref08_Holds_b1 N c_0 number_1 s) N 0).bind fun o8 =>
      Sum.elim (fun _o8 =>
        some (false, 0))
      (fun o8 =>
        some o8) o8

def calqueref14_Class_b1 (N : Nat) (l_0 : List (Rule)) (number_1 : List UInt8) (i_10 : Int) : Option (Int ⊕ ((Unit ⊕ ((List UInt8) × Int)))) :=
  bif (decide (i_10 < (l_0.length : Int))) then
    (idx l_0 i_10).bind fun x13 =>
    (calqueref08_Holds N x13.Cond number_1).bind fun r25 =>
    bif r25.1 then
      (idx l_0 i_10).bind fun x29 =>
      some (.inr (.inr (x29.Class, 0)))
    else
      some (.inl (i_10 + 1))
  else
    some (.inr (.inl ()))
def calqueref14_Class (N : Nat) (l_0 : List (Rule)) (number_1 : List UInt8) : Option ((List UInt8) × Int) :=
  (calqueref14_Valid N l_0).bind fun r1 =>
  bif (!r1) then
    some ([], 1)
  else
    (calqueref07_Valid N number_1).bind fun r4 =>
    bif (!r4) then
      some ([], 1)
    else
      (iter (fun s => calqueref14_Class_b1 N l_0 number_1 s) N 0).bind fun o8 =>
      Sum.elim (fun _o8 =>
        some ([111, 116, 104, 101, 114], 0))
      (fun o8 =>
        some o8) o8

def calquelaw14_PluralClass (N : Nat) (l_0 : List (Rule)) (number_1 : List UInt8) : Option Bool :=
  (calquelaw14_awake N ).bind fun r1 =>
  bif (!r1) then
    (calquelaw14_awake N ).bind fun r4 =>
    some r4
  else
    (calqueref14_Few N l_0).bind fun r6 =>
    bif (!r6) then
      (calquelaw14_awake N ).bind fun r9 =>
      some r9
    else
      bif (decide ((number_1.length : Int) > 60)) then
        (calquelaw14_awake N ).bind fun r12 =>
        some r12
      else
        (plural_Class N l_0 number_1).bind fun r14 =>
        (calqueref14_Class N l_0 number_1).bind fun r18 =>
        bif (r14.1 == r18.1) then
          bif (r14.2 == r18.2) then
            (plural_Valid N l_0).bind fun r24 =>
            (calqueref14_Valid N l_0).bind fun r26 =>
            some (r24 == r26)
          else
            some false
        else
          some false

end Go.Proofs.YtboacfcnmhnbdaaGreatDoor
