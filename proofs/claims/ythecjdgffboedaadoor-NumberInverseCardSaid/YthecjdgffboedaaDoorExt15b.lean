/- The functions of this part as plain Lean functions, printed by gen.py. -/
import Derived.Test.YthecjdgffboedaaDoorExt15a
import Derived.Test.YthecjdgffboedaaDoorLibT
set_option linter.unusedVariables false
namespace Go.Proofs.YthecjdgffboedaaDoor
open Go.X

structure Number2 where
  Neg : Bool
  Whole : List UInt8
  Frac : List UInt8

structure Span where
  From : Int
  To : Int

structure Relation where
  Operand : Int
  Mod : Int
  Not : Bool
  Spans : List (Span)

structure Rule where
  Class : List UInt8
  Cond : List (List (Relation))

structure ListPattern where
  Style : List UInt8
  Two : List UInt8
  Start : List UInt8
  Middle : List UInt8
  End : List UInt8

structure UnitPattern where
  Unit : List UInt8
  Class : List UInt8
  Pattern : List UInt8

structure DatePattern where
  Skeleton : List UInt8
  Pattern : List UInt8

structure Locale where
  Tag : List UInt8
  Parent : List UInt8
  Direction : List UInt8
  Cardinal : List (Rule)
  Ordinal : List (Rule)
  Symbols : Symbols
  Lists : List (ListPattern)
  Units : List (UnitPattern)
  Dates : List (DatePattern)
  Months : List (List UInt8)
  Days : List (List UInt8)

def calqueref07_Zero_b1 (_N : Nat) (s_0 : List UInt8) (i_4 : Int) : Option (Int ⊕ ((Unit ⊕ Bool))) :=
  bif (decide (i_4 < (s_0.length : Int))) then
    (idx s_0 i_4).bind fun c7 =>
    bif ((c7.toNat : Int) != 48) then
      some (.inr (.inr false))
    else
      some (.inl (i_4 + 1))
  else
    some (.inr (.inl ()))
def calqueref07_Zero (N : Nat) (s_0 : List UInt8) : Option Bool :=
  (iter (fun s => calqueref07_Zero_b1 N s_0 s) N 0).bind fun o2 =>
  Sum.elim (fun _o2 =>
    some true)
  (fun o2 =>
    some o2) o2

def calqueref07_digits_b1 (_N : Nat) (s_0 : List UInt8) (i_4 : Int) : Option (Int ⊕ ((Unit ⊕ Bool))) :=
  bif (decide (i_4 < (s_0.length : Int))) then
    (idx s_0 i_4).bind fun c7 =>
    bif (decide ((c7.toNat : Int) < 48)) then
      some (.inr (.inr false))
    else
      (idx s_0 i_4).bind fun c10 =>
      bif (decide ((c10.toNat : Int) > 57)) then
        some (.inr (.inr false))
      else
        some (.inl (i_4 + 1))
  else
    some (.inr (.inl ()))
def calqueref07_digits (N : Nat) (s_0 : List UInt8) : Option Bool :=
  (iter (fun s => calqueref07_digits_b1 N s_0 s) N 0).bind fun o2 =>
  Sum.elim (fun _o2 =>
    some true)
  (fun o2 =>
    some o2) o2

def calqueref07_Split_b1 (_N : Nat) (o6 : ((List UInt8) × Number2)) (k_26 : Int) : Option (Int ⊕ Int) :=
  bif (decide (k_26 < (o6.1.length : Int))) then
    (idx o6.1 k_26).bind fun c29 =>
    bif ((c29.toNat : Int) != 46) then
      some (.inl (k_26 + 1))
    else
      some (.inr k_26)
  else
    some (.inr k_26)

def calqueref07_Split_b2 (_N : Nat) (s_0 : List UInt8) (k_75 : Int) : Option (Int ⊕ Int) :=
  bif (decide (k_75 < (s_0.length : Int))) then
    (idx s_0 k_75).bind fun c78 =>
    bif ((c78.toNat : Int) != 46) then
      some (.inl (k_75 + 1))
    else
      some (.inr k_75)
  else
    some (.inr k_75)
def calqueref07_Split (N : Nat) (s_0 : List UInt8) : Option (Number2 × Bool) :=
  bif (decide ((s_0.length : Int) > 0)) then
    (idx s_0 0).bind fun c4 =>
    (show Option ((List UInt8) × Number2) from
      bif ((c4.toNat : Int) == 45) then
        (show Option ((List UInt8) × Number2) from
          (slc s_0 1 (s_0.length : Int)).bind fun s15 =>
          some (s15, (Number2.mk true ([]) ([])))).bind fun o11 =>
        some (o11.1, o11.2)
      else
        some (s_0, (Number2.mk false ([]) ([])))).bind fun o6 =>
    (iter (fun s => calqueref07_Split_b1 N o6 s) N 0).bind fun o24 =>
    (slc o6.1 0 o24).bind fun s33 =>
    (show Option (Number2 ⊕ (Number2 × Bool)) from
      bif (decide (o24 < (o6.1.length : Int))) then
        (slc o6.1 (o24 + 1) (o6.1.length : Int)).bind fun s41 =>
        bif ((s41.length : Int) == 0) then
          some (.inr ((Number2.mk false ([]) ([])), false))
        else
          some (.inl (Number2.mk o6.2.Neg s33 s41))
      else
        some (.inl (Number2.mk o6.2.Neg s33 o6.2.Frac))).bind fun o35 =>
    Sum.elim (fun o35 =>
      (cat o35.Whole o35.Frac).bind fun s46 =>
      (calqueref07_digits N s46).bind fun r48 =>
      bif (!r48) then
        some ((Number2.mk false ([]) ([])), false)
      else
        bif (decide ((o35.Whole.length : Int) < 1)) then
          some ((Number2.mk false ([]) ([])), false)
        else
          bif (decide ((o35.Whole.length : Int) > 15)) then
            some ((Number2.mk false ([]) ([])), false)
          else
            bif (decide ((o35.Whole.length : Int) > 1)) then
              (idx o35.Whole 0).bind fun c54 =>
              bif ((c54.toNat : Int) == 48) then
                some ((Number2.mk false ([]) ([])), false)
              else
                bif (decide ((o35.Frac.length : Int) > 6)) then
                  some ((Number2.mk false ([]) ([])), false)
                else
                  bif o35.Neg then
                    (cat o35.Whole o35.Frac).bind fun s59 =>
                    (calqueref07_Zero N s59).bind fun r61 =>
                    bif r61 then
                      some ((Number2.mk false ([]) ([])), false)
                    else
                      some (o35, true)
                  else
                    some (o35, true)
            else
              bif (decide ((o35.Frac.length : Int) > 6)) then
                some ((Number2.mk false ([]) ([])), false)
              else
                bif o35.Neg then
                  (cat o35.Whole o35.Frac).bind fun s66 =>
                  (calqueref07_Zero N s66).bind fun r68 =>
                  bif r68 then
                    some ((Number2.mk false ([]) ([])), false)
                  else
                    some (o35, true)
                else
                  some (o35, true))
    (fun o35 =>
      some o35) o35
  else
    (iter (fun s => calqueref07_Split_b2 N s_0 s) N 0).bind fun o73 =>
    (slc s_0 0 o73).bind fun s82 =>
    (show Option (Number2 ⊕ (Number2 × Bool)) from
      bif (decide (o73 < (s_0.length : Int))) then
        (slc s_0 (o73 + 1) (s_0.length : Int)).bind fun s90 =>
        bif ((s90.length : Int) == 0) then
          some (.inr ((Number2.mk false ([]) ([])), false))
        else
          some (.inl (Number2.mk false s82 s90))
      else
        some (.inl (Number2.mk false s82 ([])))).bind fun o84 =>
    Sum.elim (fun o84 =>
      (cat o84.Whole o84.Frac).bind fun s95 =>
      (calqueref07_digits N s95).bind fun r97 =>
      bif (!r97) then
        some ((Number2.mk false ([]) ([])), false)
      else
        bif (decide ((o84.Whole.length : Int) < 1)) then
          some ((Number2.mk false ([]) ([])), false)
        else
          bif (decide ((o84.Whole.length : Int) > 15)) then
            some ((Number2.mk false ([]) ([])), false)
          else
            bif (decide ((o84.Whole.length : Int) > 1)) then
              (idx o84.Whole 0).bind fun c103 =>
              bif ((c103.toNat : Int) == 48) then
                some ((Number2.mk false ([]) ([])), false)
              else
                bif (decide ((o84.Frac.length : Int) > 6)) then
                  some ((Number2.mk false ([]) ([])), false)
                else
                  bif o84.Neg then
                    (cat o84.Whole o84.Frac).bind fun s108 =>
                    (calqueref07_Zero N s108).bind fun r110 =>
                    bif r110 then
                      some ((Number2.mk false ([]) ([])), false)
                    else
                      some (o84, true)
                  else
                    some (o84, true)
            else
              bif (decide ((o84.Frac.length : Int) > 6)) then
                some ((Number2.mk false ([]) ([])), false)
              else
                bif o84.Neg then
                  (cat o84.Whole o84.Frac).bind fun s115 =>
                  (calqueref07_Zero N s115).bind fun r117 =>
                  bif r117 then
                    some ((Number2.mk false ([]) ([])), false)
                  else
                    some (o84, true)
                else
                  some (o84, true))
    (fun o84 =>
      some o84) o84

def calqueref07_Valid (N : Nat) (s_0 : List UInt8) : Option Bool :=
  (calqueref07_Split N s_0).bind fun r1 =>
  some r1.2

def calqueref07_zeros_b1 (_N : Nat) (n_0 : Int) (s_6 : List UInt8) (i_7 : Int) : Option (((List UInt8) × Int) ⊕ (((List UInt8)))) :=
  bif (decide (i_7 < n_0)) then
    (cat s_6 ([48])).bind fun s11 =>
    some (.inl (s11, (i_7 + 1)))
  else
    some (.inr s_6)
def calqueref07_zeros (N : Nat) (n_0 : Int) : Option (List UInt8) :=
  (iter (fun s => calqueref07_zeros_b1 N n_0 s.1 s.2) N ([], 0)).bind fun o3 =>
  some o3

def calqueref07_lead_b1 (_N : Nat) (s_4 : List UInt8) : Option (((List UInt8)) ⊕ (((List UInt8)))) :=
  bif (decide ((s_4.length : Int) > 1)) then
    (idx s_4 0).bind fun c7 =>
    bif ((c7.toNat : Int) == 48) then
      (slc s_4 1 (s_4.length : Int)).bind fun s10 =>
      some (.inl s10)
    else
      some (.inr s_4)
  else
    some (.inr s_4)
def calqueref07_lead (N : Nat) (s_0 : List UInt8) : Option (List UInt8) :=
  (iter (fun s => calqueref07_lead_b1 N s) N s_0).bind fun o2 =>
  some o2

def calqueref07_Text (N : Nat) (x_0 : Number2) : Option (List UInt8) :=
  (show Option ((List UInt8)) from
    bif (x_0.Frac != ([])) then
      (cat ([46]) x_0.Frac).bind fun s7 =>
      (cat x_0.Whole s7).bind fun s9 =>
      some s9
    else
      some x_0.Whole).bind fun o4 =>
  bif x_0.Neg then
    (cat x_0.Whole x_0.Frac).bind fun s13 =>
    (calqueref07_Zero N s13).bind fun r15 =>
    bif (!r15) then
      (cat ([45]) o4).bind fun s18 =>
      some s18
    else
      some o4
  else
    some o4

def calqueref07_checked (N : Nat) (x_0 : Number2) : Option ((List UInt8) × Int) :=
  (calqueref07_lead N x_0.Whole).bind fun r4 =>
  bif (decide ((r4.length : Int) > 15)) then
    some ([], 2)
  else
    bif (decide ((x_0.Frac.length : Int) > 6)) then
      some ([], 2)
    else
      (calqueref07_Text N (Number2.mk x_0.Neg r4 x_0.Frac)).bind fun r9 =>
      some (r9, 0)

def calqueref07_increased (N : Nat) (s_0 : List UInt8) : Option (List UInt8) :=
  match N with
  | 0 => none
  | N + 1 =>
    bif (s_0 == ([])) then
      some ([49])
    else
      (idx s_0 (IntKind.wrap .i64 ((s_0.length : Int) - 1))).bind fun c2 =>
      bif ((c2.toNat : Int) == 57) then
        (slc s_0 0 (IntKind.wrap .i64 ((s_0.length : Int) - 1))).bind fun s5 =>
        (calqueref07_increased N s5).bind fun r7 =>
        (cat r7 ([48])).bind fun s10 =>
        some s10
      else
        (show Option ((List UInt8)) from
          (slc s_0 0 (IntKind.wrap .i64 ((s_0.length : Int) - 1))).bind fun s14 =>
          (cat s14 (bytesOf ([(IntKind.wrap .u8 ((c2.toNat : Int) + 1))] : List (Int)))).bind fun s19 =>
          some s19).bind fun o12 =>
        some o12

def calqueref07_Round (N : Nat) (s_0 : List UInt8) (n_1 : Int) : Option ((List UInt8) × Int) :=
  (calqueref07_Split N s_0).bind fun r1 =>
  bif (!r1.2) then
    some ([], 1)
  else
    bif (decide (n_1 < 0)) then
      some ([], 2)
    else
      bif (decide (n_1 > 6)) then
        some ([], 2)
      else
        bif (decide ((r1.1.Frac.length : Int) ≤ n_1)) then
          (show Option Number2 from
            (calqueref07_zeros N (IntKind.wrap .i64 (n_1 - (r1.1.Frac.length : Int)))).bind fun r16 =>
            (cat r1.1.Frac r16).bind fun s19 =>
            some (Number2.mk r1.1.Neg r1.1.Whole s19)).bind fun o13 =>
          (calqueref07_checked N o13).bind fun r24 =>
          some (r24.1, r24.2)
        else
          (slc r1.1.Frac 0 n_1).bind fun s28 =>
          (cat r1.1.Whole s28).bind fun s30 =>
          (idx r1.1.Frac n_1).bind fun c32 =>
          (show Option ((List UInt8)) from
            bif (decide ((c32.toNat : Int) ≥ 53)) then
              (calqueref07_increased N s30).bind fun r37 =>
              some r37
            else
              some s30).bind fun o34 =>
          (show Option Number2 from
            (slc o34 0 (IntKind.wrap .i64 ((o34.length : Int) - n_1))).bind fun s44 =>
            (slc o34 (IntKind.wrap .i64 ((o34.length : Int) - n_1)) (o34.length : Int)).bind fun s46 =>
            some (Number2.mk r1.1.Neg s44 s46)).bind fun o41 =>
          (calqueref07_checked N o41).bind fun r50 =>
          some (r50.1, r50.2)

def calqueref07_Shift (N : Nat) (s_0 : List UInt8) (n_1 : Int) : Option ((List UInt8) × Int) :=
  (calqueref07_Split N s_0).bind fun r1 =>
  bif (!r1.2) then
    some ([], 1)
  else
    bif (decide (n_1 < (-6))) then
      some ([], 2)
    else
      bif (decide (n_1 > 21)) then
        (cat r1.1.Whole r1.1.Frac).bind fun s12 =>
        (calqueref07_Zero N s12).bind fun r14 =>
        bif (!r14) then
          some ([], 2)
        else
          (calqueref07_zeros N (IntKind.wrap .i64 ((r1.1.Frac.length : Int) - (min n_1 30)))).bind fun r17 =>
          (cat r17 r1.1.Whole).bind fun s20 =>
          (cat s20 r1.1.Frac).bind fun s22 =>
          (calqueref07_zeros N (IntKind.wrap .i64 (-(IntKind.wrap .i64 ((r1.1.Frac.length : Int) - (min n_1 30)))))).bind fun r24 =>
          (cat s22 r24).bind fun s27 =>
          (show Option Number2 from
            (slc s27 0 (IntKind.wrap .i64 ((s27.length : Int) - (max 0 (IntKind.wrap .i64 ((r1.1.Frac.length : Int) - (min n_1 30))))))).bind fun s32 =>
            (slc s27 (IntKind.wrap .i64 ((s27.length : Int) - (max 0 (IntKind.wrap .i64 ((r1.1.Frac.length : Int) - (min n_1 30)))))) (s27.length : Int)).bind fun s34 =>
            some (Number2.mk r1.1.Neg s32 s34)).bind fun o29 =>
          (calqueref07_checked N o29).bind fun r38 =>
          some (r38.1, r38.2)
      else
        (calqueref07_zeros N (IntKind.wrap .i64 ((r1.1.Frac.length : Int) - (min n_1 30)))).bind fun r42 =>
        (cat r42 r1.1.Whole).bind fun s45 =>
        (cat s45 r1.1.Frac).bind fun s47 =>
        (calqueref07_zeros N (IntKind.wrap .i64 (-(IntKind.wrap .i64 ((r1.1.Frac.length : Int) - (min n_1 30)))))).bind fun r49 =>
        (cat s47 r49).bind fun s52 =>
        (show Option Number2 from
          (slc s52 0 (IntKind.wrap .i64 ((s52.length : Int) - (max 0 (IntKind.wrap .i64 ((r1.1.Frac.length : Int) - (min n_1 30))))))).bind fun s57 =>
          (slc s52 (IntKind.wrap .i64 ((s52.length : Int) - (max 0 (IntKind.wrap .i64 ((r1.1.Frac.length : Int) - (min n_1 30)))))) (s52.length : Int)).bind fun s59 =>
          some (Number2.mk r1.1.Neg s57 s59)).bind fun o54 =>
        (calqueref07_checked N o54).bind fun r63 =>
        some (r63.1, r63.2)

def calqueref15_Group_b1 (_N : Nat) (x_0 : Symbols) (digits_1 : List UInt8) (o10 : Int) (k_23 : Int) (out_24 : List UInt8) : Option ((Int × (List UInt8)) ⊕ ((Int × (List UInt8)))) :=
  bif (decide (k_23 > o10)) then
    (slc digits_1 (IntKind.wrap .i64 (k_23 - o10)) k_23).bind fun s28 =>
    (cat x_0.Group s28).bind fun s30 =>
    (cat s30 out_24).bind fun s32 =>
    some (.inl ((IntKind.wrap .i64 (k_23 - o10)), s32))
  else
    some (.inr (k_23, out_24))
def calqueref15_Group (N : Nat) (x_0 : Symbols) (digits_1 : List UInt8) : Option (List UInt8) :=
  bif (decide (x_0.Primary < 1)) then
    some digits_1
  else
    bif (decide ((digits_1.length : Int) ≤ x_0.Primary)) then
      some digits_1
    else
      (show Option Int from
        bif (decide (x_0.Secondary < 1)) then
          some x_0.Primary
        else
          some x_0.Secondary).bind fun o10 =>
      (slc digits_1 (IntKind.wrap .i64 ((digits_1.length : Int) - x_0.Primary)) (digits_1.length : Int)).bind fun s14 =>
      (cat x_0.Group s14).bind fun s16 =>
      (iter (fun s => calqueref15_Group_b1 N x_0 digits_1 o10 s.1 s.2) N ((IntKind.wrap .i64 ((digits_1.length : Int) - x_0.Primary)), s16)).bind fun o20 =>
      (slc digits_1 0 o20.1).bind fun s36 =>
      (cat s36 o20.2).bind fun s38 =>
      some s38

def calqueref15_Text (N : Nat) (x_0 : Symbols) (number_1 : List UInt8) : Option (List UInt8) :=
  (calqueref07_Split N number_1).bind fun r8 =>
  (calqueref15_Group N x_0 r8.1.Whole).bind fun r16 =>
  (show Option ((List UInt8)) from
    bif (r8.1.Frac != ([])) then
      (cat x_0.Decimal r8.1.Frac).bind fun s22 =>
      (cat r16 s22).bind fun s24 =>
      some s24
    else
      some r16).bind fun o19 =>
  bif r8.1.Neg then
    (cat x_0.Minus o19).bind fun s28 =>
    some s28
  else
    some o19

def calqueref15_Format (N : Nat) (loc_0 : Locale) (number_1 : List UInt8) (style_2 : List UInt8) : Option ((List UInt8) × Int) :=
  (calqueref07_Valid N number_1).bind fun r25 =>
  bif (!r25) then
    some ([], 1)
  else
    bif (style_2 != ([])) then
      bif (style_2 != ([105, 110, 116, 101, 103, 101, 114])) then
        bif (style_2 != ([112, 101, 114, 99, 101, 110, 116])) then
          some ([], 1)
        else
          bif (loc_0.Symbols.Decimal == ([])) then
            some ([], 18)
          else
            (show Option ((List UInt8) × Int × (List UInt8)) from
              bif (style_2 == ([105, 110, 116, 101, 103, 101, 114])) then
                (calqueref07_Round N number_1 0).bind fun r37 =>
                some (r37.1, r37.2, [])
              else
                bif (style_2 == ([112, 101, 114, 99, 101, 110, 116])) then
                  (calqueref07_Shift N number_1 2).bind fun r42 =>
                  some (r42.1, r42.2, loc_0.Symbols.Percent)
                else
                  some (number_1, 0, [])).bind fun o32 =>
            bif (o32.2.1 != 0) then
              some ([], o32.2.1)
            else
              (calqueref15_Text N loc_0.Symbols o32.1).bind fun r50 =>
              (cat r50 o32.2.2).bind fun s53 =>
              some (s53, 0)
      else
        bif (loc_0.Symbols.Decimal == ([])) then
          some ([], 18)
        else
          (show Option ((List UInt8) × Int × (List UInt8)) from
            bif (style_2 == ([105, 110, 116, 101, 103, 101, 114])) then
              (calqueref07_Round N number_1 0).bind fun r61 =>
              some (r61.1, r61.2, [])
            else
              bif (style_2 == ([112, 101, 114, 99, 101, 110, 116])) then
                (calqueref07_Shift N number_1 2).bind fun r66 =>
                some (r66.1, r66.2, loc_0.Symbols.Percent)
              else
                some (number_1, 0, [])).bind fun o56 =>
          bif (o56.2.1 != 0) then
            some ([], o56.2.1)
          else
            (calqueref15_Text N loc_0.Symbols o56.1).bind fun r74 =>
            (cat r74 o56.2.2).bind fun s77 =>
            some (s77, 0)
    else
      bif (loc_0.Symbols.Decimal == ([])) then
        some ([], 18)
      else
        (show Option ((List UInt8) × Int × (List UInt8)) from
          bif (style_2 == ([105, 110, 116, 101, 103, 101, 114])) then
            (calqueref07_Round N number_1 0).bind fun r85 =>
            some (r85.1, r85.2, [])
          else
            bif (style_2 == ([112, 101, 114, 99, 101, 110, 116])) then
              (calqueref07_Shift N number_1 2).bind fun r90 =>
              some (r90.1, r90.2, loc_0.Symbols.Percent)
            else
              some (number_1, 0, [])).bind fun o80 =>
        bif (o80.2.1 != 0) then
          some ([], o80.2.1)
        else
          (calqueref15_Text N loc_0.Symbols o80.1).bind fun r98 =>
          (cat r98 o80.2.2).bind fun s101 =>
          some (s101, 0)

end Go.Proofs.YthecjdgffboedaaDoor
