/- The functions of this part as plain Lean functions, printed by gen.py. -/
import Derived.Test.YtnmiodonophfbaaDoorExt16t
import Derived.Test.YtnmiodonophfbaaDoorExt16u
import Derived.Test.YtnmiodonophfbaaDoorLibW
set_option linter.unusedVariables false
namespace Go.Proofs.YtnmiodonophfbaaDoor
open Go.X

structure Arr9_Int where
  e0 : Int
  e1 : Int
  e2 : Int
  e3 : Int
  e4 : Int
  e5 : Int
  e6 : Int
  e7 : Int
  e8 : Int

def Arr9_Int.list (a : Arr9_Int) : List (Int) := [a.e0, a.e1, a.e2, a.e3, a.e4, a.e5, a.e6, a.e7, a.e8]
def Arr9_Int.of : List (Int) → Option Arr9_Int
  | [x0, x1, x2, x3, x4, x5, x6, x7, x8] => some ⟨x0, x1, x2, x3, x4, x5, x6, x7, x8⟩
  | _ => none
def Arr9_Int.get (a : Arr9_Int) (i : Int) : Option (Int) := idx a.list i
def Arr9_Int.set (a : Arr9_Int) (i : Int) (x : Int) : Option Arr9_Int := (setI a.list i x).bind Arr9_Int.of

structure Span where
  From : Int
  To : Int

structure Relation where
  Operand : Int
  Mod : Int
  Not : Bool
  Spans : List (Span)

structure Rule where
  Class : List UInt8
  Cond : List (List (Relation))

structure Symbols where
  Decimal : List UInt8
  Group : List UInt8
  Minus : List UInt8
  Percent : List UInt8
  Primary : Int
  Secondary : Int

structure ListPattern where
  Style : List UInt8
  Two : List UInt8
  Start : List UInt8
  Middle : List UInt8
  End : List UInt8

structure UnitPattern where
  Unit : List UInt8
  Class : List UInt8
  Pattern : List UInt8

structure DatePattern where
  Skeleton : List UInt8
  Pattern : List UInt8

structure Locale where
  Tag : List UInt8
  Parent : List UInt8
  Direction : List UInt8
  Cardinal : List (Rule)
  Ordinal : List (Rule)
  Symbols : Symbols
  Lists : List (ListPattern)
  Units : List (UnitPattern)
  Dates : List (DatePattern)
  Months : List (List UInt8)
  Days : List (List UInt8)

def strings_ContainsAny (N : Nat) (s_0 : List UInt8) (chars_1 : List UInt8) : Option Bool :=
  (strings_IndexAny N s_0 chars_1).bind fun r1 =>
  some (decide (r1 ≥ 0))

def validate_Pattern_b1 (N : Nat) (n_1 : Int) (s_8 : List UInt8) (x_9 : Int) : Option (((List UInt8) × Int) ⊕ ((((List UInt8)) ⊕ Bool))) :=
  bif (decide (x_9 < n_1)) then
    (strconv_Itoa N x_9).bind fun r13 =>
    (cat ([123]) r13).bind fun s16 =>
    (cat s16 ([125])).bind fun s18 =>
    (strings_Count N s_8 s18).bind fun r20 =>
    bif (r20 != 1) then
      some (.inr (.inr false))
    else
      (strings_Replace N s_8 s18 ([0]) 1).bind fun r24 =>
      some (.inl (r24, (x_9 + 1)))
  else
    some (.inr (.inl s_8))
def validate_Pattern (N : Nat) (s_0 : List UInt8) (n_1 : Int) : Option Bool :=
  bif (decide (n_1 < 1)) then
    some false
  else
    bif (decide (n_1 > 9)) then
      some false
    else
      (iter (fun s => validate_Pattern_b1 N n_1 s.1 s.2) N (s_0, 0)).bind fun o5 =>
      Sum.elim (fun o5 =>
        (strings_ContainsAny N o5 ([123, 125])).bind fun r28 =>
        some (!r28))
      (fun o5 =>
        some o5) o5

def calqueref13_Pattern_b1 (_N : Nat) (s_0 : List UInt8) (n_1 : Int) (i_26 : Int) (x_27 : Arr9_Int) : Option ((Int × Arr9_Int) ⊕ ((Arr9_Int ⊕ Bool))) :=
  bif (decide (i_26 < (s_0.length : Int))) then
    (idx s_0 i_26).bind fun c39 =>
    bif ((c39.toNat : Int) == 123) then
      bif (decide ((IntKind.wrap .i64 (i_26 + 2)) < (s_0.length : Int))) then
        (idx s_0 (IntKind.wrap .i64 (i_26 + 2))).bind fun c43 =>
        bif ((c43.toNat : Int) == 125) then
          (idx s_0 (i_26 + 1)).bind fun c46 =>
          bif (decide ((c46.toNat : Int) ≥ 48)) then
            (idx s_0 (i_26 + 1)).bind fun c49 =>
            bif (decide ((IntKind.wrap .u8 ((c49.toNat : Int) - 48)) < n_1)) then
              (idx s_0 (i_26 + 1)).bind fun c52 =>
              (Arr9_Int.get x_27 (IntKind.wrap .u8 ((c52.toNat : Int) - 48))).bind fun x54 =>
              (Arr9_Int.get x_27 (IntKind.wrap .u8 ((c52.toNat : Int) - 48))).bind fun _x56 =>
              (Arr9_Int.set x_27 (IntKind.wrap .u8 ((c52.toNat : Int) - 48)) (IntKind.wrap .i64 (x54 + 1))).bind fun z58 =>
              some (.inl (((IntKind.wrap .i64 (i_26 + 2)) + 1), z58))
            else
              (idx s_0 i_26).bind fun c62 =>
              bif ((c62.toNat : Int) == 123) then
                some (.inr (.inr false))
              else
                (idx s_0 i_26).bind fun c65 =>
                bif ((c65.toNat : Int) == 125) then
                  some (.inr (.inr false))
                else
                  some (.inl ((i_26 + 1), x_27))
          else
            (idx s_0 i_26).bind fun c68 =>
            bif ((c68.toNat : Int) == 123) then
              some (.inr (.inr false))
            else
              (idx s_0 i_26).bind fun c71 =>
              bif ((c71.toNat : Int) == 125) then
                some (.inr (.inr false))
              else
                some (.inl ((i_26 + 1), x_27))
        else
          (idx s_0 i_26).bind fun c74 =>
          bif ((c74.toNat : Int) == 123) then
            some (.inr (.inr false))
          else
            (idx s_0 i_26).bind fun c77 =>
            bif ((c77.toNat : Int) == 125) then
              some (.inr (.inr false))
            else
              some (.inl ((i_26 + 1), x_27))
      else
        (idx s_0 i_26).bind fun c80 =>
        bif ((c80.toNat : Int) == 123) then
          some (.inr (.inr false))
        else
          (idx s_0 i_26).bind fun c83 =>
          bif ((c83.toNat : Int) == 125) then
            some (.inr (.inr false))
          else
            some (.inl ((i_26 + 1), x_27))
    else
      (idx s_0 i_26).bind fun c86 =>
      bif ((c86.toNat : Int) == 123) then
        some (.inr (.inr false))
      else
        (idx s_0 i_26).bind fun c89 =>
        bif ((c89.toNat : Int) == 125) then
          some (.inr (.inr false))
        else
          some (.inl ((i_26 + 1), x_27))
  else
    some (.inr (.inl x_27))

def calqueref13_Pattern_b2 (_N : Nat) (n_1 : Int) (o15 : Arr9_Int) (i_104 : Int) : Option (Int ⊕ ((Unit ⊕ Bool))) :=
  bif (decide (i_104 < n_1)) then
    (Arr9_Int.get o15 i_104).bind fun x107 =>
    bif (x107 != 1) then
      some (.inr (.inr false))
    else
      some (.inl (i_104 + 1))
  else
    some (.inr (.inl ()))
def calqueref13_Pattern (N : Nat) (s_0 : List UInt8) (n_1 : Int) : Option Bool :=
  bif (decide (n_1 < 1)) then
    some false
  else
    bif (decide (n_1 > 9)) then
      some false
    else
      (iter (fun s => calqueref13_Pattern_b1 N s_0 n_1 s.1 s.2) N (0, (Arr9_Int.mk 0 0 0 0 0 0 0 0 0))).bind fun o15 =>
      Sum.elim (fun o15 =>
        (iter (fun s => calqueref13_Pattern_b2 N n_1 o15 s) N 0).bind fun o102 =>
        Sum.elim (fun _o102 =>
          some true)
        (fun o102 =>
          some o102) o102)
      (fun o15 =>
        some o15) o15

def list_Find_b1 (_N : Nat) (loc_0 : Locale) (style_1 : List UInt8) (x_29 : Int) : Option (Int ⊕ ((Unit ⊕ (ListPattern × Bool)))) :=
  bif (decide (x_29 < (loc_0.Lists.length : Int))) then
    (idx loc_0.Lists x_29).bind fun x32 =>
    bif (x32.Style == style_1) then
      some (.inr (.inr (x32, true)))
    else
      some (.inl (x_29 + 1))
  else
    some (.inr (.inl ()))
def list_Find (N : Nat) (loc_0 : Locale) (style_1 : List UInt8) : Option (ListPattern × Bool) :=
  (iter (fun s => list_Find_b1 N loc_0 style_1 s) N 0).bind fun o27 =>
  Sum.elim (fun _o27 =>
    some ((ListPattern.mk ([]) ([]) ([]) ([]) ([])), false))
  (fun o27 =>
    some o27) o27

def calqueref16_Find_b1 (_N : Nat) (loc_0 : Locale) (style_1 : List UInt8) (i_29 : Int) : Option (Int ⊕ ((Unit ⊕ (ListPattern × Bool)))) :=
  bif (decide (i_29 < (loc_0.Lists.length : Int))) then
    (idx loc_0.Lists i_29).bind fun x32 =>
    bif (x32.Style == style_1) then
      (idx loc_0.Lists i_29).bind fun x47 =>
      some (.inr (.inr (x47, true)))
    else
      some (.inl (i_29 + 1))
  else
    some (.inr (.inl ()))
def calqueref16_Find (N : Nat) (loc_0 : Locale) (style_1 : List UInt8) : Option (ListPattern × Bool) :=
  (iter (fun s => calqueref16_Find_b1 N loc_0 style_1 s) N 0).bind fun o27 =>
  Sum.elim (fun _o27 =>
    some ((ListPattern.mk ([]) ([]) ([]) ([]) ([])), false))
  (fun o27 =>
    some o27) o27

def list_fill (N : Nat) (pattern_0 : List UInt8) (a_1 : List UInt8) (b_2 : List UInt8) : Option (List UInt8) :=
  (strings_Cut N pattern_0 ([123, 48, 125])).bind fun r1 =>
  (strings_Cut N r1.1 ([123, 49, 125])).bind fun r5 =>
  bif r5.2.2 then
    (cat r5.1 b_2).bind fun s10 =>
    (cat s10 r5.2.1).bind fun s12 =>
    (cat s12 a_1).bind fun s14 =>
    (cat s14 r1.2.1).bind fun s16 =>
    some s16
  else
    (strings_Cut N r1.2.1 ([123, 49, 125])).bind fun r18 =>
    (cat r1.1 a_1).bind fun s22 =>
    (cat s22 r18.1).bind fun s24 =>
    (cat s24 b_2).bind fun s26 =>
    (cat s26 r18.2.1).bind fun s28 =>
    some s28

def list_Fill (N : Nat) (pattern_0 : List UInt8) (a_1 : List UInt8) (b_2 : List UInt8) : Option ((List UInt8) × Int) :=
  (validate_Pattern N pattern_0 2).bind fun r1 =>
  bif (!r1) then
    some ([], 4)
  else
    (list_fill N pattern_0 a_1 b_2).bind fun r4 =>
    some (r4, 0)

def calqueref16_fill_b1 (_N : Nat) (pattern_0 : List UInt8) (a_1 : List UInt8) (b_2 : List UInt8) (out_6 : List UInt8) (i_7 : Int) : Option (((List UInt8) × Int) ⊕ (((List UInt8)))) :=
  bif (decide (i_7 < (pattern_0.length : Int))) then
    (idx pattern_0 i_7).bind fun c11 =>
    bif ((c11.toNat : Int) != 123) then
      (slc pattern_0 i_7 (i_7 + 1)).bind fun s14 =>
      (cat out_6 s14).bind fun s16 =>
      some (.inl (s16, (i_7 + 1)))
    else
      (idx pattern_0 (i_7 + 1)).bind fun c18 =>
      bif ((c18.toNat : Int) == 48) then
        (cat out_6 a_1).bind fun s21 =>
        some (.inl (s21, (IntKind.wrap .i64 ((IntKind.wrap .i64 (i_7 + 2)) + 1))))
      else
        (cat out_6 b_2).bind fun s23 =>
        some (.inl (s23, (IntKind.wrap .i64 ((IntKind.wrap .i64 (i_7 + 2)) + 1))))
  else
    some (.inr out_6)
def calqueref16_fill (N : Nat) (pattern_0 : List UInt8) (a_1 : List UInt8) (b_2 : List UInt8) : Option (List UInt8) :=
  (iter (fun s => calqueref16_fill_b1 N pattern_0 a_1 b_2 s.1 s.2) N ([], 0)).bind fun o3 =>
  some o3

def calqueref16_Join_b1 (N : Nat) (items_2 : List (List UInt8)) (r25 : ListPattern × Bool) (s_116 : List UInt8) (i_117 : Int) : Option (((List UInt8) × Int) ⊕ (((List UInt8)))) :=
  bif (decide (i_117 > 0)) then
    (idx items_2 i_117).bind fun x121 =>
    (calqueref16_fill N r25.1.Middle x121 s_116).bind fun r131 =>
    some (.inl (r131, (i_117 - 1)))
  else
    some (.inr s_116)
def calqueref16_Join (N : Nat) (loc_0 : Locale) (style_1 : List UInt8) (items_2 : List (List UInt8)) : Option ((List UInt8) × Int) :=
  (calqueref16_Find N loc_0 style_1).bind fun r25 =>
  bif (!r25.2) then
    some ([], 18)
  else
    (calqueref13_Pattern N r25.1.Two 2).bind fun r37 =>
    bif (!r37) then
      some ([], 4)
    else
      (calqueref13_Pattern N r25.1.Start 2).bind fun r40 =>
      bif (!r40) then
        some ([], 4)
      else
        (calqueref13_Pattern N r25.1.Middle 2).bind fun r43 =>
        bif (!r43) then
          some ([], 4)
        else
          (calqueref13_Pattern N r25.1.End 2).bind fun r46 =>
          bif (!r46) then
            some ([], 4)
          else
            bif (decide ((items_2.length : Int) > 1000)) then
              some ([], 6)
            else
              (show Option ((List UInt8)) from
                bif ((items_2.length : Int) == 1) then
                  (idx items_2 0).bind fun x53 =>
                  some x53
                else
                  bif ((items_2.length : Int) == 2) then
                    (idx items_2 0).bind fun x64 =>
                    (idx items_2 1).bind fun x74 =>
                    (calqueref16_fill N r25.1.Two x64 x74).bind fun r84 =>
                    some r84
                  else
                    bif (decide ((items_2.length : Int) > 2)) then
                      (idx items_2 (IntKind.wrap .i64 ((items_2.length : Int) - 2))).bind fun x88 =>
                      (idx items_2 ((items_2.length : Int) - 1)).bind fun x98 =>
                      (calqueref16_fill N r25.1.End x88 x98).bind fun r108 =>
                      (iter (fun s => calqueref16_Join_b1 N items_2 r25 s.1 s.2) N (r108, (IntKind.wrap .i64 ((items_2.length : Int) - 3)))).bind fun o113 =>
                      (idx items_2 0).bind fun x135 =>
                      (calqueref16_fill N r25.1.Start x135 o113).bind fun r145 =>
                      some r145
                    else
                      some ([])).bind fun o50 =>
              bif (decide ((o50.length : Int) > 20000)) then
                some ([], 6)
              else
                some (o50, 0)

def calqueref16_Fill (N : Nat) (pattern_0 : List UInt8) (a_1 : List UInt8) (b_2 : List UInt8) : Option ((List UInt8) × Int) :=
  (calqueref13_Pattern N pattern_0 2).bind fun r1 =>
  bif (!r1) then
    some ([], 4)
  else
    (calqueref16_fill N pattern_0 a_1 b_2).bind fun r4 =>
    some (r4, 0)

def calqueref16_Few_b1 (_N : Nat) (items_1 : List (List UInt8)) (n_12 : Int) (i_13 : Int) : Option ((Int × Int) ⊕ Int) :=
  bif (decide (i_13 < (items_1.length : Int))) then
    (idx items_1 i_13).bind fun x17 =>
    some (.inl ((IntKind.wrap .i64 (n_12 + (x17.length : Int))), (i_13 + 1)))
  else
    some (.inr n_12)
def calqueref16_Few (N : Nat) (p_0 : ListPattern) (items_1 : List (List UInt8)) : Option Bool :=
  (iter (fun s => calqueref16_Few_b1 N items_1 s.1 s.2) N (0, 0)).bind fun o9 =>
  bif (decide ((IntKind.wrap .i64 ((IntKind.wrap .i64 ((IntKind.wrap .i64 ((IntKind.wrap .i64 ((p_0.Style.length : Int) + (p_0.Two.length : Int))) + (p_0.Start.length : Int))) + (p_0.Middle.length : Int))) + (p_0.End.length : Int))) ≤ 400)) then
    bif (decide (o9 ≤ 30000)) then
      some (decide ((items_1.length : Int) ≤ 40))
    else
      some false
  else
    some false

end Go.Proofs.YtnmiodonophfbaaDoor
