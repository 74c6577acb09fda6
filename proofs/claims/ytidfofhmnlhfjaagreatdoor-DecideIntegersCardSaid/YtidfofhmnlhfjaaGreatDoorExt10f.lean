/- The functions of this part as plain Lean functions, printed by gen8.py. -/
import Derived.Test.YtidfofhmnlhfjaaGreatDoorExt10a1
import Derived.Test.YtidfofhmnlhfjaaGreatDoorExt10a2
import Derived.Test.YtidfofhmnlhfjaaGreatDoorExt10a3
import Derived.Test.YtidfofhmnlhfjaaGreatDoorExt10a4
import Derived.Test.YtidfofhmnlhfjaaGreatDoorExt10h
import Derived.Test.YtidfofhmnlhfjaaGreatDoorLibTZ
set_option linter.unusedVariables false
namespace Go.Proofs.YtidfofhmnlhfjaaGreatDoor
open Go.X

def calqueref10_all_b1 (_N : Nat) (c_0 : List (List (Relation))) (out_13 : List (Relation)) (i_14 : Int) : Option (((List (Relation)) × Int) ⊕ (((List (Relation))))) :=
  bif (decide (i_14 < (c_0.length : Int))) then
    (idx c_0 i_14).bind fun x20 =>
    (app out_13 x20).bind fun l31 =>
    some (.inl (l31, (i_14 + 1)))
  else
    some (.inr out_13)
def calqueref10_all (N : Nat) (c_0 : List (List (Relation))) : Option (List (Relation)) :=
  (iter (fun s => calqueref10_all_b1 N c_0 s.1 s.2) N ([], 0)).bind fun o8 =>
  some o8

def calqueref10_whole (_N : Nat) (r_0 : Relation) : Option Bool :=
  bif (r_0.Operand == 1) then
    some true
  else
    some (r_0.Operand == 2)

def calqueref08_Inside_b1 (_N : Nat) (l_0 : List (Span)) (n_1 : Int) (i_4 : Int) : Option (Int ⊕ ((Unit ⊕ Bool))) :=
  bif (decide (i_4 < (l_0.length : Int))) then
    (idx l_0 i_4).bind fun x7 =>
    bif (decide (n_1 ≥ x7.From)) then
      (idx l_0 i_4).bind fun x19 =>
      bif (decide (n_1 ≤ x19.To)) then
        some (.inr (.inr true))
      else
        some (.inl (i_4 + 1))
    else
      some (.inl (i_4 + 1))
  else
    some (.inr (.inl ()))
def calqueref08_Inside (N : Nat) (l_0 : List (Span)) (n_1 : Int) : Option Bool :=
  (iter (fun s => calqueref08_Inside_b1 N l_0 n_1 s) N 0).bind fun o2 =>
  Sum.elim (fun _o2 =>
    some false)
  (fun o2 =>
    some o2) o2

def calqueref07_Trim_b1 (_N : Nat) (s_4 : List UInt8) : Option (((List UInt8)) ⊕ (((List UInt8)))) :=
  bif (decide ((s_4.length : Int) > 0)) then
    (idx s_4 ((s_4.length : Int) - 1)).bind fun c7 =>
    bif ((c7.toNat : Int) == 48) then
      (slc s_4 0 ((s_4.length : Int) - 1)).bind fun s10 =>
      some (.inl s10)
    else
      some (.inr s_4)
  else
    some (.inr s_4)
def calqueref07_Trim (N : Nat) (s_0 : List UInt8) : Option (List UInt8) :=
  (iter (fun s => calqueref07_Trim_b1 N s) N s_0).bind fun o2 =>
  some o2

def calqueref07_Operand (N : Nat) (s_0 : List UInt8) (operand_1 : Int) : Option (Int × Int) :=
  (calqueref07_Split N s_0).bind fun r1 =>
  bif (!r1.2) then
    some (0, 1)
  else
    bif (operand_1 == 1) then
      (calqueref07_Zero N r1.1.Frac).bind fun r11 =>
      bif (!r11) then
        some (0, 8)
      else
        (calqueref07_Value N r1.1.Whole).bind fun r14 =>
        some (r14, 0)
    else
      bif (operand_1 == 2) then
        (calqueref07_Value N r1.1.Whole).bind fun r18 =>
        some (r18, 0)
      else
        bif (operand_1 == 3) then
          some ((r1.1.Frac.length : Int), 0)
        else
          bif (operand_1 == 4) then
            (calqueref07_Trim N r1.1.Frac).bind fun r23 =>
            some ((r23.length : Int), 0)
          else
            bif (operand_1 == 5) then
              (calqueref07_Value N r1.1.Frac).bind fun r27 =>
              some (r27, 0)
            else
              bif (operand_1 == 6) then
                (calqueref07_Trim N r1.1.Frac).bind fun r31 =>
                (calqueref07_Value N r31).bind fun r34 =>
                some (r34, 0)
              else
                some (0, 1)

def calqueref08_Relation (N : Nat) (r_0 : Relation) (number_1 : List UInt8) : Option Bool :=
  (calqueref07_Operand N number_1 r_0.Operand).bind fun r6 =>
  bif (r6.2 != 0) then
    some r_0.Not
  else
    (show Option Int from
      bif (r_0.Mod != 0) then
        (rm r6.1 r_0.Mod).bind fun q14 =>
        some q14
      else
        some r6.1).bind fun o11 =>
    (calqueref08_Inside N r_0.Spans o11).bind fun r17 =>
    some (r17 != r_0.Not)

def calqueref10_vector_b1 (N : Nat) (l_0 : List (Relation)) (number_1 : List UInt8) (first_2 : Bool) (s_6 : List UInt8) (i_7 : Int) : Option (((List UInt8) × Int) ⊕ (((List UInt8)))) :=
  bif (decide (i_7 < (l_0.length : Int))) then
    (idx l_0 i_7).bind fun x11 =>
    (calqueref10_whole N x11).bind fun r24 =>
    bif (r24 != first_2) then
      some (.inl (s_6, (i_7 + 1)))
    else
      (idx l_0 i_7).bind fun x27 =>
      (calqueref08_Relation N x27 number_1).bind fun r40 =>
      bif r40 then
        (cat s_6 ([49])).bind fun s43 =>
        some (.inl (s43, (i_7 + 1)))
      else
        (cat s_6 ([48])).bind fun s45 =>
        some (.inl (s45, (i_7 + 1)))
  else
    some (.inr s_6)
def calqueref10_vector (N : Nat) (l_0 : List (Relation)) (number_1 : List UInt8) (first_2 : Bool) : Option (List UInt8) :=
  (iter (fun s => calqueref10_vector_b1 N l_0 number_1 first_2 s.1 s.2) N ([], 0)).bind fun o3 =>
  some o3

def calqueref10_place_b1 (_N : Nat) (l_0 : List (List UInt8)) (s_1 : List UInt8) (i_4 : Int) : Option (Int ⊕ ((Unit ⊕ Int))) :=
  bif (decide (i_4 < (l_0.length : Int))) then
    (idx l_0 i_4).bind fun x7 =>
    bif (x7 == s_1) then
      some (.inr (.inr i_4))
    else
      some (.inl (i_4 + 1))
  else
    some (.inr (.inl ()))
def calqueref10_place (N : Nat) (l_0 : List (List UInt8)) (s_1 : List UInt8) : Option Int :=
  (iter (fun s => calqueref10_place_b1 N l_0 s_1 s) N 0).bind fun o2 =>
  Sum.elim (fun _o2 =>
    some (-1))
  (fun o2 =>
    some o2) o2

def calqueref10_wholes_b1 (N : Nat) (l_0 : List (Relation)) (seen_21 : List (List UInt8)) (out_22 : List (List UInt8)) (n_23 : Int) : Option (((List (List UInt8)) × (List (List UInt8)) × Int) ⊕ (((List (List UInt8))))) :=
  bif (decide (n_23 ≤ 400)) then
    (calqueref10_decimal N n_23).bind fun r32 =>
    (calqueref10_vector N l_0 r32 true).bind fun r35 =>
    (calqueref10_place N seen_21 r35).bind fun r43 =>
    bif (decide (r43 < 0)) then
      (app seen_21 ([r35] : List (List UInt8))).bind fun l50 =>
      (calqueref10_decimal N n_23).bind fun r55 =>
      (app out_22 ([r55] : List (List UInt8))).bind fun l61 =>
      some (.inl (l50, l61, (IntKind.wrap .i64 (n_23 + 1))))
    else
      some (.inl (seen_21, out_22, (IntKind.wrap .i64 (n_23 + 1))))
  else
    some (.inr out_22)
def calqueref10_wholes (N : Nat) (l_0 : List (Relation)) : Option (List (List UInt8)) :=
  (iter (fun s => calqueref10_wholes_b1 N l_0 s.1 s.2.1 s.2.2) N ([], [], 0)).bind fun o13 =>
  some o13

def calqueref10_padded_b1 (_N : Nat) (width_1 : Int) (s_7 : List UInt8) : Option (((List UInt8)) ⊕ (((List UInt8)))) :=
  bif (decide ((s_7.length : Int) < width_1)) then
    (cat ([48]) s_7).bind fun s10 =>
    some (.inl s10)
  else
    some (.inr s_7)

def calqueref10_padded_b2 (_N : Nat) (zeros_2 : Int) (s_18 : List UInt8) (i_19 : Int) : Option (((List UInt8) × Int) ⊕ (((List UInt8)))) :=
  bif (decide (i_19 < zeros_2)) then
    (cat s_18 ([48])).bind fun s23 =>
    some (.inl (s23, (i_19 + 1)))
  else
    some (.inr s_18)
def calqueref10_padded (N : Nat) (n_0 : Int) (width_1 : Int) (zeros_2 : Int) : Option (List UInt8) :=
  (calqueref10_decimal N n_0).bind fun r1 =>
  (iter (fun s => calqueref10_padded_b1 N width_1 s) N r1).bind fun o5 =>
  (iter (fun s => calqueref10_padded_b2 N zeros_2 s.1 s.2) N (o5, 0)).bind fun o15 =>
  some o15

def calqueref10_fractions_b3 (N : Nat) (l_0 : List (Relation)) (seen_21 : List (List UInt8)) (n_23 : Int) (w_49 : Int) (seen_73 : List (List UInt8)) (out_74 : List (List UInt8)) (t_75 : Int) : Option (((List (List UInt8)) × (List (List UInt8)) × Int) ⊕ (((List (List UInt8)) × (List (List UInt8))))) :=
  bif (decide (t_75 < 300)) then
    (rm t_75 10).bind fun q84 =>
    bif ((q84 == 0) != (w_49 == 0)) then
      some (.inl (seen_73, out_74, (t_75 + 1)))
    else
      bif (w_49 == 0) then
        bif (decide (t_75 > 0)) then
          some (.inl (seen_73, out_74, (t_75 + 1)))
        else
          (calqueref10_decimal N t_75).bind fun r89 =>
          bif (decide ((r89.length : Int) > (max w_49 1))) then
            some (.inl (seen_73, out_74, (t_75 + 1)))
          else
            (show Option ((List UInt8)) from
              bif (decide (n_23 > 0)) then
                (calqueref10_padded N t_75 w_49 (IntKind.wrap .i64 (n_23 - w_49))).bind fun r96 =>
                some r96
              else
                some ([])).bind fun o93 =>
            (show Option ((List UInt8)) from
              bif (w_49 == 0) then
                (calqueref10_padded N 0 n_23 0).bind fun r103 =>
                (slc r103 0 n_23).bind fun s106 =>
                some s106
              else
                some o93).bind fun o100 =>
            (show Option ((List UInt8)) from
              bif (decide (n_23 > 0)) then
                (cat ([48, 46]) o100).bind fun s112 =>
                some s112
              else
                some ([48])).bind fun o109 =>
            (calqueref10_vector N l_0 o109 false).bind fun r115 =>
            (show Option ((List UInt8)) from
              bif (w_49 == 0) then
                (cat r115 ([48])).bind fun s121 =>
                some s121
              else
                some r115).bind fun o118 =>
            (calqueref10_place N seen_73 o118).bind fun r129 =>
            bif (decide (r129 < 0)) then
              (app seen_73 ([o118] : List (List UInt8))).bind fun l136 =>
              (app out_74 ([o100] : List (List UInt8))).bind fun l144 =>
              some (.inl (l136, l144, (t_75 + 1)))
            else
              bif (decide (r129 ≥ (seen_21.length : Int))) then
                (idx out_74 r129).bind fun x150 =>
                bif (sless o100 x150) then
                  (idx out_74 r129).bind fun _x162 =>
                  (setI out_74 r129 o100).bind fun l168 =>
                  some (.inl (seen_73, l168, (t_75 + 1)))
                else
                  some (.inl (seen_73, out_74, (t_75 + 1)))
              else
                some (.inl (seen_73, out_74, (t_75 + 1)))
      else
        (calqueref10_decimal N t_75).bind fun r172 =>
        bif (decide ((r172.length : Int) > (max w_49 1))) then
          some (.inl (seen_73, out_74, (t_75 + 1)))
        else
          (show Option ((List UInt8)) from
            bif (decide (n_23 > 0)) then
              (calqueref10_padded N t_75 w_49 (IntKind.wrap .i64 (n_23 - w_49))).bind fun r179 =>
              some r179
            else
              some ([])).bind fun o176 =>
          (show Option ((List UInt8)) from
            bif (w_49 == 0) then
              (calqueref10_padded N 0 n_23 0).bind fun r186 =>
              (slc r186 0 n_23).bind fun s189 =>
              some s189
            else
              some o176).bind fun o183 =>
          (show Option ((List UInt8)) from
            bif (decide (n_23 > 0)) then
              (cat ([48, 46]) o183).bind fun s195 =>
              some s195
            else
              some ([48])).bind fun o192 =>
          (calqueref10_vector N l_0 o192 false).bind fun r198 =>
          (show Option ((List UInt8)) from
            bif (w_49 == 0) then
              (cat r198 ([48])).bind fun s204 =>
              some s204
            else
              some r198).bind fun o201 =>
          (calqueref10_place N seen_73 o201).bind fun r212 =>
          bif (decide (r212 < 0)) then
            (app seen_73 ([o201] : List (List UInt8))).bind fun l219 =>
            (app out_74 ([o183] : List (List UInt8))).bind fun l227 =>
            some (.inl (l219, l227, (t_75 + 1)))
          else
            bif (decide (r212 ≥ (seen_21.length : Int))) then
              (idx out_74 r212).bind fun x233 =>
              bif (sless o183 x233) then
                (idx out_74 r212).bind fun _x245 =>
                (setI out_74 r212 o183).bind fun l251 =>
                some (.inl (seen_73, l251, (t_75 + 1)))
              else
                some (.inl (seen_73, out_74, (t_75 + 1)))
            else
              some (.inl (seen_73, out_74, (t_75 + 1)))
  else
    some (.inr (seen_73, out_74))

def calqueref10_fractions_b2 (N : Nat) (l_0 : List (Relation)) (seen_21 : List (List UInt8)) (n_23 : Int) (seen_47 : List (List UInt8)) (out_48 : List (List UInt8)) (w_49 : Int) : Option (((List (List UInt8)) × (List (List UInt8)) × Int) ⊕ (((List (List UInt8)) × (List (List UInt8))))) :=
  bif (decide (w_49 ≤ n_23)) then
    (iter (fun s => calqueref10_fractions_b3 N l_0 seen_21 n_23 w_49 s.1 s.2.1 s.2.2) N (seen_47, out_48, 0)).bind fun o65 =>
    some (.inl (o65.1, o65.2, (IntKind.wrap .i64 (w_49 + 1))))
  else
    some (.inr (seen_47, out_48))

def calqueref10_fractions_b1 (N : Nat) (l_0 : List (Relation)) (seen_21 : List (List UInt8)) (out_22 : List (List UInt8)) (n_23 : Int) : Option (((List (List UInt8)) × (List (List UInt8)) × Int) ⊕ (((List (List UInt8))))) :=
  bif (decide (n_23 ≤ 6)) then
    (iter (fun s => calqueref10_fractions_b2 N l_0 seen_21 n_23 s.1 s.2.1 s.2.2) N (seen_21, out_22, 0)).bind fun o39 =>
    some (.inl (o39.1, o39.2, (IntKind.wrap .i64 (n_23 + 1))))
  else
    some (.inr out_22)
def calqueref10_fractions (N : Nat) (l_0 : List (Relation)) : Option (List (List UInt8)) :=
  (iter (fun s => calqueref10_fractions_b1 N l_0 s.1 s.2.1 s.2.2) N ([], [], 0)).bind fun o13 =>
  some o13

def calqueref08_Holds_b2 (N : Nat) (c_0 : List (List (Relation))) (number_1 : List UInt8) (i_10 : Int) (all_16 : Bool) (k_17 : Int) : Option ((Bool × Int) ⊕ Bool) :=
  (idx c_0 i_10).bind fun x19 =>
  bif (decide (k_17 < (x19.length : Int))) then
    bif all_16 then
      (idx c_0 i_10).bind fun x32 =>
      (idx x32 k_17).bind fun x43 =>
      (calqueref08_Relation N x43 number_1).bind fun r56 =>
      some (.inl (r56, (k_17 + 1)))
    else
      some (.inl (false, (k_17 + 1)))
  else
    some (.inr all_16)

def calqueref08_Holds_b1 (N : Nat) (c_0 : List (List (Relation))) (number_1 : List UInt8) (i_10 : Int) : Option (Int ⊕ ((Unit ⊕ (Bool × Int)))) :=
  bif (decide (i_10 < (c_0.length : Int))) then
    (iter (fun s => calqueref08_Holds_b2 N c_0 number_1 i_10 s.1 s.2) N (true, 0)).bind fun o14 =>
    bif o14 then
      some (.inr (.inr (true, 0)))
    else
      some (.inl (i_10 + 1))
  else
    some (.inr (.inl ()))
def calqueref08_Holds (N : Nat) (c_0 : List (List (Relation))) (number_1 : List UInt8) : Option (Bool × Int) :=
  (calqueref08_Valid N c_0).bind fun r1 =>
  bif (!r1) then
    some (false, 1)
  else
    (calqueref07_Valid N number_1).bind fun r4 =>
    bif (!r4) then
      some (false, 1)
    else
      (iter (fun s => calqueref08_Holds_b1 N c_0 number_1 s) N 0).bind fun o8 =>
      Sum.elim (fun _o8 =>
        some (false, 0))
      (fun o8 =>
        some o8) o8

def calqueref10_shows_b1 (N : Nat) (l_0 : List (List (List (Relation)))) (number_1 : List UInt8) (n_6 : Int) (i_7 : Int) : Option ((Int × Int) ⊕ Int) :=
  bif (decide (i_7 < (l_0.length : Int))) then
    (idx l_0 i_7).bind fun x11 =>
    (calqueref08_Holds N x11 number_1).bind fun r22 =>
    bif r22.1 then
      some (.inl ((IntKind.wrap .i64 (n_6 + 1)), (i_7 + 1)))
    else
      some (.inl (n_6, (i_7 + 1)))
  else
    some (.inr n_6)
def calqueref10_shows (N : Nat) (l_0 : List (List (List (Relation)))) (number_1 : List UInt8) (property_2 : Int) : Option Bool :=
  (iter (fun s => calqueref10_shows_b1 N l_0 number_1 s.1 s.2) N (0, 0)).bind fun o3 =>
  bif (property_2 == 0) then
    some (decide (o3 > 0))
  else
    bif (property_2 == 1) then
      some (o3 == 0)
    else
      bif (property_2 == 2) then
        some (o3 == 2)
      else
        some (o3 == 1)

def calqueref10_first_b1 (N : Nat) (l_0 : List (List (List (Relation)))) (relations_14 : List (Relation)) (i_15 : Int) : Option (((List (Relation)) × Int) ⊕ (((List (Relation))))) :=
  bif (decide (i_15 < (l_0.length : Int))) then
    (idx l_0 i_15).bind fun x22 =>
    (calqueref10_all N x22).bind fun r33 =>
    (app relations_14 r33).bind fun l38 =>
    some (.inl (l38, (i_15 + 1)))
  else
    some (.inr relations_14)

def calqueref10_first_b3 (N : Nat) (l_0 : List (List (List (Relation)))) (property_1 : Int) (r49 : (List (List UInt8))) (r54 : (List (List UInt8))) (i_66 : Int) (best_75 : List UInt8) (ok_76 : Bool) (k_77 : Int) : Option (((List UInt8) × Bool × Int) ⊕ (((List UInt8) × Bool))) :=
  bif (decide (k_77 < (r54.length : Int))) then
    (idx r49 i_66).bind fun x81 =>
    (idx r54 k_77).bind fun x91 =>
    (show Option ((List UInt8)) from
      bif (x91 != ([])) then
        (idx r54 k_77).bind fun x104 =>
        (cat ([46]) x104).bind fun s114 =>
        (cat x81 s114).bind fun s116 =>
        some s116
      else
        some x81).bind fun o101 =>
    (calqueref10_shows N l_0 o101 property_1).bind fun r119 =>
    bif r119 then
      bif (!ok_76) then
        some (.inl (o101, true, (k_77 + 1)))
      else
        (calqueref10_Before N o101 best_75).bind fun r123 =>
        bif r123 then
          some (.inl (o101, true, (k_77 + 1)))
        else
          some (.inl (best_75, ok_76, (k_77 + 1)))
    else
      some (.inl (best_75, ok_76, (k_77 + 1)))
  else
    some (.inr (best_75, ok_76))

def calqueref10_first_b2 (N : Nat) (l_0 : List (List (List (Relation)))) (property_1 : Int) (r49 : (List (List UInt8))) (r54 : (List (List UInt8))) (best_64 : List UInt8) (ok_65 : Bool) (i_66 : Int) : Option (((List UInt8) × Bool × Int) ⊕ (((List UInt8) × Bool))) :=
  bif (decide (i_66 < (r49.length : Int))) then
    (iter (fun s => calqueref10_first_b3 N l_0 property_1 r49 r54 i_66 s.1 s.2.1 s.2.2) N (best_64, ok_65, 0)).bind fun o72 =>
    some (.inl (o72.1, o72.2, (i_66 + 1)))
  else
    some (.inr (best_64, ok_65))
def calqueref10_first (N : Nat) (l_0 : List (List (List (Relation)))) (property_1 : Int) : Option ((List UInt8) × Bool) :=
  (iter (fun s => calqueref10_first_b1 N l_0 s.1 s.2) N ([], 0)).bind fun o8 =>
  (calqueref10_wholes N o8).bind fun r49 =>
  (calqueref10_fractions N o8).bind fun r54 =>
  (iter (fun s => calqueref10_first_b2 N l_0 property_1 r49 r54 s.1 s.2.1 s.2.2) N ([], false, 0)).bind fun o61 =>
  some (o61.1, o61.2)

end Go.Proofs.YtidfofhmnlhfjaaGreatDoor
