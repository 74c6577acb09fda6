/- The functions of this part as plain Lean functions, printed by gen8.py. -/
import Derived.Test.YtidfofhmnlhfjaaGreatDoorExt10a3
import Derived.Test.YtidfofhmnlhfjaaGreatDoorLibTZ
set_option linter.unusedVariables false
namespace Go.Proofs.YtidfofhmnlhfjaaGreatDoor
open Go.X

def calqueref08_Parse_b1 (N : Nat) (s_0 : List UInt8) (n_36 : Int) (x_37 : List (Relation)) (x_38 : Parser) : Option ((Int × (List (Relation)) × Parser) ⊕ (((Parser × (List (Relation))) ⊕ ((List (List (Relation))) × Int × Int)))) :=
  bif (x_38.e == 0) then
    bif (n_36 == 6) then
      (calqueref08_parser_letter N x_38).bind fun r52 =>
      (show Option Parser from
        bif r52 then
          (calqueref08_parser_fail N 6 x_38).bind fun r62 =>
          some r62
        else
          some x_38).bind fun o54 =>
      (show Option (Parser × (List (Relation))) from
        (calqueref08_parser_relation N o54).bind fun r87 =>
        (app x_37 ([r87.1] : List (Relation))).bind fun l105 =>
        some (r87.2, l105)).bind fun o76 =>
      (calqueref08_parser_is N ([]) o76.1).bind fun r139 =>
      bif r139 then
        bif (o76.1.w.at_ == (s_0.length : Int)) then
          some (.inr (.inr (([o76.2] : List (List (Relation))), 0, 0)))
        else
          (calqueref08_parser_is N ([111, 114]) o76.1).bind fun r147 =>
          bif r147 then
            none
          else
            (calqueref08_parser_is N ([97, 110, 100]) o76.1).bind fun r151 =>
            bif (!r151) then
              (calqueref08_parser_fail N 3 o76.1).bind fun r154 =>
              (calqueref08_parser_step N r154).bind fun r162 =>
              some (.inl ((IntKind.wrap .i64 (n_36 + 1)), o76.2, r162))
            else
              (calqueref08_parser_step N o76.1).bind fun r170 =>
              some (.inl ((IntKind.wrap .i64 (n_36 + 1)), o76.2, r170))
      else
        (calqueref08_parser_is N ([111, 114]) o76.1).bind fun r178 =>
        bif r178 then
          none
        else
          (calqueref08_parser_is N ([97, 110, 100]) o76.1).bind fun r182 =>
          bif (!r182) then
            (calqueref08_parser_fail N 3 o76.1).bind fun r185 =>
            (calqueref08_parser_step N r185).bind fun r193 =>
            some (.inl ((IntKind.wrap .i64 (n_36 + 1)), o76.2, r193))
          else
            (calqueref08_parser_step N o76.1).bind fun r201 =>
            some (.inl ((IntKind.wrap .i64 (n_36 + 1)), o76.2, r201))
    else
      (show Option ((List (Relation)) × Parser) from
        (calqueref08_parser_relation N x_38).bind fun r220 =>
        (app x_37 ([r220.1] : List (Relation))).bind fun l238 =>
        some (l238, r220.2)).bind fun o209 =>
      (calqueref08_parser_is N ([]) o209.2).bind fun r272 =>
      bif r272 then
        bif (o209.2.w.at_ == (s_0.length : Int)) then
          some (.inr (.inr (([o209.1] : List (List (Relation))), 0, 0)))
        else
          (calqueref08_parser_is N ([111, 114]) o209.2).bind fun r280 =>
          bif r280 then
            none
          else
            (calqueref08_parser_is N ([97, 110, 100]) o209.2).bind fun r284 =>
            bif (!r284) then
              (calqueref08_parser_fail N 3 o209.2).bind fun r287 =>
              (calqueref08_parser_step N r287).bind fun r295 =>
              some (.inl ((IntKind.wrap .i64 (n_36 + 1)), o209.1, r295))
            else
              (calqueref08_parser_step N o209.2).bind fun r303 =>
              some (.inl ((IntKind.wrap .i64 (n_36 + 1)), o209.1, r303))
      else
        (calqueref08_parser_is N ([111, 114]) o209.2).bind fun r311 =>
        bif r311 then
          none
        else
          (calqueref08_parser_is N ([97, 110, 100]) o209.2).bind fun r315 =>
          bif (!r315) then
            (calqueref08_parser_fail N 3 o209.2).bind fun r318 =>
            (calqueref08_parser_step N r318).bind fun r326 =>
            some (.inl ((IntKind.wrap .i64 (n_36 + 1)), o209.1, r326))
          else
            (calqueref08_parser_step N o209.2).bind fun r334 =>
            some (.inl ((IntKind.wrap .i64 (n_36 + 1)), o209.1, r334))
  else
    some (.inr (.inl (x_38, x_37)))
def calqueref08_Parse (N : Nat) (s_0 : List UInt8) : Option ((List (List (Relation))) × Int × Int) :=
  (calqueref08_parser_step N (Parser.mk s_0 0 (Word.mk ([]) 0) 0 0)).bind fun r2 =>
  (iter (fun s => calqueref08_Parse_b1 N s_0 s.1 s.2.1 s.2.2) N (0, [], r2)).bind fun o24 =>
  Sum.elim (fun o24 =>
    some ([], o24.1.at_, o24.1.e))
  (fun o24 =>
    some o24) o24

def calquelaw10_cond (N : Nat) (s_0 : List UInt8) : Option (List (List (Relation))) :=
  (calqueref08_Parse N s_0).bind fun r1 =>
  some r1.1

def calquelaw10_awake (N : Nat) : Option Bool :=
  (calquelaw10_cond N ([110, 32, 37, 32, 49, 48, 32, 61, 32, 49])).bind fun r1 =>
  (calquelaw10_cond N ([110, 32, 37, 32, 49, 48, 48, 32, 61, 32, 49, 49])).bind fun r6 =>
  (decide_Disjoint N ([(Rule.mk ([111, 110, 101]) r1), (Rule.mk ([116, 119, 111]) r6)] : List (Rule))).bind fun r19 =>
  (calquelaw10_cond N ([105, 32, 61, 32, 49, 32, 97, 110, 100, 32, 118, 32, 61, 32, 48])).bind fun r25 =>
  (decide_Weight N r25).bind fun r30 =>
  bif (r19.2.2.2 == 19) then
    bif (r30.2 == 0) then
      bif (r19.1 == 0) then
        bif (r19.2.1 == 1) then
          bif (r19.2.2.1 == ([49, 49])) then
            some (r30.1 == 6)
          else
            some false
        else
          some false
      else
        some false
    else
      some false
  else
    some false

def calqueref08_Few_b2 (_N : Nat) (c_0 : List (List (Relation))) (i_7 : Int) (n_16 : Int) (k_17 : Int) : Option ((Int × Int) ⊕ Int) :=
  (idx c_0 i_7).bind fun x20 =>
  bif (decide (k_17 < (x20.length : Int))) then
    (idx c_0 i_7).bind fun x32 =>
    (idx x32 k_17).bind fun x43 =>
    some (.inl ((IntKind.wrap .i64 (n_16 + (IntKind.wrap .i64 ((1 : Int) + (x43.Spans.length : Int))))), (k_17 + 1)))
  else
    some (.inr n_16)

def calqueref08_Few_b1 (N : Nat) (c_0 : List (List (Relation))) (n_6 : Int) (i_7 : Int) : Option ((Int × Int) ⊕ ((Unit ⊕ Bool))) :=
  bif (decide (i_7 < (c_0.length : Int))) then
    (iter (fun s => calqueref08_Few_b2 N c_0 i_7 s.1 s.2) N (n_6, 0)).bind fun o13 =>
    bif (decide (o13 > 80)) then
      some (.inr (.inr false))
    else
      some (.inl (o13, (i_7 + 1)))
  else
    some (.inr (.inl ()))
def calqueref08_Few (N : Nat) (c_0 : List (List (Relation))) : Option Bool :=
  (iter (fun s => calqueref08_Few_b1 N c_0 s.1 s.2) N (0, 0)).bind fun o3 =>
  Sum.elim (fun _o3 =>
    some (decide ((c_0.length : Int) ≤ 30)))
  (fun o3 =>
    some o3) o3

def calquelaw10_few_b1 (N : Nat) (l_0 : List (List (List (Relation)))) (x_4 : Int) : Option (Int ⊕ ((Unit ⊕ Bool))) :=
  bif (decide (x_4 < (l_0.length : Int))) then
    (idx l_0 x_4).bind fun x7 =>
    (calqueref08_Few N x7).bind fun r18 =>
    bif (!r18) then
      some (.inr (.inr false))
    else
      some (.inl (x_4 + 1))
  else
    some (.inr (.inl ()))
def calquelaw10_few (N : Nat) (l_0 : List (List (List (Relation)))) : Option Bool :=
  (iter (fun s => calquelaw10_few_b1 N l_0 s) N 0).bind fun o2 =>
  Sum.elim (fun _o2 =>
    some (decide ((l_0.length : Int) ≤ 12)))
  (fun o2 =>
    some o2) o2

def calqueref07_digits_b1 (_N : Nat) (s_0 : List UInt8) (i_4 : Int) : Option (Int ⊕ ((Unit ⊕ Bool))) :=
  bif (decide (i_4 < (s_0.length : Int))) then
    (idx s_0 i_4).bind fun c7 =>
    bif (decide ((c7.toNat : Int) < 48)) then
      some (.inr (.inr false))
    else
      (idx s_0 i_4).bind fun c10 =>
      bif (decide ((c10.toNat : Int) > 57)) then
        some (.inr (.inr false))
      else
        some (.inl (i_4 + 1))
  else
    some (.inr (.inl ()))
def calqueref07_digits (N : Nat) (s_0 : List UInt8) : Option Bool :=
  (iter (fun s => calqueref07_digits_b1 N s_0 s) N 0).bind fun o2 =>
  Sum.elim (fun _o2 =>
    some true)
  (fun o2 =>
    some o2) o2

def calqueref07_Zero_b1 (_N : Nat) (s_0 : List UInt8) (i_4 : Int) : Option (Int ⊕ ((Unit ⊕ Bool))) :=
  bif (decide (i_4 < (s_0.length : Int))) then
    (idx s_0 i_4).bind fun c7 =>
    bif ((c7.toNat : Int) != 48) then
      some (.inr (.inr false))
    else
      some (.inl (i_4 + 1))
  else
    some (.inr (.inl ()))
def calqueref07_Zero (N : Nat) (s_0 : List UInt8) : Option Bool :=
  (iter (fun s => calqueref07_Zero_b1 N s_0 s) N 0).bind fun o2 =>
  Sum.elim (fun _o2 =>
    some true)
  (fun o2 =>
    some o2) o2

def calqueref07_Split_b1 (_N : Nat) (o6 : ((List UInt8) × Number)) (k_26 : Int) : Option (Int ⊕ Int) :=
  bif (decide (k_26 < (o6.1.length : Int))) then
    (idx o6.1 k_26).bind fun c29 =>
    bif ((c29.toNat : Int) != 46) then
      some (.inl (k_26 + 1))
    else
      some (.inr k_26)
  else
    some (.inr k_26)

def calqueref07_Split_b2 (_N : Nat) (s_0 : List UInt8) (k_75 : Int) : Option (Int ⊕ Int) :=
  bif (decide (k_75 < (s_0.length : Int))) then
    (idx s_0 k_75).bind fun c78 =>
    bif ((c78.toNat : Int) != 46) then
      some (.inl (k_75 + 1))
    else
      some (.inr k_75)
  else
    some (.inr k_75)
def calqueref07_Split (N : Nat) (s_0 : List UInt8) : Option (Number × Bool) :=
  bif (decide ((s_0.length : Int) > 0)) then
    (idx s_0 0).bind fun c4 =>
    (show Option ((List UInt8) × Number) from
      bif ((c4.toNat : Int) == 45) then
        (show Option ((List UInt8) × Number) from
          (slc s_0 1 (s_0.length : Int)).bind fun s15 =>
          some (s15, (Number.mk true ([]) ([])))).bind fun o11 =>
        some (o11.1, o11.2)
      else
        some (s_0, (Number.mk false ([]) ([])))).bind fun o6 =>
    (iter (fun s => calqueref07_Split_b1 N o6 s) N 0).bind fun o24 =>
    (slc o6.1 0 o24).bind fun s33 =>
    (show Option (Number ⊕ (Number × Bool)) from
      bif (decide (o24 < (o6.1.length : Int))) then
        (slc o6.1 (o24 + 1) (o6.1.length : Int)).bind fun s41 =>
        bif ((s41.length : Int) == 0) then
          some (.inr ((Number.mk false ([]) ([])), false))
        else
          some (.inl (Number.mk o6.2.Neg s33 s41))
      else
        some (.inl (Number.mk o6.2.Neg s33 o6.2.Frac))).bind fun o35 =>
    Sum.elim (fun o35 =>
      (cat o35.Whole o35.Frac).bind fun s46 =>
      (calqueref07_digits N s46).bind fun r48 =>
      bif (!r48) then
        some ((Number.mk false ([]) ([])), false)
      else
        bif (decide ((o35.Whole.length : Int) < 1)) then
          some ((Number.mk false ([]) ([])), false)
        else
          bif (decide ((o35.Whole.length : Int) > 15)) then
            some ((Number.mk false ([]) ([])), false)
          else
            bif (decide ((o35.Whole.length : Int) > 1)) then
              (idx o35.Whole 0).bind fun c54 =>
              bif ((c54.toNat : Int) == 48) then
                some ((Number.mk false ([]) ([])), false)
              else
                bif (decide ((o35.Frac.length : Int) > 6)) then
                  some ((Number.mk false ([]) ([])), false)
                else
                  bif o35.Neg then
                    (cat o35.Whole o35.Frac).bind fun s59 =>
                    (calqueref07_Zero N s59).bind fun r61 =>
                    bif r61 then
                      some ((Number.mk false ([]) ([])), false)
                    else
                      some (o35, true)
                  else
                    some (o35, true)
            else
              bif (decide ((o35.Frac.length : Int) > 6)) then
                some ((Number.mk false ([]) ([])), false)
              else
                bif o35.Neg then
                  (cat o35.Whole o35.Frac).bind fun s66 =>
                  (calqueref07_Zero N s66).bind fun r68 =>
                  bif r68 then
                    some ((Number.mk false ([]) ([])), false)
                  else
                    some (o35, true)
                else
                  some (o35, true))
    (fun o35 =>
      some o35) o35
  else
    (iter (fun s => calqueref07_Split_b2 N s_0 s) N 0).bind fun o73 =>
    (slc s_0 0 o73).bind fun s82 =>
    (show Option (Number ⊕ (Number × Bool)) from
      bif (decide (o73 < (s_0.length : Int))) then
        (slc s_0 (o73 + 1) (s_0.length : Int)).bind fun s90 =>
        bif ((s90.length : Int) == 0) then
          some (.inr ((Number.mk false ([]) ([])), false))
        else
          some (.inl (Number.mk false s82 s90))
      else
        some (.inl (Number.mk false s82 ([])))).bind fun o84 =>
    Sum.elim (fun o84 =>
      (cat o84.Whole o84.Frac).bind fun s95 =>
      (calqueref07_digits N s95).bind fun r97 =>
      bif (!r97) then
        some ((Number.mk false ([]) ([])), false)
      else
        bif (decide ((o84.Whole.length : Int) < 1)) then
          some ((Number.mk false ([]) ([])), false)
        else
          bif (decide ((o84.Whole.length : Int) > 15)) then
            some ((Number.mk false ([]) ([])), false)
          else
            bif (decide ((o84.Whole.length : Int) > 1)) then
              (idx o84.Whole 0).bind fun c103 =>
              bif ((c103.toNat : Int) == 48) then
                some ((Number.mk false ([]) ([])), false)
              else
                bif (decide ((o84.Frac.length : Int) > 6)) then
                  some ((Number.mk false ([]) ([])), false)
                else
                  bif o84.Neg then
                    (cat o84.Whole o84.Frac).bind fun s108 =>
                    (calqueref07_Zero N s108).bind fun r110 =>
                    bif r110 then
                      some ((Number.mk false ([]) ([])), false)
                    else
                      some (o84, true)
                  else
                    some (o84, true)
            else
              bif (decide ((o84.Frac.length : Int) > 6)) then
                some ((Number.mk false ([]) ([])), false)
              else
                bif o84.Neg then
                  (cat o84.Whole o84.Frac).bind fun s115 =>
                  (calqueref07_Zero N s115).bind fun r117 =>
                  bif r117 then
                    some ((Number.mk false ([]) ([])), false)
                  else
                    some (o84, true)
                else
                  some (o84, true))
    (fun o84 =>
      some o84) o84

def calqueref07_Valid (N : Nat) (s_0 : List UInt8) : Option Bool :=
  (calqueref07_Split N s_0).bind fun r1 =>
  some r1.2

def calqueref10_Unsigned (N : Nat) (s_0 : List UInt8) : Option Bool :=
  (calqueref07_Valid N s_0).bind fun r1 =>
  bif r1 then
    (idx s_0 0).bind fun c4 =>
    some ((c4.toNat : Int) != 45)
  else
    some false

end Go.Proofs.YtidfofhmnlhfjaaGreatDoor
