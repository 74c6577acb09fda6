/- The functions of this part as plain Lean functions, printed by gen8.py. -/
import Derived.Test.YtmghnmfefpeelaaDoorExt34a1
import Derived.Test.YtmghnmfefpeelaaDoorExt34a2
import Derived.Test.YtmghnmfefpeelaaDoorExt34m
import Derived.Test.YtmghnmfefpeelaaDoorLibLM
set_option linter.unusedVariables false
namespace Go.Proofs.YtmghnmfefpeelaaDoor
open Go.X

structure Number2 where
  Neg : Bool
  Whole : List UInt8
  Frac : List UInt8

def calqueref26_Skeleton_b1 (_N : Nat) (s_0 : List UInt8) (i_4 : Int) : Option (Int ⊕ ((Unit ⊕ Bool))) :=
  bif (decide (i_4 < (s_0.length : Int))) then
    (idx s_0 i_4).bind fun c7 =>
    bif (decide ((c7.toNat : Int) ≥ 97)) then
      bif (decide ((c7.toNat : Int) ≤ 122)) then
        bif (!true) then
          some (.inr (.inr false))
        else
          some (.inl (i_4 + 1))
      else
        bif (decide ((c7.toNat : Int) ≥ 65)) then
          bif (!(decide ((c7.toNat : Int) ≤ 90))) then
            some (.inr (.inr false))
          else
            some (.inl (i_4 + 1))
        else
          bif (!false) then
            some (.inr (.inr false))
          else
            some (.inl (i_4 + 1))
    else
      bif (decide ((c7.toNat : Int) ≥ 65)) then
        bif (!(decide ((c7.toNat : Int) ≤ 90))) then
          some (.inr (.inr false))
        else
          some (.inl (i_4 + 1))
      else
        bif (!false) then
          some (.inr (.inr false))
        else
          some (.inl (i_4 + 1))
  else
    some (.inr (.inl ()))
def calqueref26_Skeleton (N : Nat) (s_0 : List UInt8) : Option Bool :=
  (iter (fun s => calqueref26_Skeleton_b1 N s_0 s) N 0).bind fun o2 =>
  Sum.elim (fun _o2 =>
    bif (decide ((s_0.length : Int) ≥ 1)) then
      some (decide ((s_0.length : Int) ≤ 40))
    else
      some false)
  (fun o2 =>
    some o2) o2

def calqueref26_Selection (_N : Nat) (kind_0 : Int) : Option Bool :=
  bif (kind_0 == 7) then
    some true
  else
    bif (kind_0 == 8) then
      some true
    else
      some (kind_0 == 9)

def calqueref26_Class (_N : Nat) (s_0 : List UInt8) : Option Bool :=
  bif (s_0 == ([122, 101, 114, 111])) then
    some true
  else
    bif (s_0 == ([111, 110, 101])) then
      some true
    else
      bif (s_0 == ([116, 119, 111])) then
        some true
      else
        bif (s_0 == ([102, 101, 119])) then
          some true
        else
          bif (s_0 == ([109, 97, 110, 121])) then
            some true
          else
            some (s_0 == ([111, 116, 104, 101, 114]))

def calqueref07_digits_b1 (_N : Nat) (s_0 : List UInt8) (i_4 : Int) : Option (Int ⊕ ((Unit ⊕ Bool))) :=
  bif (decide (i_4 < (s_0.length : Int))) then
    (idx s_0 i_4).bind fun c7 =>
    bif (decide ((c7.toNat : Int) < 48)) then
      some (.inr (.inr false))
    else
      (idx s_0 i_4).bind fun c10 =>
      bif (decide ((c10.toNat : Int) > 57)) then
        some (.inr (.inr false))
      else
        some (.inl (i_4 + 1))
  else
    some (.inr (.inl ()))
def calqueref07_digits (N : Nat) (s_0 : List UInt8) : Option Bool :=
  (iter (fun s => calqueref07_digits_b1 N s_0 s) N 0).bind fun o2 =>
  Sum.elim (fun _o2 =>
    some true)
  (fun o2 =>
    some o2) o2

def calqueref07_Zero_b1 (_N : Nat) (s_0 : List UInt8) (i_4 : Int) : Option (Int ⊕ ((Unit ⊕ Bool))) :=
  bif (decide (i_4 < (s_0.length : Int))) then
    (idx s_0 i_4).bind fun c7 =>
    bif ((c7.toNat : Int) != 48) then
      some (.inr (.inr false))
    else
      some (.inl (i_4 + 1))
  else
    some (.inr (.inl ()))
def calqueref07_Zero (N : Nat) (s_0 : List UInt8) : Option Bool :=
  (iter (fun s => calqueref07_Zero_b1 N s_0 s) N 0).bind fun o2 =>
  Sum.elim (fun _o2 =>
    some true)
  (fun o2 =>
    some o2) o2

def calqueref07_Split_b1 (_N : Nat) (o6 : ((List UInt8) × Number2)) (k_26 : Int) : Option (Int ⊕ Int) :=
  bif (decide (k_26 < (o6.1.length : Int))) then
    (idx o6.1 k_26).bind fun c29 =>
    bif ((c29.toNat : Int) != 46) then
      some (.inl (k_26 + 1))
    else
      some (.inr k_26)
  else
    some (.inr k_26)

def calqueref07_Split_b2 (_N : Nat) (s_0 : List UInt8) (k_75 : Int) : Option (Int ⊕ Int) :=
  bif (decide (k_75 < (s_0.length : Int))) then
    (idx s_0 k_75).bind fun c78 =>
    bif ((c78.toNat : Int) != 46) then
      some (.inl (k_75 + 1))
    else
      some (.inr k_75)
  else
    some (.inr k_75)
def calqueref07_Split (N : Nat) (s_0 : List UInt8) : Option (Number2 × Bool) :=
  bif (decide ((s_0.length : Int) > 0)) then
    (idx s_0 0).bind fun c4 =>
    (show Option ((List UInt8) × Number2) from
      bif ((c4.toNat : Int) == 45) then
        (show Option ((List UInt8) × Number2) from
          (slc s_0 1 (s_0.length : Int)).bind fun s15 =>
          some (s15, (Number2.mk true ([]) ([])))).bind fun o11 =>
        some (o11.1, o11.2)
      else
        some (s_0, (Number2.mk false ([]) ([])))).bind fun o6 =>
    (iter (fun s => calqueref07_Split_b1 N o6 s) N 0).bind fun o24 =>
    (slc o6.1 0 o24).bind fun s33 =>
    (show Option (Number2 ⊕ (Number2 × Bool)) from
      bif (decide (o24 < (o6.1.length : Int))) then
        (slc o6.1 (o24 + 1) (o6.1.length : Int)).bind fun s41 =>
        bif ((s41.length : Int) == 0) then
          some (.inr ((Number2.mk false ([]) ([])), false))
        else
          some (.inl (Number2.mk o6.2.Neg s33 s41))
      else
        some (.inl (Number2.mk o6.2.Neg s33 o6.2.Frac))).bind fun o35 =>
    Sum.elim (fun o35 =>
      (cat o35.Whole o35.Frac).bind fun s46 =>
      (calqueref07_digits N s46).bind fun r48 =>
      bif (!r48) then
        some ((Number2.mk false ([]) ([])), false)
      else
        bif (decide ((o35.Whole.length : Int) < 1)) then
          some ((Number2.mk false ([]) ([])), false)
        else
          bif (decide ((o35.Whole.length : Int) > 15)) then
            some ((Number2.mk false ([]) ([])), false)
          else
            bif (decide ((o35.Whole.length : Int) > 1)) then
              (idx o35.Whole 0).bind fun c54 =>
              bif ((c54.toNat : Int) == 48) then
                some ((Number2.mk false ([]) ([])), false)
              else
                bif (decide ((o35.Frac.length : Int) > 6)) then
                  some ((Number2.mk false ([]) ([])), false)
                else
                  bif o35.Neg then
                    (cat o35.Whole o35.Frac).bind fun s59 =>
                    (calqueref07_Zero N s59).bind fun r61 =>
                    bif r61 then
                      some ((Number2.mk false ([]) ([])), false)
                    else
                      some (o35, true)
                  else
                    some (o35, true)
            else
              bif (decide ((o35.Frac.length : Int) > 6)) then
                some ((Number2.mk false ([]) ([])), false)
              else
                bif o35.Neg then
                  (cat o35.Whole o35.Frac).bind fun s66 =>
                  (calqueref07_Zero N s66).bind fun r68 =>
                  bif r68 then
                    some ((Number2.mk false ([]) ([])), false)
                  else
                    some (o35, true)
                else
                  some (o35, true))
    (fun o35 =>
      some o35) o35
  else
    (iter (fun s => calqueref07_Split_b2 N s_0 s) N 0).bind fun o73 =>
    (slc s_0 0 o73).bind fun s82 =>
    (show Option (Number2 ⊕ (Number2 × Bool)) from
      bif (decide (o73 < (s_0.length : Int))) then
        (slc s_0 (o73 + 1) (s_0.length : Int)).bind fun s90 =>
        bif ((s90.length : Int) == 0) then
          some (.inr ((Number2.mk false ([]) ([])), false))
        else
          some (.inl (Number2.mk false s82 s90))
      else
        some (.inl (Number2.mk false s82 ([])))).bind fun o84 =>
    Sum.elim (fun o84 =>
      (cat o84.Whole o84.Frac).bind fun s95 =>
      (calqueref07_digits N s95).bind fun r97 =>
      bif (!r97) then
        some ((Number2.mk false ([]) ([])), false)
      else
        bif (decide ((o84.Whole.length : Int) < 1)) then
          some ((Number2.mk false ([]) ([])), false)
        else
          bif (decide ((o84.Whole.length : Int) > 15)) then
            some ((Number2.mk false ([]) ([])), false)
          else
            bif (decide ((o84.Whole.length : Int) > 1)) then
              (idx o84.Whole 0).bind fun c103 =>
              bif ((c103.toNat : Int) == 48) then
                some ((Number2.mk false ([]) ([])), false)
              else
                bif (decide ((o84.Frac.length : Int) > 6)) then
                  some ((Number2.mk false ([]) ([])), false)
                else
                  bif o84.Neg then
                    (cat o84.Whole o84.Frac).bind fun s108 =>
                    (calqueref07_Zero N s108).bind fun r110 =>
                    bif r110 then
                      some ((Number2.mk false ([]) ([])), false)
                    else
                      some (o84, true)
                  else
                    some (o84, true)
            else
              bif (decide ((o84.Frac.length : Int) > 6)) then
                some ((Number2.mk false ([]) ([])), false)
              else
                bif o84.Neg then
                  (cat o84.Whole o84.Frac).bind fun s115 =>
                  (calqueref07_Zero N s115).bind fun r117 =>
                  bif r117 then
                    some ((Number2.mk false ([]) ([])), false)
                  else
                    some (o84, true)
                else
                  some (o84, true))
    (fun o84 =>
      some o84) o84

def calqueref07_Valid (N : Nat) (s_0 : List UInt8) : Option Bool :=
  (calqueref07_Split N s_0).bind fun r1 =>
  some r1.2

def calqueref26_Key (N : Nat) (kind_0 : Int) (s_1 : List UInt8) : Option Bool :=
  bif (kind_0 == 9) then
    (calqueref25_Name N s_1).bind fun r2 =>
    some r2
  else
    (calqueref26_Class N s_1).bind fun r4 =>
    bif r4 then
      some true
    else
      bif (decide ((s_1.length : Int) > 1)) then
        (idx s_1 0).bind fun c8 =>
        bif ((c8.toNat : Int) == 61) then
          (slc s_1 1 (s_1.length : Int)).bind fun s11 =>
          (calqueref07_Valid N s11).bind fun r13 =>
          some r13
        else
          some false
      else
        some false

def calqueref34_cases_b1 (N : Nat) (c_0 : Code) (i_1 : Int) (keys_18 : List (List UInt8)) (k_19 : Int) : Option (((List (List UInt8)) × Int) ⊕ ((((List (List UInt8))) ⊕ Bool))) :=
  bif (decide (k_19 < (c_0.Ins.length : Int))) then
    (idx c_0.Ins k_19).bind fun x25 =>
    bif (x25.Op == 11) then
      (idx c_0.Ins k_19).bind fun x39 =>
      (idx c_0.Ins i_1).bind fun x52 =>
      (calqueref26_Key N x52.B x39.S).bind fun r65 =>
      bif (!r65) then
        some (.inr (.inr false))
      else
        (calqueref26_In N keys_18 x39.S).bind fun r73 =>
        bif r73 then
          some (.inr (.inr false))
        else
          (app keys_18 ([x39.S] : List (List UInt8))).bind fun l79 =>
          some (.inl (l79, (k_19 + 1)))
    else
      some (.inr (.inl keys_18))
  else
    some (.inr (.inl keys_18))
def calqueref34_cases (N : Nat) (c_0 : Code) (i_1 : Int) : Option Bool :=
  (iter (fun s => calqueref34_cases_b1 N c_0 i_1 s.1 s.2) N ([], (IntKind.wrap .i64 (i_1 + 1)))).bind fun o13 =>
  Sum.elim (fun o13 =>
    bif (decide ((o13.length : Int) ≤ 20)) then
      (calqueref26_In N o13 ([111, 116, 104, 101, 114])).bind fun r93 =>
      some r93
    else
      some false)
  (fun o13 =>
    some o13) o13

end Go.Proofs.YtmghnmfefpeelaaDoor
