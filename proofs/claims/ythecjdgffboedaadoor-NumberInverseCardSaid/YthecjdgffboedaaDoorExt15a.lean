/- The functions of this part as plain Lean functions, printed by gen.py. -/
import Derived.Test.YthecjdgffboedaaDoorLibT
set_option linter.unusedVariables false
namespace Go.Proofs.YthecjdgffboedaaDoor
open Go.X

structure Number where
  negative : Bool
  whole : List UInt8
  fraction : List UInt8

structure Symbols where
  Decimal : List UInt8
  Group : List UInt8
  Minus : List UInt8
  Percent : List UInt8
  Primary : Int
  Secondary : Int

def decimal_digits (N : Nat) (s_0 : List UInt8) : Option Bool :=
  (strings_Trim N s_0 ([48, 49, 50, 51, 52, 53, 54, 55, 56, 57])).bind fun r1 =>
  some (r1 == ([]))

def decimal_zero (N : Nat) (s_0 : List UInt8) : Option Bool :=
  (strings_Trim N s_0 ([48])).bind fun r1 =>
  some (r1 == ([]))

def decimal_number_zero (N : Nat) (x_0 : Number) : Option Bool :=
  (decimal_zero N x_0.whole).bind fun r4 =>
  bif r4 then
    (decimal_zero N x_0.fraction).bind fun r7 =>
    some r7
  else
    some false

def decimal_split (N : Nat) (s_0 : List UInt8) : Option (Number × Bool) :=
  (strings_CutPrefix N s_0 ([45])).bind fun r2 =>
  (strings_Cut N r2.1 ([46])).bind fun r5 =>
  bif (decide ((r5.1.length : Int) < 1)) then
    some ((Number.mk r2.2 r5.1 r5.2.1), false)
  else
    bif (decide ((r5.1.length : Int) > 15)) then
      some ((Number.mk r2.2 r5.1 r5.2.1), false)
    else
      (decimal_digits N r5.1).bind fun r12 =>
      bif (!r12) then
        some ((Number.mk r2.2 r5.1 r5.2.1), false)
      else
        bif (decide ((r5.1.length : Int) > 1)) then
          (idx r5.1 0).bind fun c16 =>
          bif ((c16.toNat : Int) == 48) then
            some ((Number.mk r2.2 r5.1 r5.2.1), false)
          else
            bif r5.2.2 then
              bif ((r5.2.1.length : Int) == 0) then
                some ((Number.mk r2.2 r5.1 r5.2.1), false)
              else
                bif (decide ((r5.2.1.length : Int) > 6)) then
                  some ((Number.mk r2.2 r5.1 r5.2.1), false)
                else
                  (decimal_digits N r5.2.1).bind fun r22 =>
                  bif (!r22) then
                    some ((Number.mk r2.2 r5.1 r5.2.1), false)
                  else
                    (show Option (Bool × Number) from
                      bif (!r2.2) then
                        some (true, (Number.mk r2.2 r5.1 r5.2.1))
                      else
                        (decimal_number_zero N (Number.mk r2.2 r5.1 r5.2.1)).bind fun r29 =>
                        some ((!r29), (Number.mk r2.2 r5.1 r5.2.1))).bind fun o25 =>
                    some (o25.2, o25.1)
            else
              bif (decide ((r5.2.1.length : Int) > 6)) then
                some ((Number.mk r2.2 r5.1 r5.2.1), false)
              else
                (decimal_digits N r5.2.1).bind fun r34 =>
                bif (!r34) then
                  some ((Number.mk r2.2 r5.1 r5.2.1), false)
                else
                  (show Option (Bool × Number) from
                    bif (!r2.2) then
                      some (true, (Number.mk r2.2 r5.1 r5.2.1))
                    else
                      (decimal_number_zero N (Number.mk r2.2 r5.1 r5.2.1)).bind fun r41 =>
                      some ((!r41), (Number.mk r2.2 r5.1 r5.2.1))).bind fun o37 =>
                  some (o37.2, o37.1)
        else
          bif r5.2.2 then
            bif ((r5.2.1.length : Int) == 0) then
              some ((Number.mk r2.2 r5.1 r5.2.1), false)
            else
              bif (decide ((r5.2.1.length : Int) > 6)) then
                some ((Number.mk r2.2 r5.1 r5.2.1), false)
              else
                (decimal_digits N r5.2.1).bind fun r48 =>
                bif (!r48) then
                  some ((Number.mk r2.2 r5.1 r5.2.1), false)
                else
                  (show Option (Bool × Number) from
                    bif (!r2.2) then
                      some (true, (Number.mk r2.2 r5.1 r5.2.1))
                    else
                      (decimal_number_zero N (Number.mk r2.2 r5.1 r5.2.1)).bind fun r55 =>
                      some ((!r55), (Number.mk r2.2 r5.1 r5.2.1))).bind fun o51 =>
                  some (o51.2, o51.1)
          else
            bif (decide ((r5.2.1.length : Int) > 6)) then
              some ((Number.mk r2.2 r5.1 r5.2.1), false)
            else
              (decimal_digits N r5.2.1).bind fun r60 =>
              bif (!r60) then
                some ((Number.mk r2.2 r5.1 r5.2.1), false)
              else
                (show Option (Bool × Number) from
                  bif (!r2.2) then
                    some (true, (Number.mk r2.2 r5.1 r5.2.1))
                  else
                    (decimal_number_zero N (Number.mk r2.2 r5.1 r5.2.1)).bind fun r67 =>
                    some ((!r67), (Number.mk r2.2 r5.1 r5.2.1))).bind fun o63 =>
                some (o63.2, o63.1)

def decimal_Valid (N : Nat) (s_0 : List UInt8) : Option Bool :=
  (decimal_split N s_0).bind fun r1 =>
  some r1.2

def decimal_number_text (N : Nat) (x_0 : Number) : Option (List UInt8) :=
  (show Option ((List UInt8)) from
    bif (x_0.fraction != ([])) then
      (cat ([46]) x_0.fraction).bind fun s7 =>
      (cat x_0.whole s7).bind fun s9 =>
      some s9
    else
      some x_0.whole).bind fun o4 =>
  bif x_0.negative then
    (decimal_number_zero N x_0).bind fun r13 =>
    bif (!r13) then
      (cat ([45]) o4).bind fun s16 =>
      some s16
    else
      some o4
  else
    some o4

def decimal_number_permitted (N : Nat) (x_0 : Number) : Option ((List UInt8) × Int) :=
  bif (decide ((x_0.whole.length : Int) > 15)) then
    some ([], 2)
  else
    bif (decide ((x_0.fraction.length : Int) > 6)) then
      some ([], 2)
    else
      (decimal_number_text N x_0).bind fun r6 =>
      some (r6, 0)

def decimal_increased (_N : Nat) (s : List UInt8) : Option (List UInt8) := incs s

def decimal_Round (N : Nat) (s_0 : List UInt8) (n_1 : Int) : Option ((List UInt8) × Int) :=
  (decimal_split N s_0).bind fun r1 =>
  bif (!r1.2) then
    some ([], 1)
  else
    bif (decide (n_1 < 0)) then
      some ([], 2)
    else
      bif (decide (n_1 > 6)) then
        some ([], 2)
      else
        bif (decide (n_1 ≥ (r1.1.fraction.length : Int))) then
          (show Option Number from
            (strings_Repeat N ([48]) (IntKind.wrap .i64 (n_1 - (r1.1.fraction.length : Int)))).bind fun r16 =>
            (cat r1.1.fraction r16).bind fun s19 =>
            some (Number.mk r1.1.negative r1.1.whole s19)).bind fun o13 =>
          (decimal_number_permitted N o13).bind fun r24 =>
          some (r24.1, r24.2)
        else
          (slc r1.1.fraction 0 n_1).bind fun s28 =>
          (cat r1.1.whole s28).bind fun s30 =>
          (idx r1.1.fraction n_1).bind fun c32 =>
          (show Option ((List UInt8)) from
            bif (decide ((c32.toNat : Int) ≥ 53)) then
              (decimal_increased N s30).bind fun r37 =>
              some r37
            else
              some s30).bind fun o34 =>
          (show Option Number from
            (slc o34 0 (IntKind.wrap .i64 ((o34.length : Int) - n_1))).bind fun s44 =>
            (slc o34 (IntKind.wrap .i64 ((o34.length : Int) - n_1)) (o34.length : Int)).bind fun s46 =>
            some (Number.mk r1.1.negative s44 s46)).bind fun o41 =>
          (decimal_number_permitted N o41).bind fun r50 =>
          some (r50.1, r50.2)

def decimal_trimmed (N : Nat) (whole_0 : List UInt8) : Option (List UInt8) :=
  (strings_TrimLeft N whole_0 ([48])).bind fun r1 =>
  bif (r1 != ([])) then
    some r1
  else
    some ([48])

def decimal_Shift (N : Nat) (s_0 : List UInt8) (n_1 : Int) : Option ((List UInt8) × Int) :=
  (decimal_split N s_0).bind fun r1 =>
  bif (!r1.2) then
    some ([], 1)
  else
    (show Option Number from
      bif (decide ((max (min n_1 40) (-40)) ≥ 0)) then
        (strings_Repeat N ([48]) (max (min n_1 40) (-40))).bind fun r14 =>
        (cat r1.1.fraction r14).bind fun s17 =>
        (show Option Number from
          (slc s17 0 (max (min n_1 40) (-40))).bind fun s22 =>
          (cat r1.1.whole s22).bind fun s24 =>
          (decimal_trimmed N s24).bind fun r26 =>
          (slc r1.1.fraction (min (max (min n_1 40) (-40)) (r1.1.fraction.length : Int)) (r1.1.fraction.length : Int)).bind fun s29 =>
          some (Number.mk r1.1.negative r26 s29)).bind fun o19 =>
        some o19
      else
        (strings_Repeat N ([48]) (IntKind.wrap .i64 (-(max (min n_1 40) (-40))))).bind fun r35 =>
        (cat r35 r1.1.whole).bind fun s38 =>
        (show Option Number from
          (slc s38 0 (IntKind.wrap .i64 ((s38.length : Int) + (max (min n_1 40) (-40))))).bind fun s43 =>
          (decimal_trimmed N s43).bind fun r45 =>
          (slc s38 (IntKind.wrap .i64 ((s38.length : Int) + (max (min n_1 40) (-40)))) (s38.length : Int)).bind fun s48 =>
          (cat s48 r1.1.fraction).bind fun s50 =>
          some (Number.mk r1.1.negative r45 s50)).bind fun o40 =>
        some o40).bind fun o10 =>
    (decimal_number_permitted N o10).bind fun r57 =>
    some (r57.1, r57.2)

def number_Group_b1 (_N : Nat) (o10 : Int) (groups_30 : List (List UInt8)) (rest_31 : List UInt8) : Option (((List (List UInt8)) × (List UInt8)) ⊕ (((List (List UInt8))))) :=
  bif (rest_31 != ([])) then
    (slc rest_31 (max 0 (IntKind.wrap .i64 ((rest_31.length : Int) - o10))) (rest_31.length : Int)).bind fun s37 =>
    (app groups_30 ([s37] : List (List UInt8))).bind fun l42 =>
    (slc rest_31 0 (max 0 (IntKind.wrap .i64 ((rest_31.length : Int) - o10)))).bind fun s47 =>
    some (.inl (l42, s47))
  else
    some (.inr groups_30)
def number_Group (N : Nat) (x_0 : Symbols) (digits_1 : List UInt8) : Option (List UInt8) :=
  bif (decide (x_0.Primary < 1)) then
    some digits_1
  else
    bif (decide ((digits_1.length : Int) ≤ x_0.Primary)) then
      some digits_1
    else
      (show Option Int from
        bif (decide (x_0.Secondary < 1)) then
          some x_0.Primary
        else
          some x_0.Secondary).bind fun o10 =>
      (slc digits_1 (IntKind.wrap .i64 ((digits_1.length : Int) - x_0.Primary)) (digits_1.length : Int)).bind fun s14 =>
      (slc digits_1 0 (IntKind.wrap .i64 ((digits_1.length : Int) - x_0.Primary))).bind fun s19 =>
      (iter (fun s => number_Group_b1 N o10 s.1 s.2) N (([s14] : List (List UInt8)), s19)).bind fun o25 =>
      (strings_Join N o25.reverse x_0.Group).bind fun r59 =>
      some r59

end Go.Proofs.YthecjdgffboedaaDoor
