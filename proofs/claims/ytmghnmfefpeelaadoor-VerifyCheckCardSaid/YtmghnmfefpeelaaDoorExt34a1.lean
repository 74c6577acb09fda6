/- The functions of this part as plain Lean functions, printed by gen8.py. -/
import Derived.Test.YtmghnmfefpeelaaDoorLibLM
set_option linter.unusedVariables false
namespace Go.Proofs.YtmghnmfefpeelaaDoor
open Go.X

structure Ins where
  Op : Int
  A : Int
  B : Int
  S : List UInt8

structure Code where
  Names : List (List UInt8)
  Ins : List (Ins)

structure Uses where
  a : Bool
  b : Bool
  s : Bool

structure Arr14_Uses where
  e0 : Uses
  e1 : Uses
  e2 : Uses
  e3 : Uses
  e4 : Uses
  e5 : Uses
  e6 : Uses
  e7 : Uses
  e8 : Uses
  e9 : Uses
  e10 : Uses
  e11 : Uses
  e12 : Uses
  e13 : Uses

def Arr14_Uses.list (a : Arr14_Uses) : List (Uses) := [a.e0, a.e1, a.e2, a.e3, a.e4, a.e5, a.e6, a.e7, a.e8, a.e9, a.e10, a.e11, a.e12, a.e13]
def Arr14_Uses.get (a : Arr14_Uses) (i : Int) : Option (Uses) := idx a.list i

structure Number where
  negative : Bool
  whole : List UInt8
  fraction : List UInt8

structure Flow where
  c : Code
  open_ : List (List (List UInt8))
  reached : List (Bool)
  clash : List (Bool)

structure Frame where
  name : List UInt8
  up : List (List UInt8)

def verify_fields (_N : Nat) (op_0 : Int) : Option (Uses × Bool) :=
  bif (decide (op_0 < 1)) then
    some ((Uses.mk false false false), false)
  else
    bif (decide (op_0 > 13)) then
      some ((Uses.mk false false false), false)
    else
      (Arr14_Uses.get (Arr14_Uses.mk (Uses.mk false false false) (Uses.mk false false true) (Uses.mk false false true) (Uses.mk false false true) (Uses.mk false false true) (Uses.mk true false false) (Uses.mk true false true) (Uses.mk true false true) (Uses.mk true false true) (Uses.mk true false true) (Uses.mk true true false) (Uses.mk true false true) (Uses.mk true false false) (Uses.mk false false false)) op_0).bind fun x5 =>
      some (x5, true)

def token_letter (_N : Nat) (c_0 : Int) : Option Bool :=
  bif (decide (c_0 ≥ 97)) then
    bif (decide (c_0 ≤ 122)) then
      some true
    else
      bif (decide (c_0 ≥ 65)) then
        bif (decide (c_0 ≤ 90)) then
          some true
        else
          bif (decide (c_0 ≥ 48)) then
            some (decide (c_0 ≤ 57))
          else
            some false
      else
        bif (decide (c_0 ≥ 48)) then
          some (decide (c_0 ≤ 57))
        else
          some false
  else
    bif (decide (c_0 ≥ 65)) then
      bif (decide (c_0 ≤ 90)) then
        some true
      else
        bif (decide (c_0 ≥ 48)) then
          some (decide (c_0 ≤ 57))
        else
          some false
    else
      bif (decide (c_0 ≥ 48)) then
        some (decide (c_0 ≤ 57))
      else
        some false

def token_Name_b1 (N : Nat) (s_0 : List UInt8) (x_12 : Int) : Option (Int ⊕ ((Unit ⊕ Bool))) :=
  bif (decide (x_12 < (s_0.length : Int))) then
    (idx s_0 x_12).bind fun c15 =>
    (token_letter N (c15.toNat : Int)).bind fun r17 =>
    bif (!r17) then
      (idx s_0 x_12).bind fun c20 =>
      bif ((c20.toNat : Int) != 95) then
        (idx s_0 x_12).bind fun c23 =>
        bif ((c23.toNat : Int) != 45) then
          some (.inr (.inr false))
        else
          some (.inl (x_12 + 1))
      else
        some (.inl (x_12 + 1))
    else
      some (.inl (x_12 + 1))
  else
    some (.inr (.inl ()))
def token_Name (N : Nat) (s_0 : List UInt8) : Option Bool :=
  bif (s_0 == ([])) then
    some false
  else
    bif (decide ((s_0.length : Int) > 40)) then
      some false
    else
      (idx s_0 0).bind fun c3 =>
      bif (decide ((c3.toNat : Int) < 97)) then
        some false
      else
        (idx s_0 0).bind fun c6 =>
        bif (decide ((c6.toNat : Int) > 122)) then
          some false
        else
          (iter (fun s => token_Name_b1 N s_0 s) N 0).bind fun o10 =>
          Sum.elim (fun _o10 =>
            some true)
          (fun o10 =>
            some o10) o10

def verify_skeleton_b1 (_N : Nat) (s_0 : List UInt8) (x_4 : Int) : Option (Int ⊕ ((Unit ⊕ Bool))) :=
  bif (decide (x_4 < (s_0.length : Int))) then
    (idx s_0 x_4).bind fun c7 =>
    bif (decide ((ibits .or .u8 (c7.toNat : Int) 32) < 97)) then
      some (.inr (.inr false))
    else
      bif (decide ((ibits .or .u8 (c7.toNat : Int) 32) > 122)) then
        some (.inr (.inr false))
      else
        some (.inl (x_4 + 1))
  else
    some (.inr (.inl ()))
def verify_skeleton (N : Nat) (s_0 : List UInt8) : Option Bool :=
  (iter (fun s => verify_skeleton_b1 N s_0 s) N 0).bind fun o2 =>
  Sum.elim (fun _o2 =>
    bif (s_0 != ([])) then
      some (decide ((s_0.length : Int) ≤ 40))
    else
      some false)
  (fun o2 =>
    some o2) o2

def verify_cases_b1 (_N : Nat) (c_0 : Code) (k_9 : Int) : Option (Int ⊕ Int) :=
  bif (decide (k_9 < (c_0.Ins.length : Int))) then
    (idx c_0.Ins k_9).bind fun x12 =>
    bif (x12.Op == 11) then
      some (.inl (k_9 + 1))
    else
      some (.inr k_9)
  else
    some (.inr k_9)
def verify_cases (N : Nat) (c_0 : Code) (i_1 : Int) : Option (List (Ins)) :=
  (iter (fun s => verify_cases_b1 N c_0 s) N (IntKind.wrap .i64 (i_1 + 1))).bind fun o7 =>
  (slc c_0.Ins (IntKind.wrap .i64 (i_1 + 1)) o7).bind fun l27 =>
  some l27

def slices_Index_string_string_b1 (_N : Nat) (s_0 : List (List UInt8)) (v_1 : List UInt8) (x_4 : Int) : Option (Int ⊕ ((Unit ⊕ Int))) :=
  bif (decide (x_4 < (s_0.length : Int))) then
    (idx s_0 x_4).bind fun x7 =>
    bif (v_1 == x7) then
      some (.inr (.inr x_4))
    else
      some (.inl (x_4 + 1))
  else
    some (.inr (.inl ()))
def slices_Index_string_string (N : Nat) (s_0 : List (List UInt8)) (v_1 : List UInt8) : Option Int :=
  (iter (fun s => slices_Index_string_string_b1 N s_0 v_1 s) N 0).bind fun o2 =>
  Sum.elim (fun _o2 =>
    some (-1))
  (fun o2 =>
    some o2) o2

def slices_Contains_string_string (N : Nat) (s_0 : List (List UInt8)) (v_1 : List UInt8) : Option Bool :=
  (slices_Index_string_string N s_0 v_1).bind fun r1 =>
  some (decide (r1 ≥ 0))

def verify_class (N : Nat) (s_0 : List UInt8) : Option Bool :=
  (slices_Contains_string_string N ([[122, 101, 114, 111], [111, 110, 101], [116, 119, 111], [102, 101, 119], [109, 97, 110, 121], [111, 116, 104, 101, 114]] : List (List UInt8)) s_0).bind fun r9 =>
  some r9

def decimal_digits (N : Nat) (s_0 : List UInt8) : Option Bool :=
  (strings_Trim N s_0 ([48, 49, 50, 51, 52, 53, 54, 55, 56, 57])).bind fun r1 =>
  some (r1 == ([]))

def decimal_zero (N : Nat) (s_0 : List UInt8) : Option Bool :=
  (strings_Trim N s_0 ([48])).bind fun r1 =>
  some (r1 == ([]))

def decimal_number_zero (N : Nat) (x_0 : Number) : Option Bool :=
  (decimal_zero N x_0.whole).bind fun r4 =>
  bif r4 then
    (decimal_zero N x_0.fraction).bind fun r7 =>
    some r7
  else
    some false

def decimal_split (N : Nat) (s_0 : List UInt8) : Option (Number × Bool) :=
  (strings_CutPrefix N s_0 ([45])).bind fun r2 =>
  (strings_Cut N r2.1 ([46])).bind fun r5 =>
  bif (decide ((r5.1.length : Int) < 1)) then
    some ((Number.mk r2.2 r5.1 r5.2.1), false)
  else
    bif (decide ((r5.1.length : Int) > 15)) then
      some ((Number.mk r2.2 r5.1 r5.2.1), false)
    else
      (decimal_digits N r5.1).bind fun r12 =>
      bif (!r12) then
        some ((Number.mk r2.2 r5.1 r5.2.1), false)
      else
        bif (decide ((r5.1.length : Int) > 1)) then
          (idx r5.1 0).bind fun c16 =>
          bif ((c16.toNat : Int) == 48) then
            some ((Number.mk r2.2 r5.1 r5.2.1), false)
          else
            bif r5.2.2 then
              bif ((r5.2.1.length : Int) == 0) then
                some ((Number.mk r2.2 r5.1 r5.2.1), false)
              else
                bif (decide ((r5.2.1.length : Int) > 6)) then
                  some ((Number.mk r2.2 r5.1 r5.2.1), false)
                else
                  (decimal_digits N r5.2.1).bind fun r22 =>
                  bif (!r22) then
                    some ((Number.mk r2.2 r5.1 r5.2.1), false)
                  else
                    (show Option (Bool × Number) from
                      bif (!r2.2) then
                        some (true, (Number.mk r2.2 r5.1 r5.2.1))
                      else
                        (decimal_number_zero N (Number.mk r2.2 r5.1 r5.2.1)).bind fun r29 =>
                        some ((!r29), (Number.mk r2.2 r5.1 r5.2.1))).bind fun o25 =>
                    some (o25.2, o25.1)
            else
              bif (decide ((r5.2.1.length : Int) > 6)) then
                some ((Number.mk r2.2 r5.1 r5.2.1), false)
              else
                (decimal_digits N r5.2.1).bind fun r34 =>
                bif (!r34) then
                  some ((Number.mk r2.2 r5.1 r5.2.1), false)
                else
                  (show Option (Bool × Number) from
                    bif (!r2.2) then
                      some (true, (Number.mk r2.2 r5.1 r5.2.1))
                    else
                      (decimal_number_zero N (Number.mk r2.2 r5.1 r5.2.1)).bind fun r41 =>
                      some ((!r41), (Number.mk r2.2 r5.1 r5.2.1))).bind fun o37 =>
                  some (o37.2, o37.1)
        else
          bif r5.2.2 then
            bif ((r5.2.1.length : Int) == 0) then
              some ((Number.mk r2.2 r5.1 r5.2.1), false)
            else
              bif (decide ((r5.2.1.length : Int) > 6)) then
                some ((Number.mk r2.2 r5.1 r5.2.1), false)
              else
                (decimal_digits N r5.2.1).bind fun r48 =>
                bif (!r48) then
                  some ((Number.mk r2.2 r5.1 r5.2.1), false)
                else
                  (show Option (Bool × Number) from
                    bif (!r2.2) then
                      some (true, (Number.mk r2.2 r5.1 r5.2.1))
                    else
                      (decimal_number_zero N (Number.mk r2.2 r5.1 r5.2.1)).bind fun r55 =>
                      some ((!r55), (Number.mk r2.2 r5.1 r5.2.1))).bind fun o51 =>
                  some (o51.2, o51.1)
          else
            bif (decide ((r5.2.1.length : Int) > 6)) then
              some ((Number.mk r2.2 r5.1 r5.2.1), false)
            else
              (decimal_digits N r5.2.1).bind fun r60 =>
              bif (!r60) then
                some ((Number.mk r2.2 r5.1 r5.2.1), false)
              else
                (show Option (Bool × Number) from
                  bif (!r2.2) then
                    some (true, (Number.mk r2.2 r5.1 r5.2.1))
                  else
                    (decimal_number_zero N (Number.mk r2.2 r5.1 r5.2.1)).bind fun r67 =>
                    some ((!r67), (Number.mk r2.2 r5.1 r5.2.1))).bind fun o63 =>
                some (o63.2, o63.1)

def decimal_Valid (N : Nat) (s_0 : List UInt8) : Option Bool :=
  (decimal_split N s_0).bind fun r1 =>
  some r1.2

def verify_key (N : Nat) (kind_0 : Int) (s_1 : List UInt8) : Option Bool :=
  bif (kind_0 == 9) then
    (token_Name N s_1).bind fun r2 =>
    some r2
  else
    (strings_CutPrefix N s_1 ([61])).bind fun r4 =>
    (verify_class N s_1).bind fun r7 =>
    bif r7 then
      some true
    else
      bif r4.2 then
        (decimal_Valid N r4.1).bind fun r11 =>
        some r11
      else
        some false

def syntax_Selection (_N : Nat) (kind_0 : Int) : Option Bool :=
  bif (decide (kind_0 ≥ 7)) then
    some (decide (kind_0 ≤ 9))
  else
    some false

def verify_alternatives_b1 (N : Nat) (c_0 : Code) (i_1 : Int) (r6 : (List (Ins))) (x_24 : Int) (seen_25 : List (List UInt8 × Bool)) : Option ((Int × (List (List UInt8 × Bool))) ⊕ ((((List (List UInt8 × Bool))) ⊕ Bool))) :=
  bif (decide (x_24 < (r6.length : Int))) then
    (idx r6 x_24).bind fun x31 =>
    (idx c_0.Ins i_1).bind fun x45 =>
    (verify_key N x45.B x31.S).bind fun r58 =>
    bif (!r58) then
      some (.inr (.inr false))
    else
      bif ((mget seen_25 x31.S).getD false) then
        some (.inr (.inr false))
      else
        (mset seen_25 x31.S true).bind fun l66 =>
        some (.inl ((x_24 + 1), l66))
  else
    some (.inr (.inl seen_25))
def verify_alternatives (N : Nat) (c_0 : Code) (i_1 : Int) : Option Bool :=
  (verify_cases N c_0 i_1).bind fun r6 =>
  (iter (fun s => verify_alternatives_b1 N c_0 i_1 r6 s.1 s.2) N (0, ([] : List (List UInt8 × Bool)))).bind fun o19 =>
  Sum.elim (fun o19 =>
    (idx c_0.Ins i_1).bind fun x73 =>
    (syntax_Selection N x73.B).bind fun r86 =>
    bif r86 then
      bif (decide ((r6.length : Int) ≥ 1)) then
        bif (decide ((r6.length : Int) ≤ 20)) then
          some ((mget o19 ([111, 116, 104, 101, 114])).getD false)
        else
          some false
      else
        some false
    else
      some false)
  (fun o19 =>
    some o19) o19

def verify_target (_N : Nat) (c_0 : Code) (i_1 : Int) (to_2 : Int) : Option Bool :=
  bif (decide (to_2 > i_1)) then
    bif (decide (to_2 < (c_0.Ins.length : Int))) then
      (idx c_0.Ins to_2).bind fun x8 =>
      some (x8.Op != 11)
    else
      some false
  else
    some false

def verify_Proper (N : Nat) (c_0 : Code) (i_1 : Int) : Option Bool :=
  bif (decide (i_1 < 0)) then
    some false
  else
    bif (decide (i_1 ≥ (c_0.Ins.length : Int))) then
      some false
    else
      (idx c_0.Ins i_1).bind fun x8 =>
      (verify_fields N x8.Op).bind fun r22 =>
      (show Option Bool from
        bif (!r22.2) then
          some true
        else
          bif (!r22.1.a) then
            bif (x8.A != 0) then
              some true
            else
              bif (!r22.1.b) then
                bif (x8.B != 0) then
                  some true
                else
                  bif (!r22.1.s) then
                    some (x8.S != ([]))
                  else
                    some false
              else
                bif (!r22.1.s) then
                  some (x8.S != ([]))
                else
                  some false
          else
            bif (!r22.1.b) then
              bif (x8.B != 0) then
                some true
              else
                bif (!r22.1.s) then
                  some (x8.S != ([]))
                else
                  some false
            else
              bif (!r22.1.s) then
                some (x8.S != ([]))
              else
                some false).bind fun o28 =>
      bif o28 then
        some false
      else
        (show Option Bool from
          bif (decide (x8.Op ≥ 5)) then
            bif (decide (x8.Op ≤ 10)) then
              bif (decide (x8.A < 0)) then
                some true
              else
                some (decide (x8.A ≥ (c_0.Names.length : Int)))
            else
              some false
          else
            some false).bind fun o41 =>
        bif o41 then
          some false
        else
          bif (x8.Op == 1) then
            some (x8.S != ([]))
          else
            (show Option Bool from
              bif (x8.Op == 2) then
                some (x8.Op == 2)
              else
                bif (x8.Op == 3) then
                  some (x8.Op == 3)
                else
                  bif (x8.Op == 4) then
                    some (x8.Op == 4)
                  else
                    bif (x8.Op == 7) then
                      some (x8.Op == 7)
                    else
                      some (x8.Op == 9)).bind fun o47 =>
            bif o47 then
              (token_Name N x8.S).bind fun r53 =>
              some r53
            else
              bif (x8.Op == 6) then
                bif (x8.S == ([])) then
                  some true
                else
                  bif (x8.S == ([105, 110, 116, 101, 103, 101, 114])) then
                    some true
                  else
                    some (x8.S == ([112, 101, 114, 99, 101, 110, 116]))
              else
                bif (x8.Op == 8) then
                  (verify_skeleton N x8.S).bind fun r59 =>
                  some r59
                else
                  bif (x8.Op == 10) then
                    (verify_alternatives N c_0 i_1).bind fun r62 =>
                    some r62
                  else
                    bif (x8.Op == 11) then
                      bif (decide (i_1 > 0)) then
                        (idx c_0.Ins (i_1 - 1)).bind fun x66 =>
                        bif (x66.Op == 10) then
                          (verify_target N c_0 i_1 x8.A).bind fun r80 =>
                          some r80
                        else
                          (idx c_0.Ins (i_1 - 1)).bind fun x82 =>
                          bif (x82.Op == 11) then
                            (verify_target N c_0 i_1 x8.A).bind fun r96 =>
                            some r96
                          else
                            some false
                      else
                        some false
                    else
                      bif (x8.Op == 12) then
                        (verify_target N c_0 i_1 x8.A).bind fun r99 =>
                        some r99
                      else
                        bif (x8.Op == 13) then
                          some (i_1 == (IntKind.wrap .i64 ((c_0.Ins.length : Int) - 1)))
                        else
                          some true

def verify_named_b1 (N : Nat) (l_0 : List (List UInt8)) (x_14 : Int) (seen_15 : List (List UInt8 × Bool)) : Option ((Int × (List (List UInt8 × Bool))) ⊕ ((Unit ⊕ Bool))) :=
  bif (decide (x_14 < (l_0.length : Int))) then
    (idx l_0 x_14).bind fun x21 =>
    (token_Name N x21).bind fun r31 =>
    bif (!r31) then
      some (.inr (.inr false))
    else
      bif ((mget seen_15 x21).getD false) then
        some (.inr (.inr false))
      else
        (mset seen_15 x21 true).bind fun l39 =>
        some (.inl ((x_14 + 1), l39))
  else
    some (.inr (.inl ()))
def verify_named (N : Nat) (l_0 : List (List UInt8)) : Option Bool :=
  (iter (fun s => verify_named_b1 N l_0 s.1 s.2) N (0, ([] : List (List UInt8 × Bool)))).bind fun o9 =>
  Sum.elim (fun _o9 =>
    some (decide ((l_0.length : Int) ≤ 20)))
  (fun o9 =>
    some o9) o9

def verify_same (_N : Nat) (a b : List (List UInt8)) : Option Bool := some (a == b)

def verify_flow_lead (N : Nat) (to_1 : Int) (open_2 : List (List UInt8)) (x0 : Flow) : Option Flow :=
  (idx x0.reached to_1).bind fun x27 =>
  bif x27 then
    (show Option Flow from
      (idx x0.clash to_1).bind fun x52 =>
      bif x52 then
        (idx x0.clash to_1).bind fun _x63 =>
        (setI x0.clash to_1 true).bind fun l69 =>
        some (Flow.mk x0.c x0.open_ x0.reached l69)
      else
        (idx x0.open_ to_1).bind fun x91 =>
        (verify_same N x91 open_2).bind fun r103 =>
        (idx x0.clash to_1).bind fun _x105 =>
        (setI x0.clash to_1 (!r103)).bind fun l111 =>
        some (Flow.mk x0.c x0.open_ x0.reached l111)).bind fun o38 =>
    some o38
  else
    (show Option Flow from
      (idx x0.reached to_1).bind fun _x170 =>
      (setI x0.reached to_1 true).bind fun l176 =>
      (idx x0.open_ to_1).bind fun _x180 =>
      (setI x0.open_ to_1 open_2).bind fun l186 =>
      some (Flow.mk x0.c l186 l176 x0.clash)).bind fun o156 =>
    some o156

end Go.Proofs.YtmghnmfefpeelaaDoor
