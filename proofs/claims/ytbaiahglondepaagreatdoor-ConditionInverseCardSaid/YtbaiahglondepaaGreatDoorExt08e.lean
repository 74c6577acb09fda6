/- The functions of this part as plain Lean functions, printed by gen8.py. -/
import Derived.Test.YtbaiahglondepaaGreatDoorExt08a1
import Derived.Test.YtbaiahglondepaaGreatDoorExt08a2
import Derived.Test.YtbaiahglondepaaGreatDoorExt08b
import Derived.Test.YtbaiahglondepaaGreatDoorLibM
set_option linter.unusedVariables false
namespace Go.Proofs.YtbaiahglondepaaGreatDoor
open Go.X

def condition_span (N : Nat) (s_0 : Span) : Option (List UInt8) :=
  bif (s_0.From == s_0.To) then
    (strconv_ItoaT N s_0.From).bind fun r5 =>
    some r5
  else
    (strconv_ItoaT N s_0.From).bind fun r8 =>
    (cat r8 ([46, 46])).bind fun s11 =>
    (strconv_ItoaT N s_0.To).bind fun r13 =>
    (cat s11 r13).bind fun s16 =>
    some s16

def condition_relation_b1 (N : Nat) (r_0 : Relation) (l_39 : List (List UInt8)) (x_40 : Int) : Option (((List (List UInt8)) × Int) ⊕ (((List (List UInt8))))) :=
  bif (decide (x_40 < (r_0.Spans.length : Int))) then
    (idx r_0.Spans x_40).bind fun x46 =>
    (condition_span N x46).bind fun r58 =>
    (app l_39 ([r58] : List (List UInt8))).bind fun l64 =>
    some (.inl (l64, (x_40 + 1)))
  else
    some (.inr l_39)
def condition_relation (N : Nat) (r_0 : Relation) : Option (List UInt8) :=
  (slc ([32, 110, 105, 118, 119, 102, 116]) r_0.Operand (IntKind.wrap .i64 (r_0.Operand + 1))).bind fun s6 =>
  (show Option ((List UInt8)) from
    bif (r_0.Mod != 0) then
      (strconv_ItoaT N r_0.Mod).bind fun r11 =>
      (cat ([32, 37, 32]) r11).bind fun s14 =>
      (cat s6 s14).bind fun s16 =>
      some s16
    else
      some s6).bind fun o8 =>
  (show Option ((List UInt8)) from
    bif r_0.Not then
      (cat o8 ([32, 33, 61, 32])).bind fun s22 =>
      some s22
    else
      (cat o8 ([32, 61, 32])).bind fun s24 =>
      some s24).bind fun o19 =>
  (iter (fun s => condition_relation_b1 N r_0 s.1 s.2) N ([], 0)).bind fun o34 =>
  (strings_Join N o34 ([44])).bind fun r77 =>
  (cat o19 r77).bind fun s80 =>
  some s80

def condition_Print_b2 (N : Nat) (x23 : List (Relation)) (l_46 : List (List UInt8)) (x_47 : Int) : Option (((List (List UInt8)) × Int) ⊕ (((List (List UInt8))))) :=
  bif (decide (x_47 < (x23.length : Int))) then
    (idx x23 x_47).bind fun x53 =>
    (condition_relation N x53).bind fun r67 =>
    (app l_46 ([r67] : List (List UInt8))).bind fun l73 =>
    some (.inl (l73, (x_47 + 1)))
  else
    some (.inr l_46)

def condition_Print_b1 (N : Nat) (c_0 : List (List (Relation))) (lists_16 : List (List UInt8)) (x_17 : Int) : Option (((List (List UInt8)) × Int) ⊕ (((List (List UInt8))))) :=
  bif (decide (x_17 < (c_0.length : Int))) then
    (idx c_0 x_17).bind fun x23 =>
    (iter (fun s => condition_Print_b2 N x23 s.1 s.2) N ([], 0)).bind fun o41 =>
    (strings_Join N o41 ([32, 97, 110, 100, 32])).bind fun r86 =>
    (app lists_16 ([r86] : List (List UInt8))).bind fun l92 =>
    some (.inl (l92, (x_17 + 1)))
  else
    some (.inr lists_16)
def condition_Print (N : Nat) (c_0 : List (List (Relation))) : Option ((List UInt8) × Int) :=
  (condition_Valid N c_0).bind fun r1 =>
  bif (!r1) then
    some ([], 1)
  else
    (iter (fun s => condition_Print_b1 N c_0 s.1 s.2) N ([], 0)).bind fun o11 =>
    (strings_Join N o11 ([32, 111, 114, 32])).bind fun r108 =>
    some (r108, 0)

def calqueref08_equal_b1 (_N : Nat) (a_0 : Relation) (b_1 : Relation) (i_18 : Int) : Option (Int ⊕ ((Unit ⊕ Bool))) :=
  bif (decide (i_18 < (a_0.Spans.length : Int))) then
    (idx a_0.Spans i_18).bind fun x21 =>
    (idx b_1.Spans i_18).bind fun x32 =>
    bif (!((x21.From == x32.From) && (x21.To == x32.To))) then
      some (.inr (.inr false))
    else
      some (.inl (i_18 + 1))
  else
    some (.inr (.inl ()))
def calqueref08_equal (N : Nat) (a_0 : Relation) (b_1 : Relation) : Option Bool :=
  bif (a_0.Operand != b_1.Operand) then
    some false
  else
    bif (a_0.Mod != b_1.Mod) then
      some false
    else
      bif (a_0.Not != b_1.Not) then
        some false
      else
        bif ((a_0.Spans.length : Int) != (b_1.Spans.length : Int)) then
          some false
        else
          (iter (fun s => calqueref08_equal_b1 N a_0 b_1 s) N 0).bind fun o16 =>
          Sum.elim (fun _o16 =>
            some true)
          (fun o16 =>
            some o16) o16

def calqueref08_Equal_b2 (N : Nat) (a_0 : List (List (Relation))) (b_1 : List (List (Relation))) (i_5 : Int) (k_34 : Int) : Option (Int ⊕ ((Unit ⊕ Bool))) :=
  (idx a_0 i_5).bind fun x36 =>
  bif (decide (k_34 < (x36.length : Int))) then
    (idx a_0 i_5).bind fun x48 =>
    (idx x48 k_34).bind fun x59 =>
    (idx b_1 i_5).bind fun x72 =>
    (idx x72 k_34).bind fun x83 =>
    (calqueref08_equal N x59 x83).bind fun r96 =>
    bif (!r96) then
      some (.inr (.inr false))
    else
      some (.inl (k_34 + 1))
  else
    some (.inr (.inl ()))

def calqueref08_Equal_b1 (N : Nat) (a_0 : List (List (Relation))) (b_1 : List (List (Relation))) (i_5 : Int) : Option (Int ⊕ ((Unit ⊕ Bool))) :=
  bif (decide (i_5 < (a_0.length : Int))) then
    (idx a_0 i_5).bind fun x8 =>
    (idx b_1 i_5).bind fun x19 =>
    bif ((x8.length : Int) != (x19.length : Int)) then
      some (.inr (.inr false))
    else
      (iter (fun s => calqueref08_Equal_b2 N a_0 b_1 i_5 s) N 0).bind fun o32 =>
      Sum.elim (fun _o32 =>
        some (.inl (i_5 + 1)))
      (fun o32 =>
        some (.inr (.inr o32))) o32
  else
    some (.inr (.inl ()))
def calqueref08_Equal (N : Nat) (a_0 : List (List (Relation))) (b_1 : List (List (Relation))) : Option Bool :=
  bif ((a_0.length : Int) != (b_1.length : Int)) then
    some false
  else
    (iter (fun s => calqueref08_Equal_b1 N a_0 b_1 s) N 0).bind fun o3 =>
    Sum.elim (fun _o3 =>
      some true)
    (fun o3 =>
      some o3) o3

def calqueref08_decimal (N : Nat) (n_0 : Int) : Option (List UInt8) :=
  match N with
  | 0 => none
  | N + 1 =>
    bif (decide (n_0 ≥ 10)) then
      (calqueref08_decimal N (IntKind.wrap .i64 (n_0.tdiv 10))).bind fun r2 =>
      (rm n_0 10).bind fun q5 =>
      (calqueref08_decimal N q5).bind fun r7 =>
      (cat r2 r7).bind fun s10 =>
      some s10
    else
      some (bytesOf ([(IntKind.wrap .u8 (IntKind.wrap .i64 ((48 : Int) + n_0)))] : List (Int)))

def calqueref08_relation_b1 (N : Nat) (r_0 : Relation) (s_32 : List UInt8) (i_33 : Int) : Option (((List UInt8) × Int) ⊕ (((List UInt8)))) :=
  bif (decide (i_33 < (r_0.Spans.length : Int))) then
    (show Option ((List UInt8)) from
      bif (i_33 == 0) then
        (cat s_32 ([32])).bind fun s40 =>
        some s40
      else
        (cat s_32 ([44])).bind fun s42 =>
        some s42).bind fun o37 =>
    (idx r_0.Spans i_33).bind fun x45 =>
    (calqueref08_decimal N x45.From).bind fun r56 =>
    (cat o37 r56).bind fun s59 =>
    (idx r_0.Spans i_33).bind fun x61 =>
    (idx r_0.Spans i_33).bind fun x72 =>
    bif (x61.To != x72.From) then
      (idx r_0.Spans i_33).bind fun x84 =>
      (calqueref08_decimal N x84.To).bind fun r95 =>
      (cat ([46, 46]) r95).bind fun s98 =>
      (cat s59 s98).bind fun s100 =>
      some (.inl (s100, (i_33 + 1)))
    else
      some (.inl (s59, (i_33 + 1)))
  else
    some (.inr s_32)
def calqueref08_relation (N : Nat) (r_0 : Relation) : Option (List UInt8) :=
  (slc ([110, 105, 118, 119, 102, 116]) (IntKind.wrap .i64 (r_0.Operand - 1)) r_0.Operand).bind fun s6 =>
  (show Option ((List UInt8)) from
    bif (r_0.Mod != 0) then
      (calqueref08_decimal N r_0.Mod).bind fun r11 =>
      (cat ([32, 37, 32]) r11).bind fun s14 =>
      (cat s6 s14).bind fun s16 =>
      some s16
    else
      some s6).bind fun o8 =>
  (show Option ((List UInt8)) from
    bif r_0.Not then
      (cat o8 ([32, 33, 61])).bind fun s22 =>
      some s22
    else
      (cat o8 ([32, 61])).bind fun s24 =>
      some s24).bind fun o19 =>
  (iter (fun s => calqueref08_relation_b1 N r_0 s.1 s.2) N (o19, 0)).bind fun o29 =>
  some o29

def calqueref08_Print_b2 (N : Nat) (c_0 : List (List (Relation))) (i_10 : Int) (s_25 : List UInt8) (k_26 : Int) : Option (((List UInt8) × Int) ⊕ (((List UInt8)))) :=
  (idx c_0 i_10).bind fun x29 =>
  bif (decide (k_26 < (x29.length : Int))) then
    (show Option ((List UInt8)) from
      bif (decide (k_26 > 0)) then
        (cat s_25 ([32, 97, 110, 100, 32])).bind fun s44 =>
        some s44
      else
        some s_25).bind fun o41 =>
    (idx c_0 i_10).bind fun x47 =>
    (idx x47 k_26).bind fun x58 =>
    (calqueref08_relation N x58).bind fun r71 =>
    (cat o41 r71).bind fun s74 =>
    some (.inl (s74, (k_26 + 1)))
  else
    some (.inr s_25)

def calqueref08_Print_b1 (N : Nat) (c_0 : List (List (Relation))) (s_9 : List UInt8) (i_10 : Int) : Option (((List UInt8) × Int) ⊕ (((List UInt8)))) :=
  bif (decide (i_10 < (c_0.length : Int))) then
    (show Option ((List UInt8)) from
      bif (decide (i_10 > 0)) then
        (cat s_9 ([32, 111, 114, 32])).bind fun s17 =>
        some s17
      else
        some s_9).bind fun o14 =>
    (iter (fun s => calqueref08_Print_b2 N c_0 i_10 s.1 s.2) N (o14, 0)).bind fun o22 =>
    some (.inl (o22, (i_10 + 1)))
  else
    some (.inr s_9)
def calqueref08_Print (N : Nat) (c_0 : List (List (Relation))) : Option ((List UInt8) × Int) :=
  (calqueref08_Valid N c_0).bind fun r1 =>
  bif (!r1) then
    some ([], 1)
  else
    (iter (fun s => calqueref08_Print_b1 N c_0 s.1 s.2) N ([], 0)).bind fun o6 =>
    some (o6, 0)

def slices_Equal_api_Span_api_Span_b1 (_N : Nat) (s1_0 : List (Span)) (s2_1 : List (Span)) (x_5 : Int) : Option (Int ⊕ ((Unit ⊕ Bool))) :=
  bif (decide (x_5 < (s1_0.length : Int))) then
    (idx s1_0 x_5).bind fun x8 =>
    (idx s2_1 x_5).bind fun x19 =>
    bif (!((x8.From == x19.From) && (x8.To == x19.To))) then
      some (.inr (.inr false))
    else
      some (.inl (x_5 + 1))
  else
    some (.inr (.inl ()))
def slices_Equal_api_Span_api_Span (N : Nat) (s1_0 : List (Span)) (s2_1 : List (Span)) : Option Bool :=
  bif ((s1_0.length : Int) != (s2_1.length : Int)) then
    some false
  else
    (iter (fun s => slices_Equal_api_Span_api_Span_b1 N s1_0 s2_1 s) N 0).bind fun o3 =>
    Sum.elim (fun _o3 =>
      some true)
    (fun o3 =>
      some o3) o3

def condition_Equal_1_1 (N : Nat) (r_0 : Relation) (s_1 : Relation) : Option Bool :=
  bif (r_0.Operand == s_1.Operand) then
    bif (r_0.Mod == s_1.Mod) then
      bif (r_0.Not == s_1.Not) then
        (slices_Equal_api_Span_api_Span N r_0.Spans s_1.Spans).bind fun r14 =>
        some r14
      else
        some false
    else
      some false
  else
    some false

def slices_EqualFunc_api_Relation_api_Relation_api_Relation_api_Relation__48_b1 (N : Nat) (s1_0 : List (Relation)) (s2_1 : List (Relation)) (x_5 : Int) : Option (Int ⊕ ((Unit ⊕ Bool))) :=
  bif (decide (x_5 < (s1_0.length : Int))) then
    (idx s1_0 x_5).bind fun x8 =>
    (idx s2_1 x_5).bind fun x22 =>
    (condition_Equal_1_1 N x8 x22).bind fun r36 =>
    bif (!r36) then
      some (.inr (.inr false))
    else
      some (.inl (x_5 + 1))
  else
    some (.inr (.inl ()))
def slices_EqualFunc_api_Relation_api_Relation_api_Relation_api_Relation__48 (N : Nat) (s1_0 : List (Relation)) (s2_1 : List (Relation)) : Option Bool :=
  bif ((s1_0.length : Int) != (s2_1.length : Int)) then
    some false
  else
    (iter (fun s => slices_EqualFunc_api_Relation_api_Relation_api_Relation_api_Relation__48_b1 N s1_0 s2_1 s) N 0).bind fun o3 =>
    Sum.elim (fun _o3 =>
      some true)
    (fun o3 =>
      some o3) o3

def condition_Equal_1 (N : Nat) (x_0 : List (Relation)) (y_1 : List (Relation)) : Option Bool :=
  (slices_EqualFunc_api_Relation_api_Relation_api_Relation_api_Relation__48 N x_0 y_1).bind fun r1 =>
  some r1

def slices_EqualFunc_api_Cond_api_Cond_api_Relation_api_Relation__46_b1 (N : Nat) (s1_0 : List (List (Relation))) (s2_1 : List (List (Relation))) (x_5 : Int) : Option (Int ⊕ ((Unit ⊕ Bool))) :=
  bif (decide (x_5 < (s1_0.length : Int))) then
    (idx s1_0 x_5).bind fun x8 =>
    (idx s2_1 x_5).bind fun x19 =>
    (condition_Equal_1 N x8 x19).bind fun r30 =>
    bif (!r30) then
      some (.inr (.inr false))
    else
      some (.inl (x_5 + 1))
  else
    some (.inr (.inl ()))
def slices_EqualFunc_api_Cond_api_Cond_api_Relation_api_Relation__46 (N : Nat) (s1_0 : List (List (Relation))) (s2_1 : List (List (Relation))) : Option Bool :=
  bif ((s1_0.length : Int) != (s2_1.length : Int)) then
    some false
  else
    (iter (fun s => slices_EqualFunc_api_Cond_api_Cond_api_Relation_api_Relation__46_b1 N s1_0 s2_1 s) N 0).bind fun o3 =>
    Sum.elim (fun _o3 =>
      some true)
    (fun o3 =>
      some o3) o3

def condition_Equal (N : Nat) (a_0 : List (List (Relation))) (b_1 : List (List (Relation))) : Option Bool :=
  (slices_EqualFunc_api_Cond_api_Cond_api_Relation_api_Relation__46 N a_0 b_1).bind fun r1 =>
  some r1

def calquelaw08_ConditionPrint (N : Nat) (c_0 : List (List (Relation))) (d_1 : List (List (Relation))) : Option Bool :=
  (calquelaw08_awake N ).bind fun r1 =>
  bif (!r1) then
    (calquelaw08_awake N ).bind fun r4 =>
    some r4
  else
    (calqueref08_Few N c_0).bind fun r6 =>
    bif (!r6) then
      (calquelaw08_awake N ).bind fun r9 =>
      some r9
    else
      (calqueref08_Few N d_1).bind fun r11 =>
      bif (!r11) then
        (calquelaw08_awake N ).bind fun r14 =>
        some r14
      else
        (condition_Print N c_0).bind fun r16 =>
        (calqueref08_Print N c_0).bind fun r20 =>
        bif (r16.1 == r20.1) then
          bif (r16.2 == r20.2) then
            (condition_Valid N c_0).bind fun r26 =>
            (calqueref08_Valid N c_0).bind fun r28 =>
            bif (r26 == r28) then
              (condition_Equal N c_0 d_1).bind fun r31 =>
              (calqueref08_Equal N c_0 d_1).bind fun r33 =>
              bif (r31 == r33) then
                (condition_Equal N c_0 c_0).bind fun r36 =>
                some r36
              else
                some false
            else
              some false
          else
            some false
        else
          some false

end Go.Proofs.YtbaiahglondepaaGreatDoor
