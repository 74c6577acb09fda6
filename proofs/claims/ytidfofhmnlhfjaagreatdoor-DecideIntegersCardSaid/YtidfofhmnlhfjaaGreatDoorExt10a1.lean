/- The functions of this part as plain Lean functions, printed by gen8.py. -/
import Derived.Test.YtidfofhmnlhfjaaGreatDoorLibTZ
set_option linter.unusedVariables false
namespace Go.Proofs.YtidfofhmnlhfjaaGreatDoor
open Go.X

structure Span where
  From : Int
  To : Int

structure Relation where
  Operand : Int
  Mod : Int
  Not : Bool
  Spans : List (Span)

structure Rule where
  Class : List UInt8
  Cond : List (List (Relation))

structure Part where
  bits : Int
  text : List UInt8

structure Classes where
  l : List (Relation)
  wholes : List (Part)
  fraction : List (Part)

structure Tracker where
  a : Int
  b : Int

structure State where
  s : List UInt8
  trackers : List (Tracker)
  integer : Bool

structure Word where
  text : List UInt8
  at_ : Int

structure Parser where
  s : List UInt8
  to_ : Int
  w : Word
  at_ : Int
  e : Int

structure Number where
  Neg : Bool
  Whole : List UInt8
  Frac : List UInt8

def slices_Index_int_int_b1 (_N : Nat) (s_0 : List (Int)) (v_1 : Int) (x_4 : Int) : Option (Int ⊕ ((Unit ⊕ Int))) :=
  bif (decide (x_4 < (s_0.length : Int))) then
    (idx s_0 x_4).bind fun x7 =>
    bif (v_1 == x7) then
      some (.inr (.inr x_4))
    else
      some (.inl (x_4 + 1))
  else
    some (.inr (.inl ()))
def slices_Index_int_int (N : Nat) (s_0 : List (Int)) (v_1 : Int) : Option Int :=
  (iter (fun s => slices_Index_int_int_b1 N s_0 v_1 s) N 0).bind fun o2 =>
  Sum.elim (fun _o2 =>
    some (-1))
  (fun o2 =>
    some o2) o2

def slices_Contains_int_int (N : Nat) (s_0 : List (Int)) (v_1 : Int) : Option Bool :=
  (slices_Index_int_int N s_0 v_1).bind fun r1 =>
  some (decide (r1 ≥ 0))

def condition_permitted (N : Nat) (operand_0 : Int) (mod_1 : Int) : Option Bool :=
  (show Option Bool from
    bif (operand_0 == 1) then
      some (operand_0 == 1)
    else
      some (operand_0 == 2)).bind fun o1 =>
  bif o1 then
    (slices_Contains_int_int N ([2, 3, 4, 5, 6, 10, 20, 25, 50, 100] : List (Int)) mod_1).bind fun r12 =>
    some r12
  else
    (show Option Bool from
      bif (operand_0 == 5) then
        some (operand_0 == 5)
      else
        some (operand_0 == 6)).bind fun o14 =>
    bif o14 then
      bif (mod_1 == 10) then
        some true
      else
        some (mod_1 == 100)
    else
      some false

def condition_greatest (_N : Nat) (operand_0 : Int) : Option Int :=
  bif (operand_0 == 3) then
    some 6
  else
    bif (operand_0 == 4) then
      some 6
    else
      some 100

def condition_proper_b1 (N : Nat) (r_0 : Relation) (x_17 : Int) : Option (Int ⊕ ((Unit ⊕ Bool))) :=
  bif (decide (x_17 < (r_0.Spans.length : Int))) then
    (idx r_0.Spans x_17).bind fun x20 =>
    bif (decide (x20.From < 0)) then
      some (.inr (.inr false))
    else
      bif (decide (x20.From > x20.To)) then
        some (.inr (.inr false))
      else
        (condition_greatest N r_0.Operand).bind fun r34 =>
        bif (decide (x20.To > r34)) then
          some (.inr (.inr false))
        else
          some (.inl (x_17 + 1))
  else
    some (.inr (.inl ()))

def condition_proper_b2 (N : Nat) (r_0 : Relation) (x_45 : Int) : Option (Int ⊕ ((Unit ⊕ Bool))) :=
  bif (decide (x_45 < (r_0.Spans.length : Int))) then
    (idx r_0.Spans x_45).bind fun x48 =>
    bif (decide (x48.From < 0)) then
      some (.inr (.inr false))
    else
      bif (decide (x48.From > x48.To)) then
        some (.inr (.inr false))
      else
        (condition_greatest N r_0.Operand).bind fun r62 =>
        bif (decide (x48.To > r62)) then
          some (.inr (.inr false))
        else
          some (.inl (x_45 + 1))
  else
    some (.inr (.inl ()))
def condition_proper (N : Nat) (r_0 : Relation) : Option Bool :=
  bif (decide (r_0.Operand < 1)) then
    some false
  else
    bif (decide (r_0.Operand > 6)) then
      some false
    else
      bif (r_0.Mod != 0) then
        (condition_permitted N r_0.Operand r_0.Mod).bind fun r9 =>
        bif (!r9) then
          some false
        else
          bif (decide ((r_0.Spans.length : Int) < 1)) then
            some false
          else
            bif (decide ((r_0.Spans.length : Int) > 4)) then
              some false
            else
              (iter (fun s => condition_proper_b1 N r_0 s) N 0).bind fun o15 =>
              Sum.elim (fun _o15 =>
                some true)
              (fun o15 =>
                some o15) o15
      else
        bif (decide ((r_0.Spans.length : Int) < 1)) then
          some false
        else
          bif (decide ((r_0.Spans.length : Int) > 4)) then
            some false
          else
            (iter (fun s => condition_proper_b2 N r_0 s) N 0).bind fun o43 =>
            Sum.elim (fun _o43 =>
              some true)
            (fun o43 =>
              some o43) o43

def condition_Valid_1 (N : Nat) (r_0 : Relation) : Option Bool :=
  (condition_proper N r_0).bind fun r6 =>
  some (!r6)

def slices_IndexFunc_api_Relation_api_Relation__81_b1 (N : Nat) (s_0 : List (Relation)) (x_4 : Int) : Option (Int ⊕ ((Unit ⊕ Int))) :=
  bif (decide (x_4 < (s_0.length : Int))) then
    (idx s_0 x_4).bind fun x7 =>
    (condition_Valid_1 N x7).bind fun r20 =>
    bif r20 then
      some (.inr (.inr x_4))
    else
      some (.inl (x_4 + 1))
  else
    some (.inr (.inl ()))
def slices_IndexFunc_api_Relation_api_Relation__81 (N : Nat) (s_0 : List (Relation)) : Option Int :=
  (iter (fun s => slices_IndexFunc_api_Relation_api_Relation__81_b1 N s_0 s) N 0).bind fun o2 =>
  Sum.elim (fun _o2 =>
    some (-1))
  (fun o2 =>
    some o2) o2

def slices_ContainsFunc_api_Relation_api_Relation__81 (N : Nat) (s_0 : List (Relation)) : Option Bool :=
  (slices_IndexFunc_api_Relation_api_Relation__81 N s_0).bind fun r1 =>
  some (decide (r1 ≥ 0))

def condition_Valid_b1 (N : Nat) (c_0 : List (List (Relation))) (n_6 : Int) (x_7 : Int) : Option ((Int × Int) ⊕ ((Int ⊕ Bool))) :=
  bif (decide (x_7 < (c_0.length : Int))) then
    (idx c_0 x_7).bind fun x11 =>
    bif ((x11.length : Int) == 0) then
      some (.inr (.inr false))
    else
      (slices_ContainsFunc_api_Relation_api_Relation__81 N x11).bind fun r23 =>
      bif r23 then
        some (.inr (.inr false))
      else
        some (.inl ((IntKind.wrap .i64 (n_6 + (x11.length : Int))), (x_7 + 1)))
  else
    some (.inr (.inl n_6))
def condition_Valid (N : Nat) (c_0 : List (List (Relation))) : Option Bool :=
  (iter (fun s => condition_Valid_b1 N c_0 s.1 s.2) N (0, 0)).bind fun o3 =>
  Sum.elim (fun o3 =>
    bif (decide ((c_0.length : Int) > 0)) then
      some (decide (o3 ≤ 6))
    else
      some false)
  (fun o3 =>
    some o3) o3

def decide_greatest_b1 (_N : Nat) (r_0 : Relation) (n_11 : Int) (x_12 : Int) : Option ((Int × Int) ⊕ Int) :=
  bif (decide (x_12 < (r_0.Spans.length : Int))) then
    (idx r_0.Spans x_12).bind fun x16 =>
    some (.inl ((max n_11 x16.To), (x_12 + 1)))
  else
    some (.inr n_11)
def decide_greatest (N : Nat) (r_0 : Relation) : Option Int :=
  (iter (fun s => decide_greatest_b1 N r_0 s.1 s.2) N (0, 0)).bind fun o8 =>
  some o8

def decide_Weight_b2 (N : Nat) (x14 : List (Relation)) (weight_30 : Int) (x_31 : Int) : Option ((Int × Int) ⊕ Int) :=
  bif (decide (x_31 < (x14.length : Int))) then
    (idx x14 x_31).bind fun x35 =>
    (show Option Int from
      bif (x35.Mod == 0) then
        (decide_greatest N x35).bind fun r52 =>
        some (IntKind.wrap .i64 (r52 + 2))
      else
        some x35.Mod).bind fun o49 =>
    (show Option Int from
      bif (x35.Operand == 6) then
        some (IntKind.wrap .i64 (o49 * o49))
      else
        some o49).bind fun o56 =>
    some (.inl ((min (IntKind.wrap .i64 (weight_30 * o56)) 1000000), (x_31 + 1)))
  else
    some (.inr weight_30)

def decide_Weight_b1 (N : Nat) (c_0 : List (List (Relation))) (weight_9 : Int) (x_10 : Int) : Option ((Int × Int) ⊕ Int) :=
  bif (decide (x_10 < (c_0.length : Int))) then
    (idx c_0 x_10).bind fun x14 =>
    (iter (fun s => decide_Weight_b2 N x14 s.1 s.2) N (weight_9, 0)).bind fun o27 =>
    some (.inl (o27, (x_10 + 1)))
  else
    some (.inr weight_9)
def decide_Weight (N : Nat) (c_0 : List (List (Relation))) : Option (Int × Int) :=
  (condition_Valid N c_0).bind fun r1 =>
  bif (!r1) then
    some (0, 1)
  else
    (iter (fun s => decide_Weight_b1 N c_0 s.1 s.2) N (1, 0)).bind fun o6 =>
    some (o6, 0)

def decide_valid_b1 (N : Nat) (l_0 : List (List (List (Relation)))) (x_4 : Int) : Option (Int ⊕ ((Unit ⊕ Bool))) :=
  bif (decide (x_4 < (l_0.length : Int))) then
    (idx l_0 x_4).bind fun x7 =>
    (condition_Valid N x7).bind fun r18 =>
    bif (!r18) then
      some (.inr (.inr false))
    else
      some (.inl (x_4 + 1))
  else
    some (.inr (.inl ()))
def decide_valid (N : Nat) (l_0 : List (List (List (Relation)))) : Option Bool :=
  (iter (fun s => decide_valid_b1 N l_0 s) N 0).bind fun o2 =>
  Sum.elim (fun _o2 =>
    some (decide ((l_0.length : Int) ≤ 10)))
  (fun o2 =>
    some o2) o2

def decide_relations_b1 (_N : Nat) (c_0 : List (List (Relation))) (l_13 : List (Relation)) (x_14 : Int) : Option (((List (Relation)) × Int) ⊕ (((List (Relation))))) :=
  bif (decide (x_14 < (c_0.length : Int))) then
    (idx c_0 x_14).bind fun x20 =>
    (app l_13 x20).bind fun l31 =>
    some (.inl (l31, (x_14 + 1)))
  else
    some (.inr l_13)
def decide_relations (N : Nat) (c_0 : List (List (Relation))) : Option (List (Relation)) :=
  (iter (fun s => decide_relations_b1 N c_0 s.1 s.2) N ([], 0)).bind fun o8 =>
  some o8

def decide_reduced (N : Nat) (r_0 : Relation) (n_1 : Int) : Option Int :=
  bif (r_0.Mod != 0) then
    (rm n_1 r_0.Mod).bind fun q7 =>
    some q7
  else
    (decide_greatest N r_0).bind fun r9 =>
    some (min n_1 (IntKind.wrap .i64 (r9 + 1)))

def decide_onWhole (_N : Nat) (r_0 : Relation) : Option Bool :=
  bif (r_0.Operand == 2) then
    some true
  else
    some (r_0.Operand == 1)

def decide_keep_b1 (_N : Nat) (l_0 : List (Part)) (p_1 : Part) (x_7 : Int) : Option (Int ⊕ ((Unit ⊕ ((List (Part)))))) :=
  bif (decide (x_7 < (l_0.length : Int))) then
    (idx l_0 x_7).bind fun x10 =>
    bif (x10.bits == p_1.bits) then
      bif ((x10.text.length : Int) == (p_1.text.length : Int)) then
        some (.inr (.inr l_0))
      else
        some (.inl (x_7 + 1))
    else
      some (.inl (x_7 + 1))
  else
    some (.inr (.inl ()))
def decide_keep (N : Nat) (l_0 : List (Part)) (p_1 : Part) : Option (List (Part)) :=
  (iter (fun s => decide_keep_b1 N l_0 p_1 s) N 0).bind fun o5 =>
  Sum.elim (fun _o5 =>
    (app l_0 ([p_1] : List (Part))).bind fun l28 =>
    some l28)
  (fun o5 =>
    some o5) o5

def decide_tracker_holds_b1 (_N : Nat) (t_0 : Tracker) (r_1 : Relation) (x_14 : Int) : Option (Int ⊕ ((Unit ⊕ Bool))) :=
  bif (decide (x_14 < (r_1.Spans.length : Int))) then
    (idx r_1.Spans x_14).bind fun x17 =>
    bif (decide (t_0.a ≥ x17.From)) then
      bif (decide (t_0.a ≤ x17.To)) then
        some (.inr (.inr (!r_1.Not)))
      else
        some (.inl (x_14 + 1))
    else
      some (.inl (x_14 + 1))
  else
    some (.inr (.inl ()))

def decide_tracker_holds_b2 (_N : Nat) (t_0 : Tracker) (r_1 : Relation) (x_36 : Int) : Option (Int ⊕ ((Unit ⊕ Bool))) :=
  bif (decide (x_36 < (r_1.Spans.length : Int))) then
    (idx r_1.Spans x_36).bind fun x39 =>
    bif (decide (t_0.a ≥ x39.From)) then
      bif (decide (t_0.a ≤ x39.To)) then
        some (.inr (.inr (!r_1.Not)))
      else
        some (.inl (x_36 + 1))
    else
      some (.inl (x_36 + 1))
  else
    some (.inr (.inl ()))
def decide_tracker_holds (N : Nat) (t_0 : Tracker) (r_1 : Relation) : Option Bool :=
  bif (r_1.Operand == 1) then
    bif (t_0.b == 1) then
      some r_1.Not
    else
      (iter (fun s => decide_tracker_holds_b1 N t_0 r_1 s) N 0).bind fun o12 =>
      Sum.elim (fun _o12 =>
        some r_1.Not)
      (fun o12 =>
        some o12) o12
  else
    (iter (fun s => decide_tracker_holds_b2 N t_0 r_1 s) N 0).bind fun o34 =>
    Sum.elim (fun _o34 =>
      some r_1.Not)
    (fun o34 =>
      some o34) o34

def decide_classes_bits_b1 (N : Nat) (behind_1 : Bool) (trackers_2 : List (Tracker)) (x0 : Classes) (b_14 : Int) (x_15 : Int) : Option ((Int × Int) ⊕ Int) :=
  bif (decide (x_15 < (x0.l.length : Int))) then
    (idx x0.l x_15).bind fun x19 =>
    (decide_onWhole N x19).bind fun r33 =>
    bif (r33 != behind_1) then
      (idx trackers_2 x_15).bind fun x36 =>
      (decide_tracker_holds N x36 x19).bind fun r47 =>
      bif r47 then
        (ishl .u64 1 x_15).bind fun q50 =>
        some (.inl ((ibits .or .u64 b_14 q50), (x_15 + 1)))
      else
        some (.inl (b_14, (x_15 + 1)))
    else
      some (.inl (b_14, (x_15 + 1)))
  else
    some (.inr b_14)
def decide_classes_bits (N : Nat) (behind_1 : Bool) (trackers_2 : List (Tracker)) (x0 : Classes) : Option Int :=
  (iter (fun s => decide_classes_bits_b1 N behind_1 trackers_2 x0 s.1 s.2) N (0, 0)).bind fun o11 =>
  some o11

def decide_tracker_read (N : Nat) (t_0 : Tracker) (r_1 : Relation) (behind_2 : Bool) (digit_3 : Int) : Option Tracker :=
  (show Option Bool from
    bif (r_1.Operand == 1) then
      some (r_1.Operand == 1)
    else
      some (r_1.Operand == 2)).bind fun o10 =>
  bif o10 then
    bif (!behind_2) then
      (decide_reduced N r_1 (IntKind.wrap .i64 ((IntKind.wrap .i64 ((10 : Int) * t_0.a)) + digit_3))).bind fun r14 =>
      some (Tracker.mk r14 t_0.b)
    else
      bif (digit_3 != 0) then
        bif (r_1.Operand == 1) then
          some (Tracker.mk t_0.a 1)
        else
          some t_0
      else
        some t_0
  else
    (show Option Bool from
      bif (r_1.Operand == 3) then
        some (r_1.Operand == 3)
      else
        some (r_1.Operand == 4)).bind fun o19 =>
    bif o19 then
      bif behind_2 then
        (decide_reduced N r_1 (IntKind.wrap .i64 (t_0.b + 1))).bind fun r23 =>
        bif (digit_3 != 0) then
          some (Tracker.mk r23 r23)
        else
          bif (r_1.Operand == 3) then
            some (Tracker.mk r23 r23)
          else
            some (Tracker.mk t_0.a r23)
      else
        some t_0
    else
      (show Option Bool from
        bif (r_1.Operand == 5) then
          some (r_1.Operand == 5)
        else
          some (r_1.Operand == 6)).bind fun o28 =>
      bif o28 then
        bif behind_2 then
          (decide_reduced N r_1 (IntKind.wrap .i64 ((IntKind.wrap .i64 ((10 : Int) * t_0.b)) + digit_3))).bind fun r32 =>
          bif (digit_3 != 0) then
            some (Tracker.mk r32 r32)
          else
            bif (r_1.Operand == 5) then
              some (Tracker.mk r32 r32)
            else
              some (Tracker.mk t_0.a r32)
        else
          some t_0
      else
        some t_0

def internal_strconv_FormatBool (_N : Nat) (b_0 : Bool) : Option (List UInt8) :=
  bif b_0 then
    some ([116, 114, 117, 101])
  else
    some ([102, 97, 108, 115, 101])

def strconv_FormatBool (N : Nat) (b_0 : Bool) : Option (List UInt8) :=
  (internal_strconv_FormatBool N b_0).bind fun r1 =>
  some r1

end Go.Proofs.YtidfofhmnlhfjaaGreatDoor
