/- The functions of this part as plain Lean functions, printed by gen8.py. -/
import Derived.Test.YtmmioinglmeoiaaExt44b1
import Derived.Test.YtmmioinglmeoiaaLibNR
set_option linter.unusedVariables false
namespace Go.Proofs.Ytmmioinglmeoiaa
open Go.X

def calqueref44_Match_b2 (N : Nat) (s_1 : List UInt8) (x13 : Item) (at_33 : Int) (n_34 : Int) : Option ((Int × Int) ⊕ ((Int × Int))) :=
  bif (decide (x13.Most < 0)) then
    (calqueref44_taken N x13 s_1 at_33).bind fun r38 =>
    bif (decide (r38 ≥ 0)) then
      (calqueref44_taken N x13 s_1 at_33).bind fun r42 =>
      some (.inl ((IntKind.wrap .i64 (at_33 + r42)), (IntKind.wrap .i64 (n_34 + 1))))
    else
      some (.inr (at_33, n_34))
  else
    bif (decide (n_34 < x13.Most)) then
      (calqueref44_taken N x13 s_1 at_33).bind fun r46 =>
      bif (decide (r46 ≥ 0)) then
        (calqueref44_taken N x13 s_1 at_33).bind fun r50 =>
        some (.inl ((IntKind.wrap .i64 (at_33 + r50)), (n_34 + 1)))
      else
        some (.inr (at_33, n_34))
    else
      some (.inr (at_33, n_34))

def calqueref44_Match_b1 (N : Nat) (items_0 : List (Item)) (s_1 : List UInt8) (at_8 : Int) (i_9 : Int) : Option ((Int × Int) ⊕ ((Int ⊕ (Int × Bool)))) :=
  bif (decide (i_9 < (items_0.length : Int))) then
    (idx items_0 i_9).bind fun x13 =>
    (iter (fun s => calqueref44_Match_b2 N s_1 x13 s.1 s.2) N (at_8, 0)).bind fun o30 =>
    bif (decide (o30.2 < x13.Least)) then
      some (.inr (.inr (0, false)))
    else
      some (.inl (o30.1, (i_9 + 1)))
  else
    some (.inr (.inl at_8))
def calqueref44_Match (N : Nat) (items_0 : List (Item)) (s_1 : List UInt8) (at_2 : Int) : Option (Int × Bool) :=
  bif (decide (at_2 < 0)) then
    some (0, false)
  else
    bif (decide (at_2 > (s_1.length : Int))) then
      some (0, false)
    else
      (iter (fun s => calqueref44_Match_b1 N items_0 s_1 s.1 s.2) N (at_2, 0)).bind fun o5 =>
      Sum.elim (fun o5 =>
        some ((IntKind.wrap .i64 (o5 - at_2)), true))
      (fun o5 =>
        some o5) o5

def calqueref44_Step_b1 (N : Nat) (script_0 : List (State)) (s_2 : List UInt8) (at_3 : Int) (state_15 : Int) (i_16 : Int) : Option ((Int × Int) ⊕ ((Unit ⊕ (Token × Int × Int)))) :=
  (idx script_0 state_15).bind fun x19 =>
  bif (decide (i_16 < (x19.Rules.length : Int))) then
    (idx script_0 state_15).bind fun x32 =>
    (idx x32.Rules i_16).bind fun x44 =>
    (calqueref44_Match N x44.Items s_2 at_3).bind fun r58 =>
    bif r58.2 then
      bif (decide (r58.1 > 0)) then
        (show Option Int from
          bif (x44.Next != ([])) then
            (calqueref44_Index N script_0 x44.Next).bind fun r66 =>
            some r66
          else
            some state_15).bind fun o63 =>
        (show Option (Int × Token) from
          (slc s_2 at_3 (IntKind.wrap .i64 (at_3 + r58.1))).bind fun s75 =>
          some (o63, (Token.mk x44.Kind s75 at_3))).bind fun o70 =>
        some (.inr (.inr (o70.2, o70.1, 0)))
      else
        some (.inl (state_15, (i_16 + 1)))
    else
      some (.inl (state_15, (i_16 + 1)))
  else
    some (.inr (.inl ()))
def calqueref44_Step (N : Nat) (script_0 : List (State)) (state_1 : Int) (s_2 : List UInt8) (at_3 : Int) : Option (Token × Int × Int) :=
  (calqueref44_Valid N script_0).bind fun r2 =>
  bif (!r2) then
    some ((Token.mk ([]) ([]) 0), 0, 1)
  else
    bif (decide (state_1 < 0)) then
      some ((Token.mk ([]) ([]) 0), 0, 2)
    else
      bif (decide (state_1 ≥ (script_0.length : Int))) then
        some ((Token.mk ([]) ([]) 0), 0, 2)
      else
        bif (decide (at_3 < 0)) then
          some ((Token.mk ([]) ([]) 0), 0, 2)
        else
          bif (decide (at_3 > (s_2.length : Int))) then
            some ((Token.mk ([]) ([]) 0), 0, 2)
          else
            bif (at_3 == (s_2.length : Int)) then
              some ((Token.mk ([]) ([]) 0), 0, 8)
            else
              (iter (fun s => calqueref44_Step_b1 N script_0 s_2 at_3 s.1 s.2) N (state_1, 0)).bind fun o12 =>
              Sum.elim (fun _o12 =>
                some ((Token.mk ([]) ([]) 0), 0, 3))
              (fun o12 =>
                some o12) o12

def calqueref44_Tokens_b1 (N : Nat) (script_0 : List (State)) (s_1 : List UInt8) (out_21 : List (Token)) (at_22 : Int) (state_23 : Int) : Option (((List (Token)) × Int × Int) ⊕ ((((List (Token))) ⊕ ((List (Token)) × Int × Int)))) :=
  bif (decide (at_22 < (s_1.length : Int))) then
    (calqueref44_Step N script_0 state_23 s_1 at_22).bind fun r31 =>
    bif (r31.2.2 != 0) then
      some (.inr (.inr ([], at_22, r31.2.2)))
    else
      (app out_21 ([r31.1] : List (Token))).bind fun l46 =>
      some (.inl (l46, (IntKind.wrap .i64 (at_22 + (r31.1.Text.length : Int))), r31.2.1))
  else
    some (.inr (.inl out_21))
def calqueref44_Tokens (N : Nat) (script_0 : List (State)) (s_1 : List UInt8) : Option ((List (Token)) × Int × Int) :=
  (calqueref44_Valid N script_0).bind fun r1 =>
  bif (!r1) then
    some ([], 0, 1)
  else
    bif (decide ((s_1.length : Int) > 200000)) then
      some ([], 200000, 6)
    else
      (iter (fun s => calqueref44_Tokens_b1 N script_0 s_1 s.1 s.2.1 s.2.2) N ([], 0, 0)).bind fun o14 =>
      Sum.elim (fun o14 =>
        some (o14, 0, 0))
      (fun o14 =>
        some o14) o14

def calqueref44_sameItem_b1 (_N : Nat) (x_0 : Item) (y_1 : Item) (i_21 : Int) : Option (Int ⊕ ((Unit ⊕ Bool))) :=
  bif (decide (i_21 < (x_0.Ranges.length : Int))) then
    (idx x_0.Ranges i_21).bind fun x24 =>
    (idx y_1.Ranges i_21).bind fun x35 =>
    bif (!((x24.From == x35.From) && (x24.To == x35.To))) then
      some (.inr (.inr false))
    else
      some (.inl (i_21 + 1))
  else
    some (.inr (.inl ()))
def calqueref44_sameItem (N : Nat) (x_0 : Item) (y_1 : Item) : Option Bool :=
  bif (x_0.Text != y_1.Text) then
    some false
  else
    bif (x_0.Not != y_1.Not) then
      some false
    else
      bif (x_0.Least != y_1.Least) then
        some false
      else
        bif (x_0.Most != y_1.Most) then
          some false
        else
          bif ((x_0.Ranges.length : Int) != (y_1.Ranges.length : Int)) then
            some false
          else
            (iter (fun s => calqueref44_sameItem_b1 N x_0 y_1 s) N 0).bind fun o19 =>
            Sum.elim (fun _o19 =>
              some true)
            (fun o19 =>
              some o19) o19

def calqueref44_Same_b3 (N : Nat) (o76 : (Rule × Rule)) (j_201 : Int) : Option (Int ⊕ ((Unit ⊕ Bool))) :=
  bif (decide (j_201 < (o76.1.Items.length : Int))) then
    (idx o76.1.Items j_201).bind fun x204 =>
    (idx o76.2.Items j_201).bind fun x218 =>
    (calqueref44_sameItem N x204 x218).bind fun r232 =>
    bif (!r232) then
      some (.inr (.inr false))
    else
      some (.inl (j_201 + 1))
  else
    some (.inr (.inl ()))

def calqueref44_Same_b2 (N : Nat) (a_0 : List (State)) (b_1 : List (State)) (i_5 : Int) (k_61 : Int) : Option (Int ⊕ ((Unit ⊕ Bool))) :=
  (idx a_0 i_5).bind fun x63 =>
  bif (decide (k_61 < (x63.Rules.length : Int))) then
    (show Option (Rule × Rule) from
      (idx a_0 i_5).bind fun x87 =>
      (idx x87.Rules k_61).bind fun x99 =>
      (idx b_1 i_5).bind fun x112 =>
      (idx x112.Rules k_61).bind fun x124 =>
      some (x99, x124)).bind fun o76 =>
    bif (o76.1.Kind != o76.2.Kind) then
      some (.inr (.inr false))
    else
      bif (o76.1.Next != o76.2.Next) then
        some (.inr (.inr false))
      else
        bif ((o76.1.Items.length : Int) != (o76.2.Items.length : Int)) then
          some (.inr (.inr false))
        else
          (iter (fun s => calqueref44_Same_b3 N o76 s) N 0).bind fun o199 =>
          Sum.elim (fun _o199 =>
            some (.inl (k_61 + 1)))
          (fun o199 =>
            some (.inr (.inr o199))) o199
  else
    some (.inr (.inl ()))

def calqueref44_Same_b1 (N : Nat) (a_0 : List (State)) (b_1 : List (State)) (i_5 : Int) : Option (Int ⊕ ((Unit ⊕ Bool))) :=
  bif (decide (i_5 < (a_0.length : Int))) then
    (idx a_0 i_5).bind fun x8 =>
    (idx b_1 i_5).bind fun x20 =>
    bif (x8.Name != x20.Name) then
      some (.inr (.inr false))
    else
      (idx a_0 i_5).bind fun x33 =>
      (idx b_1 i_5).bind fun x45 =>
      bif ((x33.Rules.length : Int) != (x45.Rules.length : Int)) then
        some (.inr (.inr false))
      else
        (iter (fun s => calqueref44_Same_b2 N a_0 b_1 i_5 s) N 0).bind fun o59 =>
        Sum.elim (fun _o59 =>
          some (.inl (i_5 + 1)))
        (fun o59 =>
          some (.inr (.inr o59))) o59
  else
    some (.inr (.inl ()))
def calqueref44_Same (N : Nat) (a_0 : List (State)) (b_1 : List (State)) : Option Bool :=
  bif ((a_0.length : Int) != (b_1.length : Int)) then
    some false
  else
    (iter (fun s => calqueref44_Same_b1 N a_0 b_1 s) N 0).bind fun o3 =>
    Sum.elim (fun _o3 =>
      some true)
    (fun o3 =>
      some o3) o3

end Go.Proofs.Ytmmioinglmeoiaa
