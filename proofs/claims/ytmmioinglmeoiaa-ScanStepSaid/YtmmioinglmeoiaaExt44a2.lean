/- The functions of this part as plain Lean functions, printed by gen8.py. -/
import Derived.Test.YtmmioinglmeoiaaExt44a1
import Derived.Test.YtmmioinglmeoiaaLibNR
set_option linter.unusedVariables false
namespace Go.Proofs.Ytmmioinglmeoiaa
open Go.X

def scan_Parse_b1 (N : Nat) (s_17 : List UInt8) (script_18 : List (State)) (at_19 : Int) : Option (((List UInt8) × (List (State)) × Int) ⊕ ((((List (State))) ⊕ ((List (State)) × Int × Int)))) :=
  bif (s_17 != ([])) then
    (strings_Cut N s_17 ([10])).bind fun r27 =>
    (strings_CutPrefix N r27.1 ([115, 116, 97, 116, 101, 32])).bind fun r31 =>
    (scan_rule N r27.1).bind fun r34 =>
    bif (!r27.2.2) then
      some (.inr (.inr ([], at_19, 3)))
    else
      bif r31.2 then
        (scan_word N r31.1).bind fun r46 =>
        bif r46 then
          (app script_18 [(State.mk r31.1 ([]))]).bind fun l52 =>
          some (.inl (r27.2.1, l52, (IntKind.wrap .i64 (at_19 + 1))))
        else
          bif r34.2 then
            bif (decide ((script_18.length : Int) > 0)) then
              (idx script_18 ((script_18.length : Int) - 1)).bind fun x59 =>
              (show Option ((List (State))) from
                (app x59.Rules ([r34.1] : List (Rule))).bind fun l86 =>
                some (script_18.set ((script_18.length : Int) - 1).toNat (State.mk x59.Name l86))).bind fun o65 =>
              some (.inl (r27.2.1, o65, (IntKind.wrap .i64 (at_19 + 1))))
            else
              some (.inr (.inr ([], at_19, 3)))
          else
            some (.inr (.inr ([], at_19, 3)))
      else
        bif r34.2 then
          bif (decide ((script_18.length : Int) > 0)) then
            (idx script_18 ((script_18.length : Int) - 1)).bind fun x128 =>
            (show Option ((List (State))) from
              (app x128.Rules ([r34.1] : List (Rule))).bind fun l155 =>
              some (script_18.set ((script_18.length : Int) - 1).toNat (State.mk x128.Name l155))).bind fun o134 =>
            some (.inl (r27.2.1, o134, (IntKind.wrap .i64 (at_19 + 1))))
          else
            some (.inr (.inr ([], at_19, 3)))
        else
          some (.inr (.inr ([], at_19, 3)))
  else
    some (.inr (.inl script_18))
def scan_Parse (N : Nat) (s_0 : List UInt8) : Option ((List (State)) × Int × Int) :=
  (iter (fun s => scan_Parse_b1 N s.1 s.2.1 s.2.2) N (s_0, [], 0)).bind fun o10 =>
  Sum.elim (fun o10 =>
    (scan_Valid N o10).bind fun r204 =>
    bif (!r204) then
      some ([], 0, 1)
    else
      some (o10, 0, 0))
  (fun o10 =>
    some o10) o10

def scan_class_1 (_N : Nat) (r_0 : Range) (x0 : Int) : Option Bool :=
  bif (decide ((IntKind.wrap .u8 x0) ≥ r_0.From)) then
    some (decide ((IntKind.wrap .u8 x0) ≤ r_0.To))
  else
    some false

def slices_IndexFunc_scan_Range_scan_Range__76_b1 (N : Nat) (s_0 : List (Range)) (x0 : Int) (x_5 : Int) : Option (Int ⊕ ((Unit ⊕ Int))) :=
  bif (decide (x_5 < (s_0.length : Int))) then
    (idx s_0 x_5).bind fun x8 =>
    (scan_class_1 N x8 x0).bind fun r19 =>
    bif r19 then
      some (.inr (.inr x_5))
    else
      some (.inl (x_5 + 1))
  else
    some (.inr (.inl ()))
def slices_IndexFunc_scan_Range_scan_Range__76 (N : Nat) (s_0 : List (Range)) (x0 : Int) : Option Int :=
  (iter (fun s => slices_IndexFunc_scan_Range_scan_Range__76_b1 N s_0 x0 s) N 0).bind fun o3 =>
  Sum.elim (fun _o3 =>
    some (-1))
  (fun o3 =>
    some o3) o3

def slices_ContainsFunc_scan_Range_scan_Range__76 (N : Nat) (s_0 : List (Range)) (x0 : Int) : Option Bool :=
  (slices_IndexFunc_scan_Range_scan_Range__76 N s_0 x0).bind fun r2 =>
  some (decide (r2 ≥ 0))

def scan_class_b1 (N : Nat) (x_0 : Item) (x_14 : Int) (x_15 : List Bool) : Option ((Int × (List Bool)) ⊕ (((List Bool)))) :=
  bif (decide (x_14 < 256)) then
    (show Option ((List Bool)) from
      (slices_ContainsFunc_scan_Range_scan_Range__76 N x_0.Ranges x_14).bind fun r22 =>
      (idx x_15 x_14).bind fun _x24 =>
      (setI x_15 x_14 (x_0.Not != r22)).bind fun z26 =>
      some z26).bind fun o20 =>
    some (.inl ((x_14 + 1), o20))
  else
    some (.inr x_15)
def scan_class (N : Nat) (x_0 : Item) : Option (Option (List Bool)) :=
  (iter (fun s => scan_class_b1 N x_0 s.1 s.2) N (0, (List.replicate 256 false))).bind fun o11 =>
  some (some o11)

def scan_classes_b1 (N : Nat) (items_0 : List (Item)) (x_17 : Int) (out_18 : List (Option (List Bool))) : Option ((Int × (List (Option (List Bool)))) ⊕ (((List (Option (List Bool)))))) :=
  bif (decide (x_17 < (items_0.length : Int))) then
    (idx items_0 x_17).bind fun x25 =>
    bif (x25.Text == ([])) then
      (scan_class N x25).bind fun r41 =>
      (idx out_18 x_17).bind fun _x46 =>
      (setI out_18 x_17 r41).bind fun l52 =>
      some (.inl ((x_17 + 1), l52))
    else
      some (.inl ((x_17 + 1), out_18))
  else
    some (.inr out_18)
def scan_classes (N : Nat) (items_0 : List (Item)) : Option (List (Option (List Bool))) :=
  (mk (items_0.length : Int) (none : Option (List Bool))).bind fun l1 =>
  (iter (fun s => scan_classes_b1 N items_0 s.1 s.2) N (0, l1)).bind fun o11 =>
  some o11

def scan_lexerOf_b2 (N : Nat) (x49 : State) (row_98 : List (List (Option (List Bool)))) (x_99 : Int) : Option (((List (List (Option (List Bool)))) × Int) ⊕ (((List (List (Option (List Bool))))))) :=
  bif (decide (x_99 < (x49.Rules.length : Int))) then
    (idx x49.Rules x_99).bind fun x106 =>
    (scan_classes N x106.Items).bind fun r120 =>
    (app row_98 ([r120] : List (List (Option (List Bool))))).bind fun l128 =>
    some (.inl (l128, (x_99 + 1)))
  else
    some (.inr row_98)

def scan_lexerOf_b1 (N : Nat) (s_0 : List (State)) (x_36 : Int) (x_37 : Lexer) : Option ((Int × Lexer) ⊕ Lexer) :=
  bif (decide (x_36 < (s_0.length : Int))) then
    (idx s_0 x_36).bind fun x49 =>
    (show Option Lexer from
      (mset x_37.states x49.Name x_36).bind fun l71 =>
      some (Lexer.mk x_37.script x_37.bits l71)).bind fun o62 =>
    (iter (fun s => scan_lexerOf_b2 N x49 s.1 s.2) N ([], 0)).bind fun o92 =>
    (app o62.bits ([o92] : List (List (List (Option (List Bool)))))).bind fun l142 =>
    some (.inl ((x_36 + 1), (Lexer.mk o62.script l142 o62.states)))
  else
    some (.inr x_37)
def scan_lexerOf (N : Nat) (s_0 : List (State)) : Option Lexer :=
  (iter (fun s => scan_lexerOf_b1 N s_0 s.1 s.2) N (0, (Lexer.mk s_0 ([]) ([] : List (List UInt8 × Int))))).bind fun o25 =>
  some o25

def scan_take_b1 (N : Nat) (x_0 : Item) (bits_1 : Option (List Bool)) (s_2 : List UInt8) (n_12 : Int) (count_13 : Int) : Option ((Int × Int) ⊕ (((Int × Int) ⊕ (Int × Bool)))) :=
  bif (decide (x_0.Most < 0)) then
    bif (x_0.Text != ([])) then
      (slc s_2 n_12 (s_2.length : Int)).bind fun s18 =>
      (strings_HasPrefix N s18 x_0.Text).bind fun r20 =>
      bif r20 then
        some (.inl ((IntKind.wrap .i64 (n_12 + (x_0.Text.length : Int))), (IntKind.wrap .i64 (count_13 + 1))))
      else
        bif (x_0.Text == ([])) then
          bif (decide (n_12 < (s_2.length : Int))) then
            (idx s_2 n_12).bind fun c25 =>
            (bits_1).bind fun y27 =>
            (idx y27 (c25.toNat : Int)).bind fun x37 =>
            bif x37 then
              some (.inl ((n_12 + 1), (IntKind.wrap .i64 (count_13 + 1))))
            else
              some (.inr (.inr (n_12, (decide (count_13 ≥ x_0.Least)))))
          else
            some (.inr (.inr (n_12, (decide (count_13 ≥ x_0.Least)))))
        else
          some (.inr (.inr (n_12, (decide (count_13 ≥ x_0.Least)))))
    else
      bif (x_0.Text == ([])) then
        bif (decide (n_12 < (s_2.length : Int))) then
          (idx s_2 n_12).bind fun c42 =>
          (bits_1).bind fun y44 =>
          (idx y44 (c42.toNat : Int)).bind fun x54 =>
          bif x54 then
            some (.inl ((n_12 + 1), (IntKind.wrap .i64 (count_13 + 1))))
          else
            some (.inr (.inr (n_12, (decide (count_13 ≥ x_0.Least)))))
        else
          some (.inr (.inr (n_12, (decide (count_13 ≥ x_0.Least)))))
      else
        some (.inr (.inr (n_12, (decide (count_13 ≥ x_0.Least)))))
  else
    bif (decide (count_13 < x_0.Most)) then
      bif (x_0.Text != ([])) then
        (slc s_2 n_12 (s_2.length : Int)).bind fun s59 =>
        (strings_HasPrefix N s59 x_0.Text).bind fun r61 =>
        bif r61 then
          some (.inl ((IntKind.wrap .i64 (n_12 + (x_0.Text.length : Int))), (count_13 + 1)))
        else
          bif (x_0.Text == ([])) then
            bif (decide (n_12 < (s_2.length : Int))) then
              (idx s_2 n_12).bind fun c66 =>
              (bits_1).bind fun y68 =>
              (idx y68 (c66.toNat : Int)).bind fun x78 =>
              bif x78 then
                some (.inl ((n_12 + 1), (count_13 + 1)))
              else
                some (.inr (.inr (n_12, (decide (count_13 ≥ x_0.Least)))))
            else
              some (.inr (.inr (n_12, (decide (count_13 ≥ x_0.Least)))))
          else
            some (.inr (.inr (n_12, (decide (count_13 ≥ x_0.Least)))))
      else
        bif (x_0.Text == ([])) then
          bif (decide (n_12 < (s_2.length : Int))) then
            (idx s_2 n_12).bind fun c83 =>
            (bits_1).bind fun y85 =>
            (idx y85 (c83.toNat : Int)).bind fun x95 =>
            bif x95 then
              some (.inl ((n_12 + 1), (count_13 + 1)))
            else
              some (.inr (.inr (n_12, (decide (count_13 ≥ x_0.Least)))))
          else
            some (.inr (.inr (n_12, (decide (count_13 ≥ x_0.Least)))))
        else
          some (.inr (.inr (n_12, (decide (count_13 ≥ x_0.Least)))))
    else
      some (.inr (.inl (n_12, count_13)))
def scan_take (N : Nat) (x_0 : Item) (bits_1 : Option (List Bool)) (s_2 : List UInt8) : Option (Int × Bool) :=
  (iter (fun s => scan_take_b1 N x_0 bits_1 s_2 s.1 s.2) N (0, 0)).bind fun o9 =>
  Sum.elim (fun o9 =>
    some (o9.1, (decide (o9.2 ≥ x_0.Least))))
  (fun o9 =>
    some o9) o9

def scan_match_b1 (N : Nat) (items_0 : List (Item)) (bits_1 : List (Option (List Bool))) (s_2 : List UInt8) (n_6 : Int) (x_7 : Int) : Option ((Int × Int) ⊕ ((Int ⊕ (Int × Bool)))) :=
  bif (decide (x_7 < (items_0.length : Int))) then
    (idx items_0 x_7).bind fun x11 =>
    (idx bits_1 x_7).bind fun x26 =>
    (slc s_2 n_6 (s_2.length : Int)).bind fun s37 =>
    (scan_take N x11 x26 s37).bind fun r39 =>
    bif (!r39.2) then
      some (.inr (.inr (0, false)))
    else
      some (.inl ((IntKind.wrap .i64 (n_6 + r39.1)), (x_7 + 1)))
  else
    some (.inr (.inl n_6))
def scan_match (N : Nat) (items_0 : List (Item)) (bits_1 : List (Option (List Bool))) (s_2 : List UInt8) : Option (Int × Bool) :=
  (iter (fun s => scan_match_b1 N items_0 bits_1 s_2 s.1 s.2) N (0, 0)).bind fun o3 =>
  Sum.elim (fun o3 =>
    some (o3, true))
  (fun o3 =>
    some o3) o3

def scan_lexer_step_b1 (N : Nat) (s_2 : List UInt8) (at_3 : Int) (x0 : Lexer) (x10 : State) (state_27 : Int) (x_28 : Int) : Option ((Int × Int) ⊕ ((Unit ⊕ (Token × Int × Bool)))) :=
  bif (decide (x_28 < (x10.Rules.length : Int))) then
    (idx x10.Rules x_28).bind fun x32 =>
    (idx x0.bits state_27).bind fun x46 =>
    (idx x46 x_28).bind fun x58 =>
    (slc s_2 at_3 (s_2.length : Int)).bind fun s69 =>
    (scan_match N x32.Items x58 s69).bind fun r71 =>
    bif (!r71.2) then
      some (.inl (state_27, (x_28 + 1)))
    else
      bif (r71.1 == 0) then
        some (.inl (state_27, (x_28 + 1)))
      else
        (show Option Int from
          bif (x32.Next != ([])) then
            some ((mget x0.states x32.Next).getD 0)
          else
            some state_27).bind fun o76 =>
        (show Option (Int × Token) from
          (slc s_2 at_3 (IntKind.wrap .i64 (at_3 + r71.1))).bind fun s90 =>
          some (o76, (Token.mk x32.Kind s90 at_3))).bind fun o85 =>
        some (.inr (.inr (o85.2, o85.1, true)))
  else
    some (.inr (.inl ()))
def scan_lexer_step (N : Nat) (state_1 : Int) (s_2 : List UInt8) (at_3 : Int) (x0 : Lexer) : Option (Token × Int × Bool) :=
  (idx x0.script state_1).bind fun x10 =>
  (iter (fun s => scan_lexer_step_b1 N s_2 at_3 x0 x10 s.1 s.2) N (state_1, 0)).bind fun o24 =>
  Sum.elim (fun _o24 =>
    some ((Token.mk ([]) ([]) 0), 0, false))
  (fun o24 =>
    some o24) o24

def scan_Tokens_b1 (N : Nat) (s_1 : List UInt8) (r5 : Lexer) (l_33 : List (Token)) (at_34 : Int) (state_35 : Int) : Option (((List (Token)) × Int × Int) ⊕ ((((List (Token))) ⊕ ((List (Token)) × Int × Int)))) :=
  bif (decide (at_34 < (s_1.length : Int))) then
    (scan_lexer_step N state_35 s_1 at_34 r5).bind fun r43 =>
    bif (!r43.2.2) then
      some (.inr (.inr ([], at_34, 3)))
    else
      (app l_33 ([r43.1] : List (Token))).bind fun l57 =>
      some (.inl (l57, (IntKind.wrap .i64 (at_34 + (r43.1.Text.length : Int))), r43.2.1))
  else
    some (.inr (.inl l_33))
def scan_Tokens (N : Nat) (script_0 : List (State)) (s_1 : List UInt8) : Option ((List (Token)) × Int × Int) :=
  (scan_Valid N script_0).bind fun r1 =>
  bif (!r1) then
    some ([], 0, 1)
  else
    bif (decide ((s_1.length : Int) > 200000)) then
      some ([], 200000, 6)
    else
      (scan_lexerOf N script_0).bind fun r5 =>
      (iter (fun s => scan_Tokens_b1 N s_1 r5 s.1 s.2.1 s.2.2) N ([], 0, 0)).bind fun o26 =>
      Sum.elim (fun o26 =>
        some (o26, 0, 0))
      (fun o26 =>
        some o26) o26

def calquelaw44_awake (N : Nat) : Option Bool :=
  (scan_Parse N ([115, 116, 97, 116, 101, 32, 109, 97, 105, 110, 10, 115, 107, 105, 112, 32, 91, 92, 120, 50, 48, 92, 120, 48, 97, 93, 43, 10, 110, 97, 109, 101, 32, 91, 97, 45, 122, 93, 43, 10, 115, 116, 114, 105, 110, 103, 32, 34, 92, 34, 34, 32, 91, 94, 34, 93, 42, 32, 34, 92, 34, 34, 10])).bind fun r1 =>
  (scan_Tokens N r1.1 ([97, 98, 32, 34, 120, 34])).bind fun r8 =>
  (scan_Print N r1.1).bind fun r15 =>
  bif (r1.2.2 == 0) then
    bif (r8.2.2 == 0) then
      bif (r15.2 == 0) then
        bif (r15.1 == ([115, 116, 97, 116, 101, 32, 109, 97, 105, 110, 10, 115, 107, 105, 112, 32, 91, 92, 120, 50, 48, 92, 120, 48, 97, 93, 43, 10, 110, 97, 109, 101, 32, 91, 97, 45, 122, 93, 43, 10, 115, 116, 114, 105, 110, 103, 32, 34, 92, 34, 34, 32, 91, 94, 34, 93, 42, 32, 34, 92, 34, 34, 10])) then
          bif ((r8.1.length : Int) == 3) then
            (idx r8.1 2).bind fun x24 =>
            bif (x24.Kind == ([115, 116, 114, 105, 110, 103])) then
              (idx r8.1 2).bind fun x37 =>
              bif (x37.Text == ([34, 120, 34])) then
                (idx r8.1 2).bind fun x50 =>
                some (x50.From == 3)
              else
                some false
            else
              some false
          else
            some false
        else
          some false
      else
        some false
    else
      some false
  else
    some false

end Go.Proofs.Ytmmioinglmeoiaa
