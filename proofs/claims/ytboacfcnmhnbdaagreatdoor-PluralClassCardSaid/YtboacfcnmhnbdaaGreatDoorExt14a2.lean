/- The functions of this part as plain Lean functions, printed by gen8.py. -/
import Derived.Test.YtboacfcnmhnbdaaGreatDoorExt14a1
import Derived.Test.YtboacfcnmhnbdaaGreatDoorLibSA
set_option linter.unusedVariables false
namespace Go.Proofs.YtboacfcnmhnbdaaGreatDoor
open Go.X

def plural_Class_b1 (N : Nat) (l_0 : List (Rule)) (number_1 : List UInt8) (x_29 : Int) : Option (Int ⊕ ((Unit ⊕ ((List UInt8) × Int)))) :=
  bif (decide (x_29 < (l_0.length : Int))) then
    (idx l_0 x_29).bind fun x32 =>
    (condition_Holds N x32.Cond number_1).bind fun r45 =>
    bif (r45.2 != 0) then
      some (.inr (.inr ([], r45.2)))
    else
      bif r45.1 then
        some (.inr (.inr (x32.Class, 0)))
      else
        some (.inl (x_29 + 1))
  else
    some (.inr (.inl ()))
def plural_Class (N : Nat) (l_0 : List (Rule)) (number_1 : List UInt8) : Option ((List UInt8) × Int) :=
  (plural_Valid N l_0).bind fun r1 =>
  bif (!r1) then
    some ([], 1)
  else
    (condition_Holds N ([([(Relation.mk 2 0 true ([(Span.mk 0 0)] : List (Span)))] : List (Relation))] : List (List (Relation))) number_1).bind fun r22 =>
    bif (r22.2 != 0) then
      some ([], 1)
    else
      (iter (fun s => plural_Class_b1 N l_0 number_1 s) N 0).bind fun o27 =>
      Sum.elim (fun _o27 =>
        some ([111, 116, 104, 101, 114], 0))
      (fun o27 =>
        some o27) o27

def condition_parser_skip_b1 (N : Nat) (x_18 : Parser) : Option (Parser ⊕ Parser) :=
  bif (decide (x_18.at_ < (x_18.s.length : Int))) then
    (idx x_18.s x_18.at_).bind fun c24 =>
    (strings_IndexByte N ([32, 9, 10]) (c24.toNat : Int)).bind fun r26 =>
    bif (decide (r26 ≥ 0)) then
      some (.inl (Parser.mk x_18.s (x_18.at_ + 1) x_18.relations x_18.e))
    else
      some (.inr x_18)
  else
    some (.inr x_18)
def condition_parser_skip (N : Nat) (x0 : Parser) : Option Parser :=
  (iter (fun s => condition_parser_skip_b1 N s) N x0).bind fun o13 =>
  some o13

def condition_letter (_N : Nat) (c_0 : Int) : Option Bool :=
  bif (decide (c_0 ≥ 97)) then
    some (decide (c_0 ≤ 122))
  else
    some false

def condition_run__122_b1 (N : Nat) (s_0 : List UInt8) (n_4 : Int) : Option (Int ⊕ Int) :=
  bif (decide (n_4 < (s_0.length : Int))) then
    (idx s_0 n_4).bind fun c7 =>
    (condition_letter N (c7.toNat : Int)).bind fun r9 =>
    bif r9 then
      some (.inl (n_4 + 1))
    else
      some (.inr n_4)
  else
    some (.inr n_4)
def condition_run__122 (N : Nat) (s_0 : List UInt8) : Option (List UInt8) :=
  (iter (fun s => condition_run__122_b1 N s_0 s) N 0).bind fun o2 =>
  (slc s_0 0 o2).bind fun s13 =>
  some s13

def condition_digit (_N : Nat) (c_0 : Int) : Option Bool :=
  bif (decide (c_0 ≥ 48)) then
    some (decide (c_0 ≤ 57))
  else
    some false

def condition_run__124_b1 (N : Nat) (s_0 : List UInt8) (n_4 : Int) : Option (Int ⊕ Int) :=
  bif (decide (n_4 < (s_0.length : Int))) then
    (idx s_0 n_4).bind fun c7 =>
    (condition_digit N (c7.toNat : Int)).bind fun r9 =>
    bif r9 then
      some (.inl (n_4 + 1))
    else
      some (.inr n_4)
  else
    some (.inr n_4)
def condition_run__124 (N : Nat) (s_0 : List UInt8) : Option (List UInt8) :=
  (iter (fun s => condition_run__124_b1 N s_0 s) N 0).bind fun o2 =>
  (slc s_0 0 o2).bind fun s13 =>
  some s13

def condition_parser_peek_b1 (N : Nat) (r9 : Parser) (s15 : List UInt8) (x_40 : Int) : Option (Int ⊕ ((Unit ⊕ ((List UInt8) × Parser)))) :=
  bif (decide (x_40 < (([[46, 46], [33, 61], [37], [61], [44]] : List (List UInt8)).length : Int))) then
    (idx ([[46, 46], [33, 61], [37], [61], [44]] : List (List UInt8)) x_40).bind fun x43 =>
    (strings_HasPrefix N s15 x43).bind fun r54 =>
    bif r54 then
      some (.inr (.inr (x43, r9)))
    else
      some (.inl (x_40 + 1))
  else
    some (.inr (.inl ()))
def condition_parser_peek (N : Nat) (x0 : Parser) : Option ((List UInt8) × Parser) :=
  (condition_parser_skip N x0).bind fun r9 =>
  (slc r9.s r9.at_ (r9.s.length : Int)).bind fun s15 =>
  bif (s15 == ([])) then
    some ([], r9)
  else
    (idx s15 0).bind fun c18 =>
    (condition_letter N (c18.toNat : Int)).bind fun r20 =>
    bif r20 then
      (condition_run__122 N s15).bind fun r23 =>
      some (r23, r9)
    else
      (idx s15 0).bind fun c26 =>
      (condition_digit N (c26.toNat : Int)).bind fun r28 =>
      bif r28 then
        (condition_run__124 N s15).bind fun r31 =>
        some (r31, r9)
      else
        (iter (fun s => condition_parser_peek_b1 N r9 s15 s) N 0).bind fun o38 =>
        Sum.elim (fun _o38 =>
          some ([], r9))
        (fun o38 =>
          some o38) o38

def condition_parser_next (N : Nat) (t_1 : List UInt8) (x0 : Parser) : Option (Bool × Parser) :=
  bif (x0.e != 0) then
    some (false, x0)
  else
    (condition_parser_peek N x0).bind fun r10 =>
    bif (r10.1 != t_1) then
      some (false, r10.2)
    else
      some (true, (Parser.mk r10.2.s (IntKind.wrap .i64 (r10.2.at_ + (t_1.length : Int))) r10.2.relations r10.2.e))

def condition_parser_fail (_N : Nat) (e_1 : Int) (x0 : Parser) : Option Parser :=
  bif (x0.e == 0) then
    some (Parser.mk x0.s x0.at_ x0.relations e_1)
  else
    some x0

def condition_parser_take (N : Nat) (l_1 : List (List UInt8)) (x0 : Parser) : Option ((List UInt8) × Parser) :=
  (condition_parser_peek N x0).bind fun r9 =>
  bif (r9.2.e == 0) then
    (slices_Contains_string_string N l_1 r9.1).bind fun r17 =>
    (show Option Parser from
      bif (!r17) then
        (condition_parser_fail N 3 r9.2).bind fun r25 =>
        some r25
      else
        some r9.2).bind fun o19 =>
    bif (o19.e != 0) then
      some ([], o19)
    else
      some (r9.1, (Parser.mk o19.s (IntKind.wrap .i64 (o19.at_ + (r9.1.length : Int))) o19.relations o19.e))
  else
    bif (r9.2.e != 0) then
      some ([], r9.2)
    else
      some (r9.1, (Parser.mk r9.2.s (IntKind.wrap .i64 (r9.2.at_ + (r9.1.length : Int))) r9.2.relations r9.2.e))

def condition_parser_relation_1 (N : Nat) (n_0 : Int) (x0 : Int) : Option Int :=
  (condition_permitted N x0 n_0).bind fun r2 =>
  bif (!r2) then
    some 2
  else
    some 0

def condition_parser_number__98 (N : Nat) (x0 : Parser) (x1 : Int) : Option (Int × Parser) :=
  (condition_parser_peek N x0).bind fun r10 =>
  bif (r10.1 == ([])) then
    (condition_parser_fail N 3 r10.2).bind fun r18 =>
    bif (r18.e != 0) then
      some (0, r18)
    else
      (strconv_Atoi N r10.1).bind fun r25 =>
      (condition_parser_relation_1 N r25.1 x1).bind fun r28 =>
      bif (r28 != 0) then
        (condition_parser_fail N r28 r18).bind fun r32 =>
        some (0, r32)
      else
        some (r25.1, (Parser.mk r18.s (IntKind.wrap .i64 (r18.at_ + (r10.1.length : Int))) r18.relations r18.e))
  else
    (idx r10.1 0).bind fun c38 =>
    (condition_digit N (c38.toNat : Int)).bind fun r40 =>
    bif (!r40) then
      (condition_parser_fail N 3 r10.2).bind fun r43 =>
      bif (r43.e != 0) then
        some (0, r43)
      else
        (strconv_Atoi N r10.1).bind fun r50 =>
        (condition_parser_relation_1 N r50.1 x1).bind fun r53 =>
        bif (r53 != 0) then
          (condition_parser_fail N r53 r43).bind fun r57 =>
          some (0, r57)
        else
          some (r50.1, (Parser.mk r43.s (IntKind.wrap .i64 (r43.at_ + (r10.1.length : Int))) r43.relations r43.e))
    else
      bif (decide ((r10.1.length : Int) > 3)) then
        (condition_parser_fail N 3 r10.2).bind fun r64 =>
        bif (r64.e != 0) then
          some (0, r64)
        else
          (strconv_Atoi N r10.1).bind fun r71 =>
          (condition_parser_relation_1 N r71.1 x1).bind fun r74 =>
          bif (r74 != 0) then
            (condition_parser_fail N r74 r64).bind fun r78 =>
            some (0, r78)
          else
            some (r71.1, (Parser.mk r64.s (IntKind.wrap .i64 (r64.at_ + (r10.1.length : Int))) r64.relations r64.e))
      else
        bif (decide ((r10.1.length : Int) > 1)) then
          (idx r10.1 0).bind fun c85 =>
          (show Option Parser from
            bif ((c85.toNat : Int) == 48) then
              (condition_parser_fail N 3 r10.2).bind fun r93 =>
              some r93
            else
              some r10.2).bind fun o87 =>
          bif (o87.e != 0) then
            some (0, o87)
          else
            (strconv_Atoi N r10.1).bind fun r104 =>
            (condition_parser_relation_1 N r104.1 x1).bind fun r107 =>
            bif (r107 != 0) then
              (condition_parser_fail N r107 o87).bind fun r111 =>
              some (0, r111)
            else
              some (r104.1, (Parser.mk o87.s (IntKind.wrap .i64 (o87.at_ + (r10.1.length : Int))) o87.relations o87.e))
        else
          bif (r10.2.e != 0) then
            some (0, r10.2)
          else
            (strconv_Atoi N r10.1).bind fun r118 =>
            (condition_parser_relation_1 N r118.1 x1).bind fun r121 =>
            bif (r121 != 0) then
              (condition_parser_fail N r121 r10.2).bind fun r125 =>
              some (0, r125)
            else
              some (r118.1, (Parser.mk r10.2.s (IntKind.wrap .i64 (r10.2.at_ + (r10.1.length : Int))) r10.2.relations r10.2.e))

def condition_parser_span_1 (N : Nat) (n_0 : Int) (x0 : Int) (x1 : Int) : Option Int :=
  (condition_greatest N x0).bind fun r3 =>
  bif (decide (n_0 > r3)) then
    some 2
  else
    bif (decide (x1 ≥ 4)) then
      some 6
    else
      some 0

def condition_parser_number__128 (N : Nat) (x0 : Parser) (x1 : Int) (x2 : Int) : Option (Int × Parser) :=
  (condition_parser_peek N x0).bind fun r11 =>
  bif (r11.1 == ([])) then
    (condition_parser_fail N 3 r11.2).bind fun r19 =>
    bif (r19.e != 0) then
      some (0, r19)
    else
      (strconv_Atoi N r11.1).bind fun r26 =>
      (condition_parser_span_1 N r26.1 x1 x2).bind fun r29 =>
      bif (r29 != 0) then
        (condition_parser_fail N r29 r19).bind fun r33 =>
        some (0, r33)
      else
        some (r26.1, (Parser.mk r19.s (IntKind.wrap .i64 (r19.at_ + (r11.1.length : Int))) r19.relations r19.e))
  else
    (idx r11.1 0).bind fun c39 =>
    (condition_digit N (c39.toNat : Int)).bind fun r41 =>
    bif (!r41) then
      (condition_parser_fail N 3 r11.2).bind fun r44 =>
      bif (r44.e != 0) then
        some (0, r44)
      else
        (strconv_Atoi N r11.1).bind fun r51 =>
        (condition_parser_span_1 N r51.1 x1 x2).bind fun r54 =>
        bif (r54 != 0) then
          (condition_parser_fail N r54 r44).bind fun r58 =>
          some (0, r58)
        else
          some (r51.1, (Parser.mk r44.s (IntKind.wrap .i64 (r44.at_ + (r11.1.length : Int))) r44.relations r44.e))
    else
      bif (decide ((r11.1.length : Int) > 3)) then
        (condition_parser_fail N 3 r11.2).bind fun r65 =>
        bif (r65.e != 0) then
          some (0, r65)
        else
          (strconv_Atoi N r11.1).bind fun r72 =>
          (condition_parser_span_1 N r72.1 x1 x2).bind fun r75 =>
          bif (r75 != 0) then
            (condition_parser_fail N r75 r65).bind fun r79 =>
            some (0, r79)
          else
            some (r72.1, (Parser.mk r65.s (IntKind.wrap .i64 (r65.at_ + (r11.1.length : Int))) r65.relations r65.e))
      else
        bif (decide ((r11.1.length : Int) > 1)) then
          (idx r11.1 0).bind fun c86 =>
          (show Option Parser from
            bif ((c86.toNat : Int) == 48) then
              (condition_parser_fail N 3 r11.2).bind fun r94 =>
              some r94
            else
              some r11.2).bind fun o88 =>
          bif (o88.e != 0) then
            some (0, o88)
          else
            (strconv_Atoi N r11.1).bind fun r105 =>
            (condition_parser_span_1 N r105.1 x1 x2).bind fun r108 =>
            bif (r108 != 0) then
              (condition_parser_fail N r108 o88).bind fun r112 =>
              some (0, r112)
            else
              some (r105.1, (Parser.mk o88.s (IntKind.wrap .i64 (o88.at_ + (r11.1.length : Int))) o88.relations o88.e))
        else
          bif (r11.2.e != 0) then
            some (0, r11.2)
          else
            (strconv_Atoi N r11.1).bind fun r119 =>
            (condition_parser_span_1 N r119.1 x1 x2).bind fun r122 =>
            bif (r122 != 0) then
              (condition_parser_fail N r122 r11.2).bind fun r126 =>
              some (0, r126)
            else
              some (r119.1, (Parser.mk r11.2.s (IntKind.wrap .i64 (r11.2.at_ + (r11.1.length : Int))) r11.2.relations r11.2.e))

def condition_parser_span_2 (N : Nat) (n_0 : Int) (x0 : Int) (x1 : Span) : Option Int :=
  (condition_greatest N x0).bind fun r4 =>
  bif (decide (n_0 > r4)) then
    some 2
  else
    bif (decide (n_0 < x1.From)) then
      some 2
    else
      some 0

def condition_parser_number__129 (N : Nat) (x0 : Parser) (x1 : Int) (x2 : Span) : Option (Int × Parser) :=
  (condition_parser_peek N x0).bind fun r12 =>
  bif (r12.1 == ([])) then
    (condition_parser_fail N 3 r12.2).bind fun r20 =>
    bif (r20.e != 0) then
      some (0, r20)
    else
      (strconv_Atoi N r12.1).bind fun r27 =>
      (condition_parser_span_2 N r27.1 x1 x2).bind fun r30 =>
      bif (r30 != 0) then
        (condition_parser_fail N r30 r20).bind fun r34 =>
        some (0, r34)
      else
        some (r27.1, (Parser.mk r20.s (IntKind.wrap .i64 (r20.at_ + (r12.1.length : Int))) r20.relations r20.e))
  else
    (idx r12.1 0).bind fun c40 =>
    (condition_digit N (c40.toNat : Int)).bind fun r42 =>
    bif (!r42) then
      (condition_parser_fail N 3 r12.2).bind fun r45 =>
      bif (r45.e != 0) then
        some (0, r45)
      else
        (strconv_Atoi N r12.1).bind fun r52 =>
        (condition_parser_span_2 N r52.1 x1 x2).bind fun r55 =>
        bif (r55 != 0) then
          (condition_parser_fail N r55 r45).bind fun r59 =>
          some (0, r59)
        else
          some (r52.1, (Parser.mk r45.s (IntKind.wrap .i64 (r45.at_ + (r12.1.length : Int))) r45.relations r45.e))
    else
      bif (decide ((r12.1.length : Int) > 3)) then
        (condition_parser_fail N 3 r12.2).bind fun r66 =>
        bif (r66.e != 0) then
          some (0, r66)
        else
          (strconv_Atoi N r12.1).bind fun r73 =>
          (condition_parser_span_2 N r73.1 x1 x2).bind fun r76 =>
          bif (r76 != 0) then
            (condition_parser_fail N r76 r66).bind fun r80 =>
            some (0, r80)
          else
            some (r73.1, (Parser.mk r66.s (IntKind.wrap .i64 (r66.at_ + (r12.1.length : Int))) r66.relations r66.e))
      else
        bif (decide ((r12.1.length : Int) > 1)) then
          (idx r12.1 0).bind fun c87 =>
          (show Option Parser from
            bif ((c87.toNat : Int) == 48) then
              (condition_parser_fail N 3 r12.2).bind fun r95 =>
              some r95
            else
              some r12.2).bind fun o89 =>
          bif (o89.e != 0) then
            some (0, o89)
          else
            (strconv_Atoi N r12.1).bind fun r106 =>
            (condition_parser_span_2 N r106.1 x1 x2).bind fun r109 =>
            bif (r109 != 0) then
              (condition_parser_fail N r109 o89).bind fun r113 =>
              some (0, r113)
            else
              some (r106.1, (Parser.mk o89.s (IntKind.wrap .i64 (o89.at_ + (r12.1.length : Int))) o89.relations o89.e))
        else
          bif (r12.2.e != 0) then
            some (0, r12.2)
          else
            (strconv_Atoi N r12.1).bind fun r120 =>
            (condition_parser_span_2 N r120.1 x1 x2).bind fun r123 =>
            bif (r123 != 0) then
              (condition_parser_fail N r123 r12.2).bind fun r127 =>
              some (0, r127)
            else
              some (r120.1, (Parser.mk r12.2.s (IntKind.wrap .i64 (r12.2.at_ + (r12.1.length : Int))) r12.2.relations r12.2.e))

def condition_parser_span (N : Nat) (operand_1 : Int) (count_2 : Int) (x0 : Parser) : Option (Span × Parser) :=
  (condition_parser_number__128 N x0 operand_1 count_2).bind fun r12 =>
  (condition_parser_next N ([46, 46]) r12.2).bind fun r20 =>
  bif r20.1 then
    (condition_parser_number__129 N r20.2 operand_1 (Span.mk r12.1 r12.1)).bind fun r27 =>
    some ((Span.mk r12.1 r27.1), r27.2)
  else
    some ((Span.mk r12.1 r12.1), r20.2)

end Go.Proofs.YtboacfcnmhnbdaaGreatDoor
