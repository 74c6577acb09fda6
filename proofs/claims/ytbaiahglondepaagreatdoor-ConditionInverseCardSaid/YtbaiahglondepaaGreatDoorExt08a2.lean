/- The functions of this part as plain Lean functions, printed by gen8.py. -/
import Derived.Test.YtbaiahglondepaaGreatDoorExt08a1
import Derived.Test.YtbaiahglondepaaGreatDoorLibQ
set_option linter.unusedVariables false
namespace Go.Proofs.YtbaiahglondepaaGreatDoor
open Go.X

def condition_parser_relation_b1 (N : Nat) (r17 : Int) (more_118 : Bool) (x_119 : Parser) (x_120 : Relation) : Option ((Bool × Parser × Relation) ⊕ ((Relation × Parser))) :=
  bif more_118 then
    bif (x_119.e == 0) then
      (show Option (Parser × Relation) from
        (condition_parser_span N r17 (x_120.Spans.length : Int) x_119).bind fun r144 =>
        (app x_120.Spans ([r144.1] : List (Span))).bind fun l158 =>
        some (r144.2, (Relation.mk x_120.Operand x_120.Mod x_120.Not l158))).bind fun o133 =>
      (condition_parser_next N ([44]) o133.1).bind fun r188 =>
      some (.inl (r188.1, r188.2, o133.2))
    else
      some (.inr (x_120, x_119))
  else
    some (.inr (x_120, x_119))

def condition_parser_relation_b2 (N : Nat) (r17 : Int) (more_322 : Bool) (x_323 : Parser) (x_324 : Relation) : Option ((Bool × Parser × Relation) ⊕ ((Parser × Relation))) :=
  bif more_322 then
    bif (x_323.e == 0) then
      (show Option (Parser × Relation) from
        (condition_parser_span N r17 (x_324.Spans.length : Int) x_323).bind fun r348 =>
        (app x_324.Spans ([r348.1] : List (Span))).bind fun l362 =>
        some (r348.2, (Relation.mk x_324.Operand x_324.Mod x_324.Not l362))).bind fun o337 =>
      (condition_parser_next N ([44]) o337.1).bind fun r392 =>
      some (.inl (r392.1, r392.2, o337.2))
    else
      some (.inr (x_323, x_324))
  else
    some (.inr (x_323, x_324))
def condition_parser_relation (N : Nat) (x0 : Parser) : Option (Relation × Parser) :=
  (condition_parser_peek N x0).bind fun r10 =>
  (strings_Index N ([32, 110, 105, 118, 119, 102, 116]) r10.1).bind fun r17 =>
  bif ((r10.1.length : Int) != 1) then
    (condition_parser_fail N 3 r10.2).bind fun r22 =>
    (show Option Parser from
      bif (decide ((IntKind.wrap .i64 (r22.relations + 1)) > 6)) then
        (condition_parser_fail N 6 (Parser.mk r22.s r22.at_ (IntKind.wrap .i64 (r22.relations + 1)) r22.e)).bind fun r34 =>
        some r34
      else
        some (Parser.mk r22.s r22.at_ (IntKind.wrap .i64 (r22.relations + 1)) r22.e)).bind fun o28 =>
    (condition_parser_take N ([r10.1] : List (List UInt8)) o28).bind fun r50 =>
    (condition_parser_next N ([37]) r50.2).bind fun r57 =>
    (show Option (Parser × Relation) from
      bif r57.1 then
        (condition_parser_number__69 N r57.2 r17).bind fun r71 =>
        some (r71.2, (Relation.mk r17 r71.1 false ([])))
      else
        some (r57.2, (Relation.mk r17 0 false ([])))).bind fun o63 =>
    (condition_parser_take N ([[61], [33, 61]] : List (List UInt8)) o63.1).bind fun r89 =>
    (iter (fun s => condition_parser_relation_b1 N r17 s.1 s.2.1 s.2.2) N (true, r89.2, (Relation.mk o63.2.Operand o63.2.Mod (r89.1 == ([33, 61])) ([])))).bind fun o107 =>
    some (o107.1, o107.2)
  else
    (show Option Parser from
      bif (decide (r17 < 1)) then
        (condition_parser_fail N 3 r10.2).bind fun r222 =>
        some r222
      else
        some r10.2).bind fun o216 =>
    (show Option Parser from
      bif (decide ((IntKind.wrap .i64 (o216.relations + 1)) > 6)) then
        (condition_parser_fail N 6 (Parser.mk o216.s o216.at_ (IntKind.wrap .i64 (o216.relations + 1)) o216.e)).bind fun r238 =>
        some r238
      else
        some (Parser.mk o216.s o216.at_ (IntKind.wrap .i64 (o216.relations + 1)) o216.e)).bind fun o232 =>
    (condition_parser_take N ([r10.1] : List (List UInt8)) o232).bind fun r254 =>
    (condition_parser_next N ([37]) r254.2).bind fun r261 =>
    (show Option (Parser × Relation) from
      bif r261.1 then
        (condition_parser_number__69 N r261.2 r17).bind fun r275 =>
        some (r275.2, (Relation.mk r17 r275.1 false ([])))
      else
        some (r261.2, (Relation.mk r17 0 false ([])))).bind fun o267 =>
    (condition_parser_take N ([[61], [33, 61]] : List (List UInt8)) o267.1).bind fun r293 =>
    (iter (fun s => condition_parser_relation_b2 N r17 s.1 s.2.1 s.2.2) N (true, r293.2, (Relation.mk o267.2.Operand o267.2.Mod (r293.1 == ([33, 61])) ([])))).bind fun o311 =>
    some (o311.2, o311.1)

def condition_Parse_b2 (N : Nat) (list_51 : List (Relation)) (and_52 : Bool) (x_53 : Parser) : Option (((List (Relation)) × Bool × Parser) ⊕ ((Parser × (List (Relation))))) :=
  bif and_52 then
    bif (x_53.e == 0) then
      (condition_parser_relation N x_53).bind fun r64 =>
      (app list_51 ([r64.1] : List (Relation))).bind fun l80 =>
      (condition_parser_next N ([97, 110, 100]) r64.2).bind fun r85 =>
      some (.inl (l80, r85.1, r85.2))
    else
      some (.inr (x_53, list_51))
  else
    some (.inr (x_53, list_51))

def condition_Parse_b1 (N : Nat) (c_20 : List (List (Relation))) (more_21 : Bool) (x_22 : Parser) : Option (((List (List (Relation))) × Bool × Parser) ⊕ ((Parser × (List (List (Relation)))))) :=
  bif more_21 then
    bif (x_22.e == 0) then
      (iter (fun s => condition_Parse_b2 N s.1 s.2.1 s.2.2) N ([], true, x_22)).bind fun o42 =>
      (app c_20 ([o42.2] : List (List (Relation)))).bind fun l104 =>
      (condition_parser_next N ([111, 114]) o42.1).bind fun r109 =>
      some (.inl (l104, r109.1, r109.2))
    else
      some (.inr (x_22, c_20))
  else
    some (.inr (x_22, c_20))
def condition_Parse (N : Nat) (s_0 : List UInt8) : Option ((List (List (Relation))) × Int × Int) :=
  (iter (fun s => condition_Parse_b1 N s.1 s.2.1 s.2.2) N ([], true, (Parser.mk s_0 0 0 0))).bind fun o11 =>
  (condition_parser_skip N o11.1).bind fun r131 =>
  (show Option Parser from
    bif (decide (r131.at_ < (s_0.length : Int))) then
      (condition_parser_fail N 3 r131).bind fun r143 =>
      some r143
    else
      some r131).bind fun o137 =>
  bif (o137.e != 0) then
    some ([], o137.at_, o137.e)
  else
    some (o11.2, 0, 0)

def condition_proper_b1 (N : Nat) (r_0 : Relation) (x_17 : Int) : Option (Int ⊕ ((Unit ⊕ Bool))) :=
  bif (decide (x_17 < (r_0.Spans.length : Int))) then
    (idx r_0.Spans x_17).bind fun x20 =>
    bif (decide (x20.From < 0)) then
      some (.inr (.inr false))
    else
      bif (decide (x20.From > x20.To)) then
        some (.inr (.inr false))
      else
        (condition_greatest N r_0.Operand).bind fun r34 =>
        bif (decide (x20.To > r34)) then
          some (.inr (.inr false))
        else
          some (.inl (x_17 + 1))
  else
    some (.inr (.inl ()))

def condition_proper_b2 (N : Nat) (r_0 : Relation) (x_45 : Int) : Option (Int ⊕ ((Unit ⊕ Bool))) :=
  bif (decide (x_45 < (r_0.Spans.length : Int))) then
    (idx r_0.Spans x_45).bind fun x48 =>
    bif (decide (x48.From < 0)) then
      some (.inr (.inr false))
    else
      bif (decide (x48.From > x48.To)) then
        some (.inr (.inr false))
      else
        (condition_greatest N r_0.Operand).bind fun r62 =>
        bif (decide (x48.To > r62)) then
          some (.inr (.inr false))
        else
          some (.inl (x_45 + 1))
  else
    some (.inr (.inl ()))
def condition_proper (N : Nat) (r_0 : Relation) : Option Bool :=
  bif (decide (r_0.Operand < 1)) then
    some false
  else
    bif (decide (r_0.Operand > 6)) then
      some false
    else
      bif (r_0.Mod != 0) then
        (condition_permitted N r_0.Operand r_0.Mod).bind fun r9 =>
        bif (!r9) then
          some false
        else
          bif (decide ((r_0.Spans.length : Int) < 1)) then
            some false
          else
            bif (decide ((r_0.Spans.length : Int) > 4)) then
              some false
            else
              (iter (fun s => condition_proper_b1 N r_0 s) N 0).bind fun o15 =>
              Sum.elim (fun _o15 =>
                some true)
              (fun o15 =>
                some o15) o15
      else
        bif (decide ((r_0.Spans.length : Int) < 1)) then
          some false
        else
          bif (decide ((r_0.Spans.length : Int) > 4)) then
            some false
          else
            (iter (fun s => condition_proper_b2 N r_0 s) N 0).bind fun o43 =>
            Sum.elim (fun _o43 =>
              some true)
            (fun o43 =>
              some o43) o43

def condition_Valid_1 (N : Nat) (r_0 : Relation) : Option Bool :=
  (condition_proper N r_0).bind fun r6 =>
  some (!r6)

def slices_IndexFunc_api_Relation_api_Relation__43_b1 (N : Nat) (s_0 : List (Relation)) (x_4 : Int) : Option (Int ⊕ ((Unit ⊕ Int))) :=
  bif (decide (x_4 < (s_0.length : Int))) then
    (idx s_0 x_4).bind fun x7 =>
    (condition_Valid_1 N x7).bind fun r20 =>
    bif r20 then
      some (.inr (.inr x_4))
    else
      some (.inl (x_4 + 1))
  else
    some (.inr (.inl ()))
def slices_IndexFunc_api_Relation_api_Relation__43 (N : Nat) (s_0 : List (Relation)) : Option Int :=
  (iter (fun s => slices_IndexFunc_api_Relation_api_Relation__43_b1 N s_0 s) N 0).bind fun o2 =>
  Sum.elim (fun _o2 =>
    some (-1))
  (fun o2 =>
    some o2) o2

def slices_ContainsFunc_api_Relation_api_Relation__43 (N : Nat) (s_0 : List (Relation)) : Option Bool :=
  (slices_IndexFunc_api_Relation_api_Relation__43 N s_0).bind fun r1 =>
  some (decide (r1 ≥ 0))

def condition_Valid_b1 (N : Nat) (c_0 : List (List (Relation))) (n_6 : Int) (x_7 : Int) : Option ((Int × Int) ⊕ ((Int ⊕ Bool))) :=
  bif (decide (x_7 < (c_0.length : Int))) then
    (idx c_0 x_7).bind fun x11 =>
    bif ((x11.length : Int) == 0) then
      some (.inr (.inr false))
    else
      (slices_ContainsFunc_api_Relation_api_Relation__43 N x11).bind fun r23 =>
      bif r23 then
        some (.inr (.inr false))
      else
        some (.inl ((IntKind.wrap .i64 (n_6 + (x11.length : Int))), (x_7 + 1)))
  else
    some (.inr (.inl n_6))
def condition_Valid (N : Nat) (c_0 : List (List (Relation))) : Option Bool :=
  (iter (fun s => condition_Valid_b1 N c_0 s.1 s.2) N (0, 0)).bind fun o3 =>
  Sum.elim (fun o3 =>
    bif (decide ((c_0.length : Int) > 0)) then
      some (decide (o3 ≤ 6))
    else
      some false)
  (fun o3 =>
    some o3) o3

end Go.Proofs.YtbaiahglondepaaGreatDoor
