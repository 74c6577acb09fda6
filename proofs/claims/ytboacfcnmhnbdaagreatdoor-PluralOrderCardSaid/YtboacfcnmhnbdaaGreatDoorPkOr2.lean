/- Texts of this proof, put together by pack.py: what its declarations name. -/
import Derived.Test.YtboacfcnmhnbdaaGreatDoorPkOr1
import Derived.Test.YtboacfcnmhnbdaaGreatDoorCards
import Derived.Test.YtboacfcnmhnbdaaGreatDoorChecked
import Derived.Test.YtboacfcnmhnbdaaGreatDoorProg
import Derived.Test.YtboacfcnmhnbdaaGreatDoorRows
import Derived.Test.YtboacfcnmhnbdaaGreatDoorTie
set_option linter.unusedVariables false
set_option linter.unusedSimpArgs false
namespace Go.Proofs.YtboacfcnmhnbdaaGreatDoor
open Go.X
structure Number2 where
 Neg:Bool
 Whole:List UInt8
 Frac:List UInt8
def qg8 (_N:Nat) (l_0:List (Int)) (n_1:Int) (i_4:Int):Option (Int ⊕ ((Unit ⊕ Bool))) :=
 bif (decide (i_4 < (l_0.length:Int))) then
  (idx l_0 i_4).bind fun x7 =>
  bif (x7 == n_1) then
   some (.inr (.inr true))
  else
   some (.inl (i_4 + 1))
 else
  some (.inr (.inl ()))
def qfx (N:Nat) (l_0:List (Int)) (n_1:Int):Option Bool :=
 (iter (fun s=>qg8 N l_0 n_1 s) N 0).bind fun o2 =>
 Sum.elim (fun _o2 =>
  some false)
 (fun o2 =>
  some o2) o2
def qgh (_N:Nat) (operand_0:Int):Option (List (Int)) :=
 (show Option Bool from
  bif (operand_0 == 1) then
   some (operand_0 == 1)
  else
   some (operand_0 == 2)).bind fun o1 =>
 bif o1 then
  some ([2,3,4,5,6,10,20,25,50,100]:List (Int))
 else
  (show Option Bool from
   bif (operand_0 == 5) then
    some (operand_0 == 5)
   else
    some (operand_0 == 6)).bind fun o9 =>
  bif o9 then
   some ([10,100]:List (Int))
  else
   some ([])
def qiG (_N:Nat) (operand_0:Int):Option Int :=
 bif (operand_0 == 3) then
  some 6
 else
  bif (operand_0 == 4) then
   some 6
  else
   some 100
def qeB (N:Nat) (r_0:Relation) (i_35:Int):Option (Int ⊕ ((Unit ⊕ Bool))) :=
 bif (decide (i_35 < (r_0.Spans.length:Int))) then
  (idx r_0.Spans i_35).bind fun x38 =>
  bif (decide (x38.From < 0)) then
   some (.inr (.inr false))
  else
   bif (decide (x38.From > x38.To)) then
    some (.inr (.inr false))
   else
    (qiG N r_0.Operand).bind fun r52 =>
    bif (decide (x38.To > r52)) then
     some (.inr (.inr false))
    else
     some (.inl (i_35 + 1))
 else
  some (.inr (.inl ()))
def qgP (N:Nat) (r_0:Relation):Option Bool :=
 (show Option Bool from
  bif (decide (r_0.Operand < 1)) then
   some true
  else
   bif (decide (r_0.Operand > 6)) then
    some true
   else
    bif (r_0.Mod != 0) then
     (qgh N r_0.Operand).bind fun r11 =>
     (qfx N r11 r_0.Mod).bind fun r16 =>
     bif (!r16) then
      some true
     else
      bif (decide ((r_0.Spans.length:Int) < 1)) then
       some true
      else
       some (decide ((r_0.Spans.length:Int) > 4))
    else
     bif (decide ((r_0.Spans.length:Int) < 1)) then
      some true
     else
      some (decide ((r_0.Spans.length:Int) > 4))).bind fun o6 =>
 bif o6 then
  some false
 else
  (iter (fun s=>qeB N r_0 s) N 0).bind fun o33 =>
  Sum.elim (fun _o33 =>
   some true)
  (fun o33 =>
   some o33) o33
def qcq (N:Nat) (c_0:List (List (Relation))) (i_7:Int) (n_28:Int) (k_29:Int):Option ((Int × Int) ⊕ ((Int ⊕ Bool))) :=
 (idx c_0 i_7).bind fun x32 =>
 bif (decide (k_29 < (x32.length:Int))) then
  (idx c_0 i_7).bind fun x44 =>
  (idx x44 k_29).bind fun x55 =>
  (qgP N x55).bind fun r68 =>
  bif (!r68) then
   some (.inr (.inr false))
  else
   some (.inl ((IntKind.wrap .i64 (n_28 + 1)),(k_29 + 1)))
 else
  some (.inr (.inl n_28))
def qcW (N:Nat) (c_0:List (List (Relation))) (n_6:Int) (i_7:Int):Option ((Int × Int) ⊕ ((Int ⊕ Bool))) :=
 bif (decide (i_7 < (c_0.length:Int))) then
  (idx c_0 i_7).bind fun x11 =>
  bif ((x11.length:Int) == 0) then
   some (.inr (.inr false))
  else
   (iter (fun s=>qcq N c_0 i_7 s.1 s.2) N (n_6,0)).bind fun o25 =>
   Sum.elim (fun o25 =>
    some (.inl (o25,(i_7 + 1))))
   (fun o25 =>
    some (.inr (.inr o25))) o25
 else
  some (.inr (.inl n_6))
def qfX (N:Nat) (c_0:List (List (Relation))):Option Bool :=
 (iter (fun s=>qcW N c_0 s.1 s.2) N (0,0)).bind fun o3 =>
 Sum.elim (fun o3 =>
  bif (decide ((c_0.length:Int) > 0)) then
   some (decide (o3 ≤ 6))
  else
   some false)
 (fun o3 =>
  some o3) o3
def qcn (N:Nat) (l_0:List (List (List (Relation)))) (i_4:Int):Option (Int ⊕ ((Unit ⊕ Bool))) :=
 bif (decide (i_4 < (l_0.length:Int))) then
  (idx l_0 i_4).bind fun x7 =>
  (qfX N x7).bind fun r18 =>
  bif (!r18) then
   some (.inr (.inr false))
  else
   some (.inl (i_4 + 1))
 else
  some (.inr (.inl ()))
def qda (N:Nat) (l_0:List (List (List (Relation)))):Option Bool :=
 (iter (fun s=>qcn N l_0 s) N 0).bind fun o2 =>
 Sum.elim (fun _o2 =>
  some (decide ((l_0.length:Int) ≤ 10)))
 (fun o2 =>
  some o2) o2
def qfB (_N:Nat) (c_0:Int):Option Int :=
 bif (c_0 == 46) then
  some 10
 else
  bif (decide (c_0 < 48)) then
   some (-1)
  else
   bif (decide (c_0 > 57)) then
    some (-1)
   else
    some (IntKind.wrap .u8 (c_0 - 48))
def qdH (N:Nat) (a_0:List UInt8) (b_1:List UInt8) (i_5:Int):Option (Int ⊕ ((Unit ⊕ Bool))) :=
 bif (decide (i_5 < (a_0.length:Int))) then
  (idx a_0 i_5).bind fun c8 =>
  (idx b_1 i_5).bind fun c10 =>
  bif ((c8.toNat:Int) != (c10.toNat:Int)) then
   (idx a_0 i_5).bind fun c13 =>
   (qfB N (c13.toNat:Int)).bind fun r15 =>
   (idx b_1 i_5).bind fun c18 =>
   (qfB N (c18.toNat:Int)).bind fun r20 =>
   some (.inr (.inr (decide (r15 < r20))))
  else
   some (.inl (i_5 + 1))
 else
  some (.inr (.inl ()))
def qg7 (N:Nat) (a_0:List UInt8) (b_1:List UInt8):Option Bool :=
 bif ((a_0.length:Int) != (b_1.length:Int)) then
  some (decide ((a_0.length:Int) < (b_1.length:Int)))
 else
  (iter (fun s=>qdH N a_0 b_1 s) N 0).bind fun o3 =>
  Sum.elim (fun _o3 =>
   some false)
  (fun o3 =>
   some o3) o3
def qcR (_N:Nat) (c_0:List (List (Relation))) (out_13:List (Relation)) (i_14:Int):Option (((List (Relation)) × Int) ⊕ (((List (Relation))))) :=
 bif (decide (i_14 < (c_0.length:Int))) then
  (idx c_0 i_14).bind fun x20 =>
  (app out_13 x20).bind fun l31 =>
  some (.inl (l31,(i_14 + 1)))
 else
  some (.inr out_13)
def qh0 (N:Nat) (c_0:List (List (Relation))):Option (List (Relation)) :=
 (iter (fun s=>qcR N c_0 s.1 s.2) N ([],0)).bind fun o8 =>
 some o8
def qf6 (_N:Nat) (s_0:List UInt8) (i_4:Int):Option (Int ⊕ ((Unit ⊕ Bool))) :=
 bif (decide (i_4 < (s_0.length:Int))) then
  (idx s_0 i_4).bind fun c7 =>
  bif (decide ((c7.toNat:Int) < 48)) then
   some (.inr (.inr false))
  else
   (idx s_0 i_4).bind fun c10 =>
   bif (decide ((c10.toNat:Int) > 57)) then
    some (.inr (.inr false))
   else
    some (.inl (i_4 + 1))
 else
  some (.inr (.inl ()))
def qfy (N:Nat) (s_0:List UInt8):Option Bool :=
 (iter (fun s=>qf6 N s_0 s) N 0).bind fun o2 =>
 Sum.elim (fun _o2 =>
  some true)
 (fun o2 =>
  some o2) o2
def qgG (_N:Nat) (s_0:List UInt8) (i_4:Int):Option (Int ⊕ ((Unit ⊕ Bool))) :=
 bif (decide (i_4 < (s_0.length:Int))) then
  (idx s_0 i_4).bind fun c7 =>
  bif ((c7.toNat:Int) != 48) then
   some (.inr (.inr false))
  else
   some (.inl (i_4 + 1))
 else
  some (.inr (.inl ()))
def qdB (N:Nat) (s_0:List UInt8):Option Bool :=
 (iter (fun s=>qgG N s_0 s) N 0).bind fun o2 =>
 Sum.elim (fun _o2 =>
  some true)
 (fun o2 =>
  some o2) o2
def qhM (_N:Nat) (o6:((List UInt8) × Number2)) (k_26:Int):Option (Int ⊕ Int) :=
 bif (decide (k_26 < (o6.1.length:Int))) then
  (idx o6.1 k_26).bind fun c29 =>
  bif ((c29.toNat:Int) != 46) then
   some (.inl (k_26 + 1))
  else
   some (.inr k_26)
 else
  some (.inr k_26)
def qkI (_N:Nat) (s_0:List UInt8) (k_75:Int):Option (Int ⊕ Int) :=
 bif (decide (k_75 < (s_0.length:Int))) then
  (idx s_0 k_75).bind fun c78 =>
  bif ((c78.toNat:Int) != 46) then
   some (.inl (k_75 + 1))
  else
   some (.inr k_75)
 else
  some (.inr k_75)
def qeK (N:Nat) (s_0:List UInt8):Option (Number2 × Bool) :=
 bif (decide ((s_0.length:Int) > 0)) then
  (idx s_0 0).bind fun c4 =>
  (show Option ((List UInt8) × Number2) from
   bif ((c4.toNat:Int) == 45) then
    (show Option ((List UInt8) × Number2) from
     (slc s_0 1 (s_0.length:Int)).bind fun s15 =>
     some (s15,(Number2.mk true ([]) ([])))).bind fun o11 =>
    some (o11.1,o11.2)
   else
    some (s_0,(Number2.mk false ([]) ([])))).bind fun o6 =>
  (iter (fun s=>qhM N o6 s) N 0).bind fun o24 =>
  (slc o6.1 0 o24).bind fun s33 =>
  (show Option (Number2 ⊕ (Number2 × Bool)) from
   bif (decide (o24 < (o6.1.length:Int))) then
    (slc o6.1 (o24 + 1) (o6.1.length:Int)).bind fun s41 =>
    bif ((s41.length:Int) == 0) then
     some (.inr ((Number2.mk false ([]) ([])),false))
    else
     some (.inl (Number2.mk o6.2.Neg s33 s41))
   else
    some (.inl (Number2.mk o6.2.Neg s33 o6.2.Frac))).bind fun o35 =>
  Sum.elim (fun o35 =>
   (cat o35.Whole o35.Frac).bind fun s46 =>
   (qfy N s46).bind fun r48 =>
   bif (!r48) then
    some ((Number2.mk false ([]) ([])),false)
   else
    bif (decide ((o35.Whole.length:Int) < 1)) then
     some ((Number2.mk false ([]) ([])),false)
    else
     bif (decide ((o35.Whole.length:Int) > 15)) then
      some ((Number2.mk false ([]) ([])),false)
     else
      bif (decide ((o35.Whole.length:Int) > 1)) then
       (idx o35.Whole 0).bind fun c54 =>
       bif ((c54.toNat:Int) == 48) then
        some ((Number2.mk false ([]) ([])),false)
       else
        bif (decide ((o35.Frac.length:Int) > 6)) then
         some ((Number2.mk false ([]) ([])),false)
        else
         bif o35.Neg then
          (cat o35.Whole o35.Frac).bind fun s59 =>
          (qdB N s59).bind fun r61 =>
          bif r61 then
           some ((Number2.mk false ([]) ([])),false)
          else
           some (o35,true)
         else
          some (o35,true)
      else
       bif (decide ((o35.Frac.length:Int) > 6)) then
        some ((Number2.mk false ([]) ([])),false)
       else
        bif o35.Neg then
         (cat o35.Whole o35.Frac).bind fun s66 =>
         (qdB N s66).bind fun r68 =>
         bif r68 then
          some ((Number2.mk false ([]) ([])),false)
         else
          some (o35,true)
        else
         some (o35,true))
  (fun o35 =>
   some o35) o35
 else
  (iter (fun s=>qkI N s_0 s) N 0).bind fun o73 =>
  (slc s_0 0 o73).bind fun s82 =>
  (show Option (Number2 ⊕ (Number2 × Bool)) from
   bif (decide (o73 < (s_0.length:Int))) then
    (slc s_0 (o73 + 1) (s_0.length:Int)).bind fun s90 =>
    bif ((s90.length:Int) == 0) then
     some (.inr ((Number2.mk false ([]) ([])),false))
    else
     some (.inl (Number2.mk false s82 s90))
   else
    some (.inl (Number2.mk false s82 ([])))).bind fun o84 =>
  Sum.elim (fun o84 =>
   (cat o84.Whole o84.Frac).bind fun s95 =>
   (qfy N s95).bind fun r97 =>
   bif (!r97) then
    some ((Number2.mk false ([]) ([])),false)
   else
    bif (decide ((o84.Whole.length:Int) < 1)) then
     some ((Number2.mk false ([]) ([])),false)
    else
     bif (decide ((o84.Whole.length:Int) > 15)) then
      some ((Number2.mk false ([]) ([])),false)
     else
      bif (decide ((o84.Whole.length:Int) > 1)) then
       (idx o84.Whole 0).bind fun c103 =>
       bif ((c103.toNat:Int) == 48) then
        some ((Number2.mk false ([]) ([])),false)
       else
        bif (decide ((o84.Frac.length:Int) > 6)) then
         some ((Number2.mk false ([]) ([])),false)
        else
         bif o84.Neg then
          (cat o84.Whole o84.Frac).bind fun s108 =>
          (qdB N s108).bind fun r110 =>
          bif r110 then
           some ((Number2.mk false ([]) ([])),false)
          else
           some (o84,true)
         else
          some (o84,true)
      else
       bif (decide ((o84.Frac.length:Int) > 6)) then
        some ((Number2.mk false ([]) ([])),false)
       else
        bif o84.Neg then
         (cat o84.Whole o84.Frac).bind fun s115 =>
         (qdB N s115).bind fun r117 =>
         bif r117 then
          some ((Number2.mk false ([]) ([])),false)
         else
          some (o84,true)
        else
         some (o84,true))
  (fun o84 =>
   some o84) o84
def qcX (_N:Nat) (s_0:List UInt8) (n_6:Int) (i_7:Int):Option ((Int × Int) ⊕ Int) :=
 bif (decide (i_7 < (s_0.length:Int))) then
  (idx s_0 i_7).bind fun c11 =>
  some (.inl ((IntKind.wrap .i64 ((IntKind.wrap .i64 ((10:Int) * n_6)) + (IntKind.wrap .u8 ((c11.toNat:Int) - 48)))),(i_7 + 1)))
 else
  some (.inr n_6)
def qd6 (N:Nat) (s_0:List UInt8):Option Int :=
 (iter (fun s=>qcX N s_0 s.1 s.2) N (0,0)).bind fun o3 =>
 some o3
def qdq (_N:Nat) (s_4:List UInt8):Option (((List UInt8)) ⊕ (((List UInt8)))) :=
 bif (decide ((s_4.length:Int) > 0)) then
  (idx s_4 ((s_4.length:Int) - 1)).bind fun c7 =>
  bif ((c7.toNat:Int) == 48) then
   (slc s_4 0 ((s_4.length:Int) - 1)).bind fun s10 =>
   some (.inl s10)
  else
   some (.inr s_4)
 else
  some (.inr s_4)
def qgo (N:Nat) (s_0:List UInt8):Option (List UInt8) :=
 (iter (fun s=>qdq N s) N s_0).bind fun o2 =>
 some o2
def qgD (N:Nat) (s_0:List UInt8) (operand_1:Int):Option (Int × Int) :=
 (qeK N s_0).bind fun r1 =>
 bif (!r1.2) then
  some (0,1)
 else
  bif (operand_1 == 1) then
   (qdB N r1.1.Frac).bind fun r11 =>
   bif (!r11) then
    some (0,8)
   else
    (qd6 N r1.1.Whole).bind fun r14 =>
    some (r14,0)
  else
   bif (operand_1 == 2) then
    (qd6 N r1.1.Whole).bind fun r18 =>
    some (r18,0)
   else
    bif (operand_1 == 3) then
     some ((r1.1.Frac.length:Int),0)
    else
     bif (operand_1 == 4) then
      (qgo N r1.1.Frac).bind fun r23 =>
      some ((r23.length:Int),0)
     else
      bif (operand_1 == 5) then
       (qd6 N r1.1.Frac).bind fun r27 =>
       some (r27,0)
      else
       bif (operand_1 == 6) then
        (qgo N r1.1.Frac).bind fun r31 =>
        (qd6 N r31).bind fun r34 =>
        some (r34,0)
       else
        some (0,1)
end Go.Proofs.YtboacfcnmhnbdaaGreatDoor
namespace Go.Proofs.YtboacfcnmhnbdaaGreatDoor
open Go.X
def qga (_N:Nat) (l_0:List (Span)) (n_1:Int) (i_4:Int):Option (Int ⊕ ((Unit ⊕ Bool))) :=
 bif (decide (i_4 < (l_0.length:Int))) then
  (idx l_0 i_4).bind fun x7 =>
  bif (decide (n_1 ≥ x7.From)) then
   (idx l_0 i_4).bind fun x19 =>
   bif (decide (n_1 ≤ x19.To)) then
    some (.inr (.inr true))
   else
    some (.inl (i_4 + 1))
  else
   some (.inl (i_4 + 1))
 else
  some (.inr (.inl ()))
def qgQ (N:Nat) (l_0:List (Span)) (n_1:Int):Option Bool :=
 (iter (fun s=>qga N l_0 n_1 s) N 0).bind fun o2 =>
 Sum.elim (fun _o2 =>
  some false)
 (fun o2 =>
  some o2) o2
def qeY (N:Nat) (r_0:Relation) (number_1:List UInt8):Option Bool :=
 (qgD N number_1 r_0.Operand).bind fun r6 =>
 bif (r6.2 != 0) then
  some r_0.Not
 else
  (show Option Int from
   bif (r_0.Mod != 0) then
    (rm r6.1 r_0.Mod).bind fun q14 =>
    some q14
   else
    some r6.1).bind fun o11 =>
  (qgQ N r_0.Spans o11).bind fun r17 =>
  some (r17 != r_0.Not)
def qhp (_N:Nat) (r_0:Relation):Option Bool :=
 bif (r_0.Operand == 1) then
  some true
 else
  some (r_0.Operand == 2)
def qcJ (N:Nat) (l_0:List (Relation)) (number_1:List UInt8) (first_2:Bool) (s_6:List UInt8) (i_7:Int):Option (((List UInt8) × Int) ⊕ (((List UInt8)))) :=
 bif (decide (i_7 < (l_0.length:Int))) then
  (idx l_0 i_7).bind fun x11 =>
  (qhp N x11).bind fun r24 =>
  bif (r24 != first_2) then
   some (.inl (s_6,(i_7 + 1)))
  else
   (idx l_0 i_7).bind fun x27 =>
   (qeY N x27 number_1).bind fun r40 =>
   bif r40 then
    (cat s_6 ([49])).bind fun s43 =>
    some (.inl (s43,(i_7 + 1)))
   else
    (cat s_6 ([48])).bind fun s45 =>
    some (.inl (s45,(i_7 + 1)))
 else
  some (.inr s_6)
def qer (N:Nat) (l_0:List (Relation)) (number_1:List UInt8) (first_2:Bool):Option (List UInt8) :=
 (iter (fun s=>qcJ N l_0 number_1 first_2 s.1 s.2) N ([],0)).bind fun o3 =>
 some o3
def qaP (N:Nat) (n_0:Int):Option (List UInt8) :=
 match N with
 | 0=>none
 | N + 1 =>
  bif (decide (n_0 ≥ 10)) then
   (qaP N (IntKind.wrap .i64 (n_0.tdiv 10))).bind fun r2 =>
   (rm n_0 10).bind fun q5 =>
   (qaP N q5).bind fun r7 =>
   (cat r2 r7).bind fun s10 =>
   some s10
  else
   some (bytesOf ([(IntKind.wrap .u8 (IntKind.wrap .i64 ((48:Int) + n_0)))]:List (Int)))
def qgj (_N:Nat) (l_0:List (List UInt8)) (s_1:List UInt8) (i_4:Int):Option (Int ⊕ ((Unit ⊕ Int))) :=
 bif (decide (i_4 < (l_0.length:Int))) then
  (idx l_0 i_4).bind fun x7 =>
  bif (x7 == s_1) then
   some (.inr (.inr i_4))
  else
   some (.inl (i_4 + 1))
 else
  some (.inr (.inl ()))
def qd5 (N:Nat) (l_0:List (List UInt8)) (s_1:List UInt8):Option Int :=
 (iter (fun s=>qgj N l_0 s_1 s) N 0).bind fun o2 =>
 Sum.elim (fun _o2 =>
  some (-1))
 (fun o2 =>
  some o2) o2
def qdN (N:Nat) (l_0:List (Relation)) (seen_21:List (List UInt8)) (out_22:List (List UInt8)) (n_23:Int):Option (((List (List UInt8)) × (List (List UInt8)) × Int) ⊕ (((List (List UInt8))))) :=
 bif (decide (n_23 ≤ 400)) then
  (qaP N n_23).bind fun r32 =>
  (qer N l_0 r32 true).bind fun r35 =>
  (qd5 N seen_21 r35).bind fun r43 =>
  bif (decide (r43 < 0)) then
   (app seen_21 ([r35]:List (List UInt8))).bind fun l50 =>
   (qaP N n_23).bind fun r55 =>
   (app out_22 ([r55]:List (List UInt8))).bind fun l61 =>
   some (.inl (l50,l61,(IntKind.wrap .i64 (n_23 + 1))))
  else
   some (.inl (seen_21,out_22,(IntKind.wrap .i64 (n_23 + 1))))
 else
  some (.inr out_22)
def qg4 (N:Nat) (l_0:List (Relation)):Option (List (List UInt8)) :=
 (iter (fun s=>qdN N l_0 s.1 s.2.1 s.2.2) N ([],[],0)).bind fun o13 =>
 some o13
def qdO (_N:Nat) (width_1:Int) (s_7:List UInt8):Option (((List UInt8)) ⊕ (((List UInt8)))) :=
 bif (decide ((s_7.length:Int) < width_1)) then
  (cat ([48]) s_7).bind fun s10 =>
  some (.inl s10)
 else
  some (.inr s_7)
def qca (_N:Nat) (zeros_2:Int) (s_18:List UInt8) (i_19:Int):Option (((List UInt8) × Int) ⊕ (((List UInt8)))) :=
 bif (decide (i_19 < zeros_2)) then
  (cat s_18 ([48])).bind fun s23 =>
  some (.inl (s23,(i_19 + 1)))
 else
  some (.inr s_18)
def qcQ (N:Nat) (n_0:Int) (width_1:Int) (zeros_2:Int):Option (List UInt8) :=
 (qaP N n_0).bind fun r1 =>
 (iter (fun s=>qdO N width_1 s) N r1).bind fun o5 =>
 (iter (fun s=>qca N zeros_2 s.1 s.2) N (o5,0)).bind fun o15 =>
 some o15
def qbL (N:Nat) (l_0:List (Relation)) (seen_21:List (List UInt8)) (n_23:Int) (w_49:Int) (seen_73:List (List UInt8)) (out_74:List (List UInt8)) (t_75:Int):Option (((List (List UInt8)) × (List (List UInt8)) × Int) ⊕ (((List (List UInt8)) × (List (List UInt8))))) :=
 bif (decide (t_75 < 300)) then
  (rm t_75 10).bind fun q84 =>
  bif ((q84 == 0) != (w_49 == 0)) then
   some (.inl (seen_73,out_74,(t_75 + 1)))
  else
   bif (w_49 == 0) then
    bif (decide (t_75 > 0)) then
     some (.inl (seen_73,out_74,(t_75 + 1)))
    else
     (qaP N t_75).bind fun r89 =>
     bif (decide ((r89.length:Int) > (max w_49 1))) then
      some (.inl (seen_73,out_74,(t_75 + 1)))
     else
      (show Option ((List UInt8)) from
       bif (decide (n_23 > 0)) then
        (qcQ N t_75 w_49 (IntKind.wrap .i64 (n_23 - w_49))).bind fun r96 =>
        some r96
       else
        some ([])).bind fun o93 =>
      (show Option ((List UInt8)) from
       bif (w_49 == 0) then
        (qcQ N 0 n_23 0).bind fun r103 =>
        (slc r103 0 n_23).bind fun s106 =>
        some s106
       else
        some o93).bind fun o100 =>
      (show Option ((List UInt8)) from
       bif (decide (n_23 > 0)) then
        (cat ([48,46]) o100).bind fun s112 =>
        some s112
       else
        some ([48])).bind fun o109 =>
      (qer N l_0 o109 false).bind fun r115 =>
      (show Option ((List UInt8)) from
       bif (w_49 == 0) then
        (cat r115 ([48])).bind fun s121 =>
        some s121
       else
        some r115).bind fun o118 =>
      (qd5 N seen_73 o118).bind fun r129 =>
      bif (decide (r129 < 0)) then
       (app seen_73 ([o118]:List (List UInt8))).bind fun l136 =>
       (app out_74 ([o100]:List (List UInt8))).bind fun l144 =>
       some (.inl (l136,l144,(t_75 + 1)))
      else
       bif (decide (r129 ≥ (seen_21.length:Int))) then
        (idx out_74 r129).bind fun x150 =>
        bif (qoB o100 x150) then
         (idx out_74 r129).bind fun _x162 =>
         (setI out_74 r129 o100).bind fun l168 =>
         some (.inl (seen_73,l168,(t_75 + 1)))
        else
         some (.inl (seen_73,out_74,(t_75 + 1)))
       else
        some (.inl (seen_73,out_74,(t_75 + 1)))
   else
    (qaP N t_75).bind fun r172 =>
    bif (decide ((r172.length:Int) > (max w_49 1))) then
     some (.inl (seen_73,out_74,(t_75 + 1)))
    else
     (show Option ((List UInt8)) from
      bif (decide (n_23 > 0)) then
       (qcQ N t_75 w_49 (IntKind.wrap .i64 (n_23 - w_49))).bind fun r179 =>
       some r179
      else
       some ([])).bind fun o176 =>
     (show Option ((List UInt8)) from
      bif (w_49 == 0) then
       (qcQ N 0 n_23 0).bind fun r186 =>
       (slc r186 0 n_23).bind fun s189 =>
       some s189
      else
       some o176).bind fun o183 =>
     (show Option ((List UInt8)) from
      bif (decide (n_23 > 0)) then
       (cat ([48,46]) o183).bind fun s195 =>
       some s195
      else
       some ([48])).bind fun o192 =>
     (qer N l_0 o192 false).bind fun r198 =>
     (show Option ((List UInt8)) from
      bif (w_49 == 0) then
       (cat r198 ([48])).bind fun s204 =>
       some s204
      else
       some r198).bind fun o201 =>
     (qd5 N seen_73 o201).bind fun r212 =>
     bif (decide (r212 < 0)) then
      (app seen_73 ([o201]:List (List UInt8))).bind fun l219 =>
      (app out_74 ([o183]:List (List UInt8))).bind fun l227 =>
      some (.inl (l219,l227,(t_75 + 1)))
     else
      bif (decide (r212 ≥ (seen_21.length:Int))) then
       (idx out_74 r212).bind fun x233 =>
       bif (qoB o183 x233) then
        (idx out_74 r212).bind fun _x245 =>
        (setI out_74 r212 o183).bind fun l251 =>
        some (.inl (seen_73,l251,(t_75 + 1)))
       else
        some (.inl (seen_73,out_74,(t_75 + 1)))
      else
       some (.inl (seen_73,out_74,(t_75 + 1)))
 else
  some (.inr (seen_73,out_74))
def qb8 (N:Nat) (l_0:List (Relation)) (seen_21:List (List UInt8)) (n_23:Int) (seen_47:List (List UInt8)) (out_48:List (List UInt8)) (w_49:Int):Option (((List (List UInt8)) × (List (List UInt8)) × Int) ⊕ (((List (List UInt8)) × (List (List UInt8))))) :=
 bif (decide (w_49 ≤ n_23)) then
  (iter (fun s=>qbL N l_0 seen_21 n_23 w_49 s.1 s.2.1 s.2.2) N (seen_47,out_48,0)).bind fun o65 =>
  some (.inl (o65.1,o65.2,(IntKind.wrap .i64 (w_49 + 1))))
 else
  some (.inr (seen_47,out_48))
def qcN (N:Nat) (l_0:List (Relation)) (seen_21:List (List UInt8)) (out_22:List (List UInt8)) (n_23:Int):Option (((List (List UInt8)) × (List (List UInt8)) × Int) ⊕ (((List (List UInt8))))) :=
 bif (decide (n_23 ≤ 6)) then
  (iter (fun s=>qb8 N l_0 seen_21 n_23 s.1 s.2.1 s.2.2) N (seen_21,out_22,0)).bind fun o39 =>
  some (.inl (o39.1,o39.2,(IntKind.wrap .i64 (n_23 + 1))))
 else
  some (.inr out_22)
def qf4 (N:Nat) (l_0:List (Relation)):Option (List (List UInt8)) :=
 (iter (fun s=>qcN N l_0 s.1 s.2.1 s.2.2) N ([],[],0)).bind fun o13 =>
 some o13
def qhn (N:Nat) (s_0:List UInt8):Option Bool :=
 (qeK N s_0).bind fun r1 =>
 some r1.2
def qco (N:Nat) (c_0:List (List (Relation))) (number_1:List UInt8) (i_10:Int) (all_16:Bool) (k_17:Int):Option ((Bool × Int) ⊕ Bool) :=
 (idx c_0 i_10).bind fun x19 =>
 bif (decide (k_17 < (x19.length:Int))) then
  bif all_16 then
   (idx c_0 i_10).bind fun x32 =>
   (idx x32 k_17).bind fun x43 =>
   (qeY N x43 number_1).bind fun r56 =>
   some (.inl (r56,(k_17 + 1)))
  else
   some (.inl (false,(k_17 + 1)))
 else
  some (.inr all_16)
def qe1 (N:Nat) (c_0:List (List (Relation))) (number_1:List UInt8) (i_10:Int):Option (Int ⊕ ((Unit ⊕ (Bool × Int)))) :=
 bif (decide (i_10 < (c_0.length:Int))) then
  (iter (fun s=>qco N c_0 number_1 i_10 s.1 s.2) N (true,0)).bind fun o14 =>
  bif o14 then
   some (.inr (.inr (true,0)))
  else
   some (.inl (i_10 + 1))
 else
  some (.inr (.inl ()))
def qho (N:Nat) (c_0:List (List (Relation))) (number_1:List UInt8):Option (Bool × Int) :=
 (qfX N c_0).bind fun r1 =>
 bif (!r1) then
  some (false,1)
 else
  (qhn N number_1).bind fun r4 =>
  bif (!r4) then
   some (false,1)
  else
   (iter (fun s=>qe1 N c_0 number_1 s) N 0).bind fun o8 =>
   Sum.elim (fun _o8 =>
    some (false,0))
   (fun o8 =>
    some o8) o8
def qcZ (N:Nat) (l_0:List (List (List (Relation)))) (number_1:List UInt8) (n_6:Int) (i_7:Int):Option ((Int × Int) ⊕ Int) :=
 bif (decide (i_7 < (l_0.length:Int))) then
  (idx l_0 i_7).bind fun x11 =>
  (qho N x11 number_1).bind fun r22 =>
  bif r22.1 then
   some (.inl ((IntKind.wrap .i64 (n_6 + 1)),(i_7 + 1)))
  else
   some (.inl (n_6,(i_7 + 1)))
 else
  some (.inr n_6)
def qhm (N:Nat) (l_0:List (List (List (Relation)))) (number_1:List UInt8) (property_2:Int):Option Bool :=
 (iter (fun s=>qcZ N l_0 number_1 s.1 s.2) N (0,0)).bind fun o3 =>
 bif (property_2 == 0) then
  some (decide (o3 > 0))
 else
  bif (property_2 == 1) then
   some (o3 == 0)
  else
   bif (property_2 == 2) then
    some (o3 == 2)
   else
    some (o3 == 1)
def qcs (N:Nat) (l_0:List (List (List (Relation)))) (relations_14:List (Relation)) (i_15:Int):Option (((List (Relation)) × Int) ⊕ (((List (Relation))))) :=
 bif (decide (i_15 < (l_0.length:Int))) then
  (idx l_0 i_15).bind fun x22 =>
  (qh0 N x22).bind fun r33 =>
  (app relations_14 r33).bind fun l38 =>
  some (.inl (l38,(i_15 + 1)))
 else
  some (.inr relations_14)
def qdZ (N:Nat) (l_0:List (List (List (Relation)))) (property_1:Int) (r49:(List (List UInt8))) (r54:(List (List UInt8))) (i_66:Int) (best_75:List UInt8) (ok_76:Bool) (k_77:Int):Option (((List UInt8) × Bool × Int) ⊕ (((List UInt8) × Bool))) :=
 bif (decide (k_77 < (r54.length:Int))) then
  (idx r49 i_66).bind fun x81 =>
  (idx r54 k_77).bind fun x91 =>
  (show Option ((List UInt8)) from
   bif (x91 != ([])) then
    (idx r54 k_77).bind fun x104 =>
    (cat ([46]) x104).bind fun s114 =>
    (cat x81 s114).bind fun s116 =>
    some s116
   else
    some x81).bind fun o101 =>
  (qhm N l_0 o101 property_1).bind fun r119 =>
  bif r119 then
   bif (!ok_76) then
    some (.inl (o101,true,(k_77 + 1)))
   else
    (qg7 N o101 best_75).bind fun r123 =>
    bif r123 then
     some (.inl (o101,true,(k_77 + 1)))
    else
     some (.inl (best_75,ok_76,(k_77 + 1)))
  else
   some (.inl (best_75,ok_76,(k_77 + 1)))
 else
  some (.inr (best_75,ok_76))
def qd0 (N:Nat) (l_0:List (List (List (Relation)))) (property_1:Int) (r49:(List (List UInt8))) (r54:(List (List UInt8))) (best_64:List UInt8) (ok_65:Bool) (i_66:Int):Option (((List UInt8) × Bool × Int) ⊕ (((List UInt8) × Bool))) :=
 bif (decide (i_66 < (r49.length:Int))) then
  (iter (fun s=>qdZ N l_0 property_1 r49 r54 i_66 s.1 s.2.1 s.2.2) N (best_64,ok_65,0)).bind fun o72 =>
  some (.inl (o72.1,o72.2,(i_66 + 1)))
 else
  some (.inr (best_64,ok_65))
def qdf (N:Nat) (l_0:List (List (List (Relation)))) (property_1:Int):Option ((List UInt8) × Bool) :=
 (iter (fun s=>qcs N l_0 s.1 s.2) N ([],0)).bind fun o8 =>
 (qg4 N o8).bind fun r49 =>
 (qf4 N o8).bind fun r54 =>
 (iter (fun s=>qd0 N l_0 property_1 r49 r54 s.1 s.2.1 s.2.2) N ([],false,0)).bind fun o61 =>
 some (o61.1,o61.2)
def qea (_N:Nat) (l_0:List (Rule)) (conds_13:List (List (List (Relation)))) (i_14:Int):Option (((List (List (List (Relation)))) × Int) ⊕ (((List (List (List (Relation))))))) :=
 bif (decide (i_14 < (l_0.length:Int))) then
  (idx l_0 i_14).bind fun x20 =>
  (app conds_13 ([x20.Cond]:List (List (List (Relation))))).bind fun l35 =>
  some (.inl (l35,(i_14 + 1)))
 else
  some (.inr conds_13)
def qc5 (N:Nat) (o8:((List (List (List (Relation)))))) (i_54:Int) (k_60:Int):Option (Int ⊕ ((Unit ⊕ (Int × Int × (List UInt8) × Int)))) :=
 bif (decide (k_60 < (o8.length:Int))) then
  (show Option ((List UInt8) × Bool) from
   (idx o8 i_54).bind fun x65 =>
   (idx o8 k_60).bind fun x77 =>
   (qdf N ([x65,x77]:List (List (List (Relation)))) 2).bind fun r97 =>
   some (r97.1,r97.2)).bind fun o63 =>
  bif o63.2 then
   some (.inr (.inr (i_54,k_60,o63.1,19)))
  else
   some (.inl (k_60 + 1))
 else
  some (.inr (.inl ()))
def qbT (N:Nat) (o8:((List (List (List (Relation)))))) (i_54:Int):Option (Int ⊕ ((Unit ⊕ (Int × Int × (List UInt8) × Int)))) :=
 bif (decide (i_54 < (o8.length:Int))) then
  (iter (fun s=>qc5 N o8 i_54 s) N (i_54 + 1)).bind fun o58 =>
  Sum.elim (fun _o58 =>
   some (.inl (i_54 + 1)))
  (fun o58 =>
   some (.inr (.inr o58))) o58
 else
  some (.inr (.inl ()))
def qgp (N:Nat) (l_0:List (Rule)):Option (Int × Int × (List UInt8) × Int) :=
 (iter (fun s=>qea N l_0 s.1 s.2) N ([],0)).bind fun o8 =>
 (qda N o8).bind fun r48 =>
 bif (!r48) then
  some (0,0,[],1)
 else
  (iter (fun s=>qbT N o8 s) N 0).bind fun o52 =>
  Sum.elim (fun _o52 =>
   some (0,0,[],0))
  (fun o52 =>
   some o52) o52
def qhq (N:Nat) (l_0:List (List (List (Relation)))):Option ((List UInt8) × Bool × Int) :=
 (qda N l_0).bind fun r1 =>
 bif (!r1) then
  some ([],false,1)
 else
  (qdf N l_0 1).bind fun r4 =>
  some (r4.1,(!r4.2),0)
def qfr (N:Nat) (c_0:List (List (Relation))):Option ((List UInt8) × Bool × Int) :=
 (qda N ([c_0]:List (List (List (Relation))))).bind fun r9 =>
 bif (!r9) then
  some ([],false,1)
 else
  (qdf N ([c_0]:List (List (List (Relation)))) 0).bind fun r20 =>
  some (r20.1,r20.2,0)
end Go.Proofs.YtboacfcnmhnbdaaGreatDoor
namespace Go.X
section
variable {P:Program} {Q:Exit → Act → World → Prop} {n N:Nat} {L:List (Nat × Value)} {l:List Oper} {a:Act} {u w:World} {m:Mem} {S:Segs} {rest:List Oper} {ty:TypeId} {pos:String} {after:Array Edge} {g:Option (Nat × Bool)} {d k:Nat}
abbrev rf_ (k:Nat):Fence:=Fence.wide.inRound k
theorem r_op {op:Op} {v:Value} {w':World} (E:Env n a L) (hnd:∀ c,op ≠ .defer c) (hg:want l L g = some true) (hd:Nat.blt d n = true)
  (hr:(execOp a.eval ⟨some d,op,ty,pos,after,g⟩).run P w = .ok (.value v) w')
  (K:∀ a',Env n a' ((d,v) :: L) → wpListIn (rf_ k) N P l.toArray Q rest a' w'):wpListIn (rf_ k) N P l.toArray Q (⟨some d,op,ty,pos,after,g⟩ :: rest) a w:=by
 refine wpListIn_step fun K' hK'=>?_
 rw [E.want (o:=⟨some d,op,ty,pos,after,g⟩) hg,if_pos rfl]
 refine ⟨fun _ _=>trivial,?_⟩
 rw [Oper.semAt_eq _ _ _ hnd,hr]
 exact hK' _ _ (K _ (E.put d v hd))
theorem quV {op:Op} {w':World} (E:Env n a L) (hnd:∀ c,op ≠ .defer c) (hg:want l L g = some true)
  (hr:(execOp a.eval ⟨none,op,ty,pos,after,g⟩).run P w = .ok .skip w')
  (K:wpListIn (rf_ k) N P l.toArray Q rest a w'):wpListIn (rf_ k) N P l.toArray Q (⟨none,op,ty,pos,after,g⟩ :: rest) a w:=by
 refine wpListIn_step fun K' hK'=>?_
 rw [E.want (o:=⟨none,op,ty,pos,after,g⟩) hg,if_pos rfl]
 refine ⟨fun _ _=>trivial,?_⟩
 rw [Oper.semAt_eq _ _ _ hnd,hr]
 exact hK' _ _ K
theorem qqD {C:World → Prop} {op:Op} {v:Value} (E:Env n a L) (ok:C w) (y:qaB P C L op ty v) (hnd:∀ c,op ≠ .defer c) (hg:want l L g = some true) (hd:Nat.blt d n = true)
  (K:∀ a',Env n a' ((d,v) :: L) → wpListIn (rf_ k) N P l.toArray Q rest a' w):wpListIn (rf_ k) N P l.toArray Q (⟨some d,op,ty,pos,after,g⟩ :: rest) a w :=
 r_op E hnd hg hd (y _ w _ _ _ _ (fun h=>E.ev h) ok) K
theorem qpw {id:Nat} {l:List Oper} (h:wpListIn (rf_ k) N P l.toArray Q l a w):(Code.region id l.toArray false).wpIn (rf_ k) N P Q a w:=wpIn_region_lit h
end
theorem Ok.m_lt {u w:World} {m:Mem} {S:Segs} (ok:Ok u m S w) {b:Nat} {o:Obj} (h:m b = some o):b < w.heap.size:=(Array.getElem?_eq_some_iff.1 (ok.ro b o h)).1
section
variable {P:Program} {Q:Exit → Act → World → Prop} {n N:Nat} {L:List (Nat × Value)} {l:List Oper} {a:Act} {u w:World} {m:Mem} {S:Segs} {rest:List Oper} {ty:TypeId} {pos:String} {after:Array Edge} {g:Option (Nat × Bool)} {d k:Nat}
theorem qq6 {b o:Nat} {c:List Value} {T:TypeId} {v:Value} (ok:Ok u m S w) (j:Nat) (hS:S[j]? = some [(b,.cells c.toArray T (0,0))]) (h1:v.oneCell' = true) (hb:o < c.length) :
  (store ⟨b,o,none⟩ v).run P w = .ok () (w.setCell ⟨b,o,none⟩ v) ∧ Ok u m (S.set j [(b,.cells (c.set o v).toArray T (0,0))]) (w.setCell ⟨b,o,none⟩ v):=by
 have hown:w.heap[b]? = some (.cells c.toArray T (0,0)):=(ok.own (b,.cells c.toArray T (0,0)) (by
  have:=List.mem_of_getElem? hS
  exact List.mem_flatten.2 ⟨_,this,by simp⟩)).1
 refine ⟨?_,?_⟩
 ·have hcell:w.cell? ⟨b,o,none⟩ = some (c[o]'hb):=by simp [World.cell?,hown,hb]
  have hfz:w.frozen? ⟨b,o,none⟩ = false:=by simp [World.frozen?,hown]
  cases v <;> simp [Value.oneCell'] at h1 <;> simp [store,Sem.run,hcell,hfz]
 ·refine Ok.setSeg j S _ _ w _ hS (fun T' ok'=>?_) ok
  have:=ok'.setCell (off:=o) v
  simpa using this
theorem qss {t:TypeId} {x y:Operand} {b o:Nat} {c:List Value} {T:TypeId} {v:Value} (E:Env n a L) (ok:Ok u m S w) (j:Nat) (hS:S[j]? = some [(b,.cells c.toArray T (0,0))])
  (hx:ev L x = some (.pointer (some ⟨b,o,none⟩))) (hy:ev L y = some v) (hi:∃ i,P.info? t = some i ∧ i.size = 1) (hv:v.cells = #[v]) (h1:v.oneCell' = true) (hb:Nat.blt o c.length = true) (hg:want l L g = some true)
  (K:Ok u m (S.set j [(b,.cells (c.set o v).toArray T (0,0))]) (w.setCell ⟨b,o,none⟩ v) → wpListIn (rf_ k) N P l.toArray Q rest a (w.setCell ⟨b,o,none⟩ v)) :
  wpListIn (rf_ k) N P l.toArray Q (⟨none,.store t x y,ty,pos,after,g⟩ :: rest) a w:=by
 obtain ⟨i,hi,hs⟩:=hi
 have hb':o < c.length:=by simpa [Nat.blt,Nat.succ_le_iff] using hb
 obtain ⟨hst,ok1⟩:=qq6 (P:=P) ok j hS h1 hb'
 refine quV (w':=w.setCell ⟨b,o,none⟩ v) E (by intro c h; cases h) hg ?_ (K ok1)
 have hs':(sizeOf t).run P w = .ok v.cells.size w:=by rw [hv]; simp [sizeOf,typeInfo,hi,hs,go_sem]
 simp only [execOp,E.ev hx,E.ev hy,Instr.storeAt,Instr.sureAddr,storeVar,Sem.run_bind,Sem.run_pure,hs',Result.andThen_ok,ne_eq,not_true_eq_false,if_false]
 rw [hv]
 simp only [storeCells,qgl,Nat.add_zero,Sem.run_bind,hst,Result.andThen_ok,Sem.run_pure]
end
theorem qt8 {P:Program} {f:FuncId} {fn:Func} {c:Code} {vs:List Value} {w:World} {R:Ending → World → Prop} {n:Nat} (hf:P.funcs[f]? = some fn) (hb:fn.body = some c) (hn:fn.ntmps = n) (hle:Nat.ble vs.length n = true)
  (h:∀ a,Env n a (num 0 vs) → c.wp P (bodyPostM Fence.wide 3 P fn R) a w):Calls P f vs.toArray w R:=by
 refine callsIn_wide.1 (callsIn_of_wp_marks (F:=Fence.wide) (n:=3) hf hb trivial (wpIn_wide.2 (h _ ⟨rfl,?_,fun i v hi=>?_⟩)))
 ·have:=Nat.le_of_ble_eq_true hle
  simp [hn]; omega
 ·obtain ⟨_,h2⟩:=qmB vs 0 i v hi
  simp only [Nat.sub_zero] at h2
  obtain ⟨hlt,e⟩:=List.getElem?_eq_some_iff.1 h2
  rw [Array.getElem?_append_left (by simpa using hlt)]
  simpa using h2
theorem quF {P:Program} {fn:Func} {R:Ending → World → Prop} {a:Act} {w:World} {F:Fence} {n D:Nat} (hd:a.defers = []) (hK:w.heap[D]? = some (.deferred (some []))) (h:bodyPost P fn R .ret a (w.putObj D (.deferred none))) :
  bodyPostM F n P fn R .ret { a with defers:={ target:=.collected D,args:=#[] } :: a.defers } w:=by
 obtain ⟨_,v,hr,hR⟩:=h
 show LeavesInM F n P fn a.tmps R ({ target:=.collected D,args:=#[] } :: a.defers) .returning w
 rw [hd]
 exact ⟨by simp,.inl ⟨D,_,rfl,run_takeDeferred hK,v,hr,hR⟩⟩
section
variable {P:Program} {Q:Exit → Act → World → Prop} {n:Nat} {L:List (Nat × Value)} {l:List Oper} {a:Act} {u w:World} {m:Mem} {S:Segs} {rest:List Oper} {ty:TypeId} {pos:String} {after:Array Edge} {g:Option (Nat × Bool)} {d:Nat} {ds:List Deferred}
theorem qsx {C:World → Prop} {op:Op} {v:Value} (E:Env n a L) (ok:C w) (y:qaB P C L op ty v) (hg:want l L g = some true) (hd:Nat.blt d n = true)
  (K:∀ a',Env n a' ((d,v) :: L) → wpList P l.toArray Q rest { a' with defers:=ds } w):wpList P l.toArray Q (⟨some d,op,ty,pos,after,g⟩ :: rest) { a with defers:=ds } w:=by
 refine wpList_step fun K' hK'=>?_
 have hw:=E.want (o:=⟨some d,op,ty,pos,after,g⟩) hg
 rw [show ({ a with defers:=ds }:Act).tmps = a.tmps from rfl,hw,if_pos rfl]
 unfold Oper.wp
 rw [show ({ a with defers:=ds }:Act).eval = a.eval from funext fun x=>by cases x <;> rfl,y a.eval w _ _ _ _ (fun h=>E.ev h) ok]
 exact hK' _ _ (K _ (E.put d v hd))
end
end Go.X
namespace Go.X
open Go.RowKit
section
variable {P:Program} {Q:Exit → Act → World → Prop} {n N:Nat} {L:List (Nat × Value)} {l:List Oper} {a:Act} {u w:World} {m:Mem} {S:Segs} {rest:List Oper} {ty:TypeId} {pos:String} {after:Array Edge} {g:Option (Nat × Bool)} {d k:Nat}
theorem qqb {row:String} {args:Array Value} {R:Value → World → Prop} (h:Rows P row args w R):RowsIn (rf_ k) N P row args w R :=
 fun c cs _=>let ⟨v,w',r,s⟩:=h c cs; ⟨v,w',r,stepsIn_wide.2 s⟩
theorem qtr {o:Oper} {next:Act → World → Prop} {K X:Act → World → Prop} {r:Result Next} (hn:∀ a w,next a w → K a w)
  (h:o.upon P a next (fun e a w=>e = .normal ∧ X a w) r):o.uponIn (rf_ k) N P a K Q r:=by
 cases r with
 | ok x w' =>
  cases x <;> first | exact hn _ _ h | exact h.elim | skip
  case enter f args =>
   refine ⟨fun h=>(by cases h),CallsIn.mono (CallsIn.inRound k (callsIn_wide.2 h)) fun e w' hr=>?_⟩
   cases e with
   | returned v=>exact hn _ _ hr
   | panicked c=>exact absurd hr.1 (by simp)
   | outgrown=>obtain ⟨_,_,h1,_⟩:=hr; cases h1
  case row r args=>exact ⟨fun h=>(by cases h),RowsIn.mono (qqb h) fun _ _ hr=>hn _ _ hr⟩
 | halt x w' =>
  cases x <;> first | exact h.elim | exact absurd h.1 (by simp)
theorem qrd {o:Oper} (hnd:∀ c,o.op ≠ .defer c) (h:∀ K:Act → World → Prop,(∀ a w,wpListIn (rf_ k) N P l.toArray Q rest a w → K a w) → wpList P l.toArray (fun e a w=>e = .normal ∧ K a w) [o] a w) :
  wpListIn (rf_ k) N P l.toArray Q (o :: rest) a w:=by
 refine wpListIn_step fun K hK=>?_
 have h1:=h K hK
 unfold wpList at h1
 split at h1
 ·rename_i hw
  rw [if_pos hw]
  refine ⟨fun _ _=>trivial,?_⟩
  rw [Oper.semAt_eq _ _ _ hnd]
  rcases h1 with h1 | ⟨_,h2⟩
  ·exact qtr (next:=fun a w=>Exit.normal = .normal ∧ K a w) (X:=K) (fun a w h=>h.2) h1
  ·obtain ⟨_,_,h3,_⟩:=h2; cases h3
 ·rename_i hw
  rw [if_neg hw]
  exact ⟨fun _ _=>trivial,h1.2⟩
theorem rn {K:Act → World → Prop} (hK:∀ a w,wpListIn (rf_ k) N P l.toArray Q rest a w → K a w) (h:wpListIn (rf_ k) N P l.toArray Q rest a w):wpList P l.toArray (fun e a w=>e = .normal ∧ K a w) [] a w:=⟨rfl,hK _ _ h⟩
theorem qug {F:Fence} {o:Oper} (hF:F = Fence.wide) (hnd:∀ c,o.op ≠ .defer c) (hg:Region.wanted o (yielded l.toArray a.tmps) = true) {f:FuncId} {ln:Nat} {tmps:Array Value} {s b:Code} {R:Ending → World → Prop}
  (hr:(execOp a.eval o).run P w = .ok (.round ln f tmps s b) w) (h:RoundIn F (N - 1) P ln f tmps s b w R) (K:∀ e w',R e w' → ∃ v,e = .returned v ∧ wpListIn F N P l.toArray Q rest (a.put o.dst v) w') :
  wpListIn F N P l.toArray Q (o :: rest) a w:=by
 refine wpListIn_step fun K' hK'=>?_
 subst hF
 rw [if_pos hg]
 refine ⟨fun _ _=>trivial,?_⟩
 rw [Oper.semAt_eq _ _ _ hnd,hr,Oper.uponIn_round]
 refine ⟨fun h=>(by cases h),RoundIn.mono h fun e w' he=>?_⟩
 obtain ⟨v,rfl,hv⟩:=K e w' he
 exact hK' _ _ hv
theorem qrL {o:Oper} {next:Act → World → Prop} {K X:Act → World → Prop} {r:Result Next} (hn:∀ a w,next a w → K a w)
  (h:o.upon P a next (fun e a w=>e = .normal ∧ X a w) r):o.uponIn Fence.wide N P a K Q r:=by
 cases r with
 | ok x w' =>
  cases x <;> first | exact hn _ _ h | exact h.elim | skip
  case enter f args =>
   refine ⟨fun h=>(by cases h),CallsIn.mono (callsIn_wide.2 h) fun e w' hr=>?_⟩
   cases e with
   | returned v=>exact hn _ _ hr
   | panicked c=>exact absurd hr.1 (by simp)
   | outgrown=>obtain ⟨_,_,h1,_⟩:=hr; cases h1
  case row r args=>exact ⟨fun h=>(by cases h),RowsIn.mono (qqb (k:=0) h) fun _ _ hr=>hn _ _ hr⟩
 | halt x w' =>
  cases x <;> first | exact h.elim | exact absurd h.1 (by simp)
theorem qiv {o:Oper} (hnd:∀ c,o.op ≠ .defer c) (h:∀ K:Act → World → Prop,(∀ a w,wpListIn Fence.wide N P l.toArray Q rest a w → K a w) → wpList P l.toArray (fun e a w=>e = .normal ∧ K a w) [o] a w) :
  wpListIn Fence.wide N P l.toArray Q (o :: rest) a w:=by
 refine wpListIn_step fun K hK=>?_
 have h1:=h K hK
 unfold wpList at h1
 split at h1
 ·rename_i hw
  rw [if_pos hw]
  refine ⟨fun _ _=>trivial,?_⟩
  rw [Oper.semAt_eq _ _ _ hnd]
  rcases h1 with h1 | ⟨_,h2⟩
  ·exact qrL (next:=fun a w=>Exit.normal = .normal ∧ K a w) (X:=K) (fun a w h=>h.2) h1
  ·obtain ⟨_,_,h3,_⟩:=h2; cases h3
 ·rename_i hw
  rw [if_neg hw]
  exact ⟨fun _ _=>trivial,h1.2⟩
theorem wn_ {K:Act → World → Prop} (hK:∀ a w,wpListIn Fence.wide N P l.toArray Q rest a w → K a w) (h:wpListIn Fence.wide N P l.toArray Q rest a w):wpList P l.toArray (fun e a w=>e = .normal ∧ K a w) [] a w:=⟨rfl,hK _ _ h⟩
theorem qtw {X:Operand} {ln:Nat} {xs:List Operand} {ats:Array TypeId} {vs:List Value} {R:Ending → World → Prop} (E:Env n a L) (hX:ev L X = some (.func (.yield ln) #[] #[])) (hx:evs L xs = some vs) (hy:YieldAt Fence.wide (N - 1) P ln vs.toArray w R) (hg:want l L g = some true) (hd:Nat.blt d n = true)
  (K:∀ e w',R e w' → ∃ v,e = .returned v ∧ ∀ a',Env n a' ((d,v) :: L) → wpListIn Fence.wide N P l.toArray Q rest a' w') :
  wpListIn Fence.wide N P l.toArray Q (⟨some d,.call { callee:=.value X,args:=xs.toArray,argTypes:=ats },ty,pos,after,g⟩ :: rest) a w:=by
 obtain ⟨fn,tmps,s,b,hr,hR⟩:=hy
 have hargs:xs.toArray.map a.eval = vs.toArray:=by rw [List.map_toArray,E.evs hx]
 have hw:=E.want (o:=⟨some d,.call { callee:=.value X,args:=xs.toArray,argTypes:=ats },ty,pos,after,g⟩) hg
 refine qug rfl (by intro c h; cases h) hw (o:=⟨some d,.call { callee:=.value X,args:=xs.toArray,argTypes:=ats },ty,pos,after,g⟩) ?_ hR fun e w' he=>?_
 ·have:execOp a.eval ⟨some d,.call { callee:=.value X,args:=xs.toArray,argTypes:=ats },ty,pos,after,g⟩ = Instr.yield ln (#[] ++ xs.toArray.map a.eval ++ #[]):=by
   simp only [execOp,resolve,E.ev hX]; rfl
  rw [this,hargs,Array.empty_append,Array.append_empty]
  exact hr
 ·obtain ⟨v,rfl,hv⟩:=K e w' he
  exact ⟨v,rfl,hv _ (E.put d v hd)⟩
end
end Go.X
namespace Go.X
open Go.ChangeShapes Go.RowKit
def hm (W:World):Mem:=fun b=>W.heap[b]?
theorem qts {W:World} {a:Addr} {v:Value} (h:W.cell? a = some v):(hm W).cell a = some v:=h
theorem Ok.start (W:World):Ok W (hm W) [] W :=
 ⟨rfl,rfl,rfl,fun _ _ h=>h,fun _ (h:_ ∈ [])=>absurd h List.not_mem_nil,List.Pairwise.nil,fun _ _ h=>h⟩
theorem Ok.below {W W':World} {S:Segs} (h:Ok W (hm W) S W'):Below W.heap.size W W':=by
 refine ⟨h.os,h.tape,h.out,?_,fun k hk=>?_⟩
 ·by_cases h0:W.heap.size = 0
  ·omega
  ·have:=h.ro (W.heap.size - 1) (W.heap[W.heap.size - 1]'(by omega)) (by unfold hm; simp)
   have:=(Array.getElem?_eq_some_iff.1 this).1
   omega
 ·have:=h.ro k W.heap[k] (by unfold hm; simp [hk])
  rw [this]; simp [hk]
def Opn {α:Type} (P:Program) (t:TypeId) (R:Rp α):Prop :=
 ∀ {H:Type} {enc:TypeId × Value → H} {W:World} {base:Nat} {spare:Nat → Bool} {held:Bool} {fuel:Nat} {cs:List Value} {x:DataW H × List MemPlace},
  DataW.trod enc P W base spare held fuel t cs = some x → ∃ a:α,R (hm W) cs a
theorem qsZ (a:Addr) (i j:Nat):a.add (i + j) = (a.add i).add j:=by
 unfold Addr.add
 by_cases hi:i = 0 <;> by_cases hj:j = 0 <;> simp [hi,hj,Nat.add_assoc]
theorem qsi (b o i:Nat):(⟨b,o,none⟩:Addr).add i = ⟨b,o + i,none⟩:=by
 unfold Addr.add
 by_cases hi:i = 0 <;> simp [hi]
section
variable {P:Program} {t:TypeId}
theorem quT {k:IntKind} (ht:P.underlying t = some (.int k)):Opn P t (pI k):=fun h=>by
 obtain ⟨n,rfl,_,hw⟩:=DataW.trod_int ht h
 refine ⟨n,rfl,?_⟩
 simp only [Lit.wf,Bool.and_eq_true,decide_eq_true_eq] at hw
 exact hw
theorem qt2 (ht:P.underlying t = some .bool):Opn P t pB:=fun h=>by
 obtain ⟨b,rfl,_⟩:=DataW.trod_bool ht h
 exact ⟨b,rfl⟩
theorem len2 {α:Type} {l:List α} (h:l.length = 2):∃ a b,l = [a,b]:=match l,h with | [a,b],_=>⟨a,b,rfl⟩
theorem len4 {α:Type} {l:List α} (h:l.length = 4):∃ a b c d,l = [a,b,c,d]:=match l,h with | [a,b,c,d],_=>⟨a,b,c,d,rfl⟩
end
end Go.X
namespace Go.X
open Go.RowKit
theorem qt1 {P:Program} {C:World → Prop} {L:List (Nat × Value)} {ty t e:TypeId} {X I:Operand} {k n:Nat} {cs:List Value} {v:Value} {kd:IntKind} (ht:P.underlying t = some (.array n e)) (hi:∃ i,P.info? e = some i ∧ i.size = 1) (h1:oneB P e = true) (hX:ev L X = some (.agg cs.toArray)) (hI:ev L I = some (.int kd (k:Int))) (hk:k < n) (hc:cs[k]? = some v) :
  qaB P C L (Op.index t X I) ty v:=by
 intro ρ w dst pos after g E ok
 obtain ⟨i,hi1,hi2⟩:=hi
 have hs:(sizeOf e).run P w = .ok 1 w:=by simp [sizeOf,typeInfo,hi1,hi2,go_sem]
 have hp:=qsv (P:=P) (t:=e) (cs:=cs.toArray) (off:=k) (v:=v) h1 (by simpa using hc) w
 simp [part,go_sem] at hp
 simp [execOp,E hX,E hI,Instr.index,asIntOf,run_underlying ht,hs,hk,go_sem]
 rw [hp]
 rfl
theorem ORow.isCells {α:Type} {e k:Nat} {R:Rp α} {m:Mem} {v:Value} {xs:List α} {M:List (Nat × Obj)} (h:ORow e k R m v xs M):∀ p ∈ M,p.2.isCells = true:=by
 rcases h with ⟨_,_,rfl⟩ | ⟨b,o,cap,c,_,rfl,_⟩
 ·intro p hp; cases hp
 ·intro p hp
  obtain rfl:=List.mem_singleton.1 hp
  rfl
theorem ORow.block {α:Type} {e k:Nat} {R:Rp α} {m:Mem} {v:Value} {xs:List α} {M:List (Nat × Obj)} (h:ORow e k R m v xs M) (hx:xs ≠ []):∃ q,q ∈ M:=by
 rcases h with ⟨_,h,_⟩ | ⟨b,o,cap,c,_,rfl,_⟩
 ·exact absurd h hx
 ·exact ⟨_,List.mem_singleton.2 rfl⟩
section
variable {u w w':World} {m m':Mem} {S S':Segs}
theorem Ok.le_hm (ok:Ok u m S w):m.le (hm w):=fun b o h=>ok.ro b o h
def hmx (W:World) (S:Segs):Mem:=fun b=>if b ∈ S.flatten.map (·.1) then none else W.heap[b]?
theorem Ok.hmx_le (ok:Ok u m S w):m.le (hmx w S):=fun b o h=>by
 unfold hmx
 rw [if_neg,ok.ro b o h]
 intro hb
 obtain ⟨p,hp,rfl⟩:=List.mem_map.1 hb
 have:=(ok.own p hp).2
 rw [h] at this
 cases this
theorem Ok.full (ok:Ok u m S w):Ok u (hmx w S) S w :=
 ⟨ok.os,ok.out,ok.tape,fun b o h=>by
  unfold hmx at h
  split at h
  ·cases h
  ·exact h,fun p hp=>⟨(ok.own p hp).1,by unfold hmx; rw [if_pos (List.mem_map.2 ⟨p,hp,rfl⟩)]⟩,ok.nd,fun b o h=>ok.hmx_le b o (ok.base b o h)⟩
theorem Ok.freshX {T:Segs} {q:Nat × Obj} (ok:Ok u (hmx w S) T w') (hq:q ∈ T.flatten) (hn:∀ p ∈ S.flatten,p.1 ≠ q.1):w.heap.size ≤ q.1:=by
 refine Nat.le_of_not_lt fun hlt=>?_
 have:=(ok.own q hq).2
 unfold hmx at this
 rw [if_neg,Array.getElem?_eq_getElem hlt] at this
 ·cases this
 ·intro hb
  obtain ⟨p,hp,e⟩:=List.mem_map.1 hb
  exact hn p hp e
theorem Ok.keepsFrom {T:Segs} {q:Nat × Obj} (B:Nat) (ok0:Ok u m S w) (hc:∀ p ∈ S.flatten,p.2.isCells = true) (ok:Ok u (hmx w S) T w') (hq:q ∈ T.flatten) (hn:w.heap.size ≤ q.1):KeepsFrom B w w' :=
 ⟨by
  have:=(Array.getElem?_eq_some_iff.1 (ok.own q hq).1).1
  omega,fun k o _ hk ho=>by
  refine ok.ro k o ?_
  unfold hmx
  rw [if_neg,hk]
  intro hb
  obtain ⟨p,hp,e⟩:=List.mem_map.1 hb
  have h1:=(ok0.own p hp).1
  rw [e,hk] at h1
  have h2:=hc p hp
  rw [← Option.some.inj h1] at h2
  rw [h2] at ho
  cases ho⟩
theorem Ok.plus {T:Segs} (ok:Ok u m S w) (okT:Ok w (hm w) T w'):Ok u m (T ++ S) w':=by
 have ok':=ok.below' okT.below
 have new:∀ p ∈ T.flatten,w.heap[p.1]? = none:=fun p hp=>(okT.own p hp).2
 refine ⟨ok'.os,ok'.out,ok'.tape,ok'.ro,fun p hp=>?_,?_,ok.base⟩
 ·rw [List.flatten_append] at hp
  rcases List.mem_append.1 hp with hp | hp
  ·refine ⟨(okT.own p hp).1,?_⟩
   cases hmp:m p.1 with
   | none=>rfl
   | some o=>have:=ok.ro _ _ hmp; rw [new p hp] at this; cases this
  ·exact ok'.own p hp
 ·rw [List.flatten_append,List.pairwise_append]
  refine ⟨okT.nd,ok.nd,fun p hp q hq e=>?_⟩
  have:=(ok.own q hq).1
  rw [← e,new p hp] at this
  cases this
theorem Ok.init {A:Segs} (ok:Ok u m (A ++ S) w):Ok u m A w :=
 ⟨ok.os,ok.out,ok.tape,ok.ro,fun p hp=>ok.own p (by rw [List.flatten_append]; exact List.mem_append_left _ hp),by
  have:=ok.nd
  rw [List.flatten_append,List.pairwise_append] at this
  exact this.1,ok.base⟩
theorem Ok.rejoin {A A':Segs} (ok:Ok u m (A ++ S) w) (okA:Ok u (hmx w A) A' w'):Ok u m (A' ++ S) w':=by
 have hle:=ok.init.hmx_le
 have hnd:=ok.nd
 rw [List.flatten_append,List.pairwise_append] at hnd
 have hS:∀ p ∈ S.flatten,hmx w A p.1 = some p.2:=fun p hp=>by
  unfold hmx
  rw [if_neg,(ok.own p (by rw [List.flatten_append]; exact List.mem_append_right _ hp)).1]
  intro hb
  obtain ⟨q,hq,e⟩:=List.mem_map.1 hb
  exact hnd.2.2 q hq p hp e
 refine ⟨okA.os,okA.out,okA.tape,fun b o h=>okA.ro b o (hle b o h),fun p hp=>?_,?_,ok.base⟩
 ·rw [List.flatten_append] at hp
  rcases List.mem_append.1 hp with hp | hp
  ·refine ⟨(okA.own p hp).1,?_⟩
   cases hmp:m p.1 with
   | none=>rfl
   | some o=>have h1:=hle _ _ hmp; rw [(okA.own p hp).2] at h1; cases h1
  ·exact ⟨okA.ro _ _ (hS p hp),(ok.own p (by rw [List.flatten_append]; exact List.mem_append_right _ hp)).2⟩
 ·rw [List.flatten_append,List.pairwise_append]
  refine ⟨okA.nd,hnd.2.1,fun p hp q hq e=>?_⟩
  have h1:=(okA.own p hp).2
  rw [e,hS q hq] at h1
  cases h1
theorem Ok.grownC {row:Option Nat} {B:Nat} (ok:Ok u m S w) (h:w.grownBy w' row) (hr:∀ r,row = some r → B ≤ r ∧ ∃ o:Obj,w.heap[r]? = some o ∧ o.isCells = false) (hm:∀ b o,m b = some o → b < B) (hS:∀ p ∈ S.flatten,p.1 < B ∨ p.2.isCells = true):Ok u m S w':=by
 refine ⟨h.os.trans ok.os,h.output.trans ok.out,h.tape.trans ok.tape,fun b o hb=>?_,fun p hp=>⟨?_,(ok.own p hp).2⟩,ok.nd,ok.base⟩
 ·have h1:=ok.ro b o hb
  rw [h.block b (Array.getElem?_eq_some_iff.1 h1).1 (fun e=>by have:=(hr b e.symm).1; have:=hm b o hb; omega)]
  exact h1
 ·have h1:=(ok.own p hp).1
  rw [h.block p.1 (Array.getElem?_eq_some_iff.1 h1).1 (fun e=>by
   obtain ⟨hB,o,ho,hco⟩:=hr p.1 e.symm
   rcases hS p hp with hlt | hc
   ·omega
   ·rw [h1] at ho; cases ho; rw [hc] at hco; cases hco)]
  exact h1
end
theorem qqq {n:Nat} {a:Act} {L:List (Nat × Value)} {t:Array Value} (E:Env n a L) (h:t = a.tmps):Env n { tmps:=t,defers:=[] } L:=by
 subst h
 exact ⟨rfl,E.sz,E.get⟩
end Go.X
namespace Go.Proofs.YtboacfcnmhnbdaaGreatDoor
open Go.X
def qgg (N:Nat) (l:List Rule):List (List UInt8) → List (List UInt8) → Option (List (List UInt8))
 | [],acc=>some acc
 | c :: cs,acc=>(qht N l c).bind fun r=>bif r.2 then qgg N l cs (acc ++ [c]) else qgg N l cs acc
def qem:List (List UInt8):=[[122,101,114,111],[111,110,101],[116,119,111],[102,101,119],[109,97,110,121],[111,116,104,101,114]]
def qf5 (N:Nat) (l:List Rule):Option (List (List UInt8)):=qgg N l qem []
def qc2 (N:Nat) (l_0:List (Rule)):Option ((List (List UInt8)) × Int) :=
 (qf7 N l_0).bind fun r1 =>
 bif (!r1) then
  some ([],1)
 else
  (qg0 N l_0).bind fun r4 =>
  bif (r4 != 0) then
   some ([],r4)
  else
   (qf5 N l_0).bind fun r9 =>
   some (r9,0)
end Go.Proofs.YtboacfcnmhnbdaaGreatDoor
namespace Go.Proofs.YtboacfcnmhnbdaaGreatDoor
open Go.X
def qaY (_N:Nat) (l_0:List (Rule)) (back_30:List (Rule)) (x_31:Int):Option (((List (Rule)) × Int) ⊕ (((List (Rule))))) :=
 bif (decide (x_31 < (l_0.length:Int))) then
  (idx l_0 (IntKind.wrap .i64 ((IntKind.wrap .i64 ((l_0.length:Int) - 1)) - x_31))).bind fun x37 =>
  (app back_30 ([x37]:List (Rule))).bind fun l52 =>
  some (.inl (l52,(x_31 + 1)))
 else
  some (.inr back_30)
def qbV (N:Nat) (l_0:List (Rule)) (number_1:List UInt8):Option Bool :=
 (qdd N ).bind fun r1 =>
 bif (!r1) then
  (qdd N ).bind fun r4 =>
  some r4
 else
  (qcF N l_0).bind fun r6 =>
  bif (!r6) then
   (qdd N ).bind fun r9 =>
   some r9
  else
   (qc2 N l_0).bind fun r11 =>
   bif (r11.2 != 0) then
    some true
   else
    (iter (fun s=>qaY N l_0 s.1 s.2) N ([],0)).bind fun o25 =>
    (qbZ N l_0 number_1).bind fun r60 =>
    (qbZ N o25 number_1).bind fun r69 =>
    bif (r60.1 == r69.1) then
     some (r60.2 == r69.2)
    else
     some false
end Go.Proofs.YtboacfcnmhnbdaaGreatDoor
namespace Go.Proofs
open Go.Shelf
def Tryz.lays217_ren:Go.Shelf.Ren:=⟨fun | 217=>130 | 266=>157 | n=>n,fun | 9=>9 | 5=>5 | 3=>3 | n=>n,fun | n=>n⟩
theorem Tryz.lays217:Go.Proofs.Lays.n217 Tryz.prog Tryz.lays217_ren:={
 mixed:=by kernel_rfl
 f217:=Tryz.func130.trans (congrArg some (by kernel_rfl))
 f266:=Tryz.func157.trans (congrArg some (by kernel_rfl))
 t3:=Tryz.underlying3
 a3:=Tryz.isAgg3
 z3:=Tryz.sizeOf3
 v3:=Tryz.zeroValue3
 t5:=Tryz.underlying5
 a5:=Tryz.isAgg5
 z5:=Tryz.sizeOf5
 v5:=Tryz.zeroValue5
 t9:=Tryz.underlying9
 a9:=Tryz.isAgg9
 z9:=Tryz.sizeOf9
 v9:=Tryz.zeroValue9 }
end Go.Proofs
namespace Go.Proofs.YtboacfcnmhnbdaaGreatDoor
open Go.X
def Glob (u:World):Prop:=∃ mx,u.cell? ⟨0,0,none⟩ = some (.int .i64 mx)
theorem quO:goB Tryz.prog 126 = true:=by kernel_rfl
theorem qum:goB Tryz.prog 132 = true:=by kernel_rfl
theorem qic {u:World} {m0:Mem} {S:Segs} {w:World} (N:Nat) (p0_0:List UInt8) (lp0_0:p0_0.length ≤ LIMS) (p1_1:List UInt8) (lp1_1:p1_1.length ≤ LIMS) {r:Int} (hF:qdw N p0_0 p1_1 = some r) (hG:Glob u) (ok:Ok u m0 S w) :
  Calls Tryz.prog 126 [Value.string (bs p0_0),Value.string (bs p1_1)].toArray w fun e w'=>(e = .returned (.int .i64 r) ∧ Ok u m0 S w') ∧ InR .i64 r:=by
 obtain ⟨c,rfl⟩:∃ c,p1_1 = [c]:=by
  unfold qdw at hF
  split at hF
  ·exact ⟨_,rfl⟩
  ·cases hF
 obtain rfl:Lib.indexByte p0_0 c = r:=Option.some.inj hF
 have hir:InR .i64 (Lib.indexByte p0_0 c):=by
  have:=qjH p0_0 c
  rw [qdn]; unfold LIMS at lp0_0; omega
 refine enter Tryz.func126 rfl rfl rfl fun a E=>sg<|lv E ok (qax rfl) fun a E=>wn<|sg<|lv E ok (qal rfl) fun a E=>lv E ok (qaL Tryz.underlying9 rfl) fun a E=>lv E ok (qax rfl) fun a E=>wn<|wp_seq<|wp_block<|sg<|?_
 refine lv E ok (qal rfl) fun a E=>lv E ok (qaH rfl rfl) fun a E=>lv E ok (qal rfl) fun a E=>lv E ok (qal rfl) fun a E=>lv E ok (qal rfl) fun a E=>lv E ok (qet rfl rfl) fun a E=>lv E ok (qcw rfl rfl) fun a E=>lv E ok (qax rfl) fun a E=>wn<|c_if E rfl (fun hc=>?_) (fun hc=>?_)
 ·have hs:p0_0 = [c]:=(eq_of_beq hc).symm
  refine sg<|lv E ok (qax rfl) fun a E=>wn<|wp_ret<|qat<|qai ?_
  have h0:Lib.indexByte p0_0 c = 0:=by rw [hs]; simp [Lib.indexByte]
  rw [h0]
  exact qaZ [.t 4 (.int .i64 0)] E.d rfl ⟨rv_t E rfl,trivial⟩ ⟨⟨rfl,ok⟩,by decide⟩
 ·refine sg<|lv E ok (qal rfl) fun a E=>lv E ok (qaH rfl rfl) fun a E=>lv E ok (qax rfl) fun a E=>wn<|c_if E rfl (fun _=>?_) (fun h=>by cases h)
  refine sg<|lv E ok (qal rfl) fun a E=>lv E ok (qal rfl) fun a E=>lv E ok (qc1 (s:=[c]) (p:=0) (c:=c) Tryz.underlying9 rfl rfl rfl) fun a E=>?_
  refine qaf E (by kernel_rfl) rfl ((Calls.scalar ok (Any.stringslite_IndexByte Tryz.lays217 (bs p0_0) c.toNat _) fun e w' h=>⟨h.1,h.2 ▸ Go.RowKit.Below.refl _ _⟩)) rfl rfl ?_
  rintro _ w ⟨rfl,ok⟩
  refine ⟨_,rfl,fun a E=>?_⟩
  refine lv E ok (qax rfl) fun a E=>wn<|wp_ret<|qat<|qai ?_
  have e:Lib.indexByte (bs p0_0).data.toList (((c.toNat:Int)).toNat.toUInt8) = Lib.indexByte p0_0 c:=by simp [bs]
  exact qaZ [.t 4 (.int .i64 (Lib.indexByte p0_0 c))] E.d rfl ⟨rv_t E (by rw [← e]; rfl),trivial⟩ ⟨⟨rfl,ok⟩,hir⟩
def qeG (u:World) (m0:Mem) (S:Segs) (r:(List UInt8) × (List UInt8) × Bool) (a:Act) (w:World):Prop :=
 Ok u m0 S w ∧ a.defers = [] ∧ RVs Tryz.prog a w [.t 4 (.string (bs r.1)),.t 5 (.string (bs r.2.1)),.t 6 (.bool r.2.2)] ∧ r.1.length ≤ LIMS ∧ r.2.1.length ≤ LIMS
set_option maxHeartbeats 4000000 in
set_option maxRecDepth 100000 in
theorem qiB {u:World} {m0:Mem} {S:Segs} {w:World} (N:Nat) (s_0:List UInt8) (ls_0:s_0.length ≤ LIMS) (sep_1:List UInt8) (lsep_1:sep_1.length ≤ LIMS) {r:(List UInt8) × (List UInt8) × Bool} (hF:qdT N s_0 sep_1 = some r) (hG:Glob u) (ok:Ok u m0 S w) :
  Calls Tryz.prog 132 [Value.string (bs s_0),Value.string (bs sep_1)].toArray w fun e w'=>(e = .returned (.tuple [(.string (bs r.1)),(.string (bs r.2.1)),(.bool r.2.2)].toArray) ∧ Ok u m0 S w') ∧ r.1.length ≤ LIMS ∧ r.2.1.length ≤ LIMS:=by
 have hb0:=ok.base
 have le_m0:=Mem.le.refl m0
 unfold qdT at hF
 have fin:∀ a w,qeG u m0 S r a w → bodyPost Tryz.prog Tryz.f132 (fun e w'=>(e = .returned (.tuple [(.string (bs r.1)),(.string (bs r.2.1)),(.bool r.2.2)].toArray) ∧ Ok u m0 S w') ∧ r.1.length ≤ LIMS ∧ r.2.1.length ≤ LIMS) .ret a w:=by
  intro a w h
  obtain ⟨ok,hd,hrv,h0,h1⟩:=h
  exact qaZ [.t 4 (.string (bs r.1)),.t 5 (.string (bs r.2.1)),.t 6 (.bool r.2.2)] hd rfl hrv ⟨⟨rfl,ok⟩,h0,h1⟩
 refine enter Tryz.func132 rfl rfl rfl fun a E=>?_
 refine wp_seq ?_
 refine qab ?_
 refine qdi E ok (qax rfl) rfl rfl fun a E=>?_
 refine qdi E ok (qax rfl) rfl rfl fun a E=>?_
 refine qdi E ok (qax rfl) rfl rfl fun a E=>?_
 refine wpList_nil ?_
 refine qaa ?_
 refine wp_seq ?_
 refine wp_seq ?_
 refine qab ?_
 refine qdi E ok (qal rfl) rfl rfl fun a E=>?_
 refine qdi E ok (qal rfl) rfl rfl fun a E=>?_
 obtain ⟨r1,e2,hF⟩:=bnd hF
 refine qaf E quO rfl (qic N s_0 ls_0 sep_1 lsep_1 e2 hG ok) rfl rfl ?_
 rintro _ w ⟨⟨rfl,ok⟩,r3⟩
 refine ⟨_,rfl,fun a E=>?_⟩
 refine qdi E ok (qax rfl) rfl rfl fun a E=>?_
 refine wpList_nil ?_
 refine qaa ?_
 refine wp_seq ?_
 refine qab ?_
 refine qdi E ok (qal rfl) rfl rfl fun a E=>?_
 refine qdi E ok (qgq rfl rfl) rfl rfl fun a E=>?_
 refine wpList_nil ?_
 refine qaa ?_
 refine c_if E rfl (fun hc4=>?_) (fun hc4=>?_)
 rotate_left
 ·replace hF:=qdt hc4 hF
  refine wp_skip ?_
  refine qaa ?_
  refine wp_seq ?_
  refine qab ?_
  refine qdi E ok (qal rfl) rfl rfl fun a E=>?_
  refine qdi E ok (qax rfl) rfl rfl fun a E=>?_
  refine qdi E ok (qax rfl) rfl rfl fun a E=>?_
  refine qdi E ok (qax rfl) rfl rfl fun a E=>?_
  refine wpList_nil ?_
  refine qaa ?_
  refine wp_ret ?_
  have hret:qeG u m0 S (s_0,[],false) a w:=⟨ok,E.d,⟨rv_t E rfl,rv_t E rfl,rv_t E rfl,trivial⟩,ls_0,(show ([]:List UInt8).length ≤ LIMS by decide)⟩
  obtain rfl:=Option.some.inj hF
  exact fin _ _ hret
 replace hF:=qdr hc4 hF
 refine wp_seq ?_
 refine qgZ (by kernel_rfl) (by kernel_rfl) ok ?_
 refine qhc E (qal rfl) rfl rfl fun a E=>?_
 refine qhc E (qal rfl) rfl rfl fun a E=>?_
 obtain ⟨s5,e6,hF⟩:=bnd hF
 refine qhc E (qjc Tryz.underlying9 e6 rfl rfl ⟨_,rfl⟩) rfl rfl fun a E=>?_
 refine qhc E (qal rfl) rfl rfl fun a E=>?_
 refine qhc E (qal rfl) rfl rfl fun a E=>?_
 refine qhc E (qal rfl) rfl rfl fun a E=>?_
 refine qhc E (qaL Tryz.underlying9 rfl) rfl rfl fun a E=>?_
 refine qhc E (qbr rfl rfl) rfl rfl fun a E=>?_
 obtain ⟨s7,e8,hF⟩:=bnd hF
 refine qhc E (qjc Tryz.underlying9 e8 rfl ⟨_,rfl⟩ rfl) rfl rfl fun a E=>?_
 refine qhc E (qax rfl) rfl rfl fun a E=>?_
 refine qhc E (qax rfl) rfl rfl fun a E=>?_
 refine qhc E (qax rfl) rfl rfl fun a E=>?_
 refine wpQuiet_nil ?_
 intro w ok
 refine qaa ?_
 refine wp_ret ?_
 refine qai ?_
 have hret:qeG u m0 S (s5,s7,true) a w:=⟨ok,E.d,⟨rv_t E rfl,rv_t E rfl,rv_t E rfl,trivial⟩,(Nat.le_trans (qia e6) ls_0),(Nat.le_trans (qia e8) ls_0)⟩
 obtain rfl:=Option.some.inj hF
 exact fin _ _ hret
def qkm (u:World) (m0:Mem) (S:Segs) (r:(List UInt8) × (List UInt8) × Bool) (a:Act) (w:World):Prop :=
 Ok u m0 S w ∧ a.defers = [] ∧ RVs Tryz.prog a w [.t 4 (.string (bs r.1)),.t 5 (.string (bs r.2.1)),.t 6 (.bool r.2.2)] ∧ r.1.length ≤ LIMS ∧ r.2.1.length ≤ LIMS
set_option maxHeartbeats 4000000 in
set_option maxRecDepth 100000 in
theorem qnr {u:World} {m0:Mem} {S:Segs} {w:World} (N:Nat) (s_0:List UInt8) (ls_0:s_0.length ≤ LIMS) (sep_1:List UInt8) (lsep_1:sep_1.length ≤ LIMS) {r:(List UInt8) × (List UInt8) × Bool} (hF:qeq N s_0 sep_1 = some r) (hG:Glob u) (ok:Ok u m0 S w) :
  Calls Tryz.prog 102 [Value.string (bs s_0),Value.string (bs sep_1)].toArray w fun e w'=>(e = .returned (.tuple [(.string (bs r.1)),(.string (bs r.2.1)),(.bool r.2.2)].toArray) ∧ Ok u m0 S w') ∧ r.1.length ≤ LIMS ∧ r.2.1.length ≤ LIMS:=by
 have hb0:=ok.base
 have le_m0:=Mem.le.refl m0
 unfold qeq at hF
 have fin:∀ a w,qkm u m0 S r a w → bodyPost Tryz.prog Tryz.f102 (fun e w'=>(e = .returned (.tuple [(.string (bs r.1)),(.string (bs r.2.1)),(.bool r.2.2)].toArray) ∧ Ok u m0 S w') ∧ r.1.length ≤ LIMS ∧ r.2.1.length ≤ LIMS) .ret a w:=by
  intro a w h
  obtain ⟨ok,hd,hrv,h0,h1⟩:=h
  exact qaZ [.t 4 (.string (bs r.1)),.t 5 (.string (bs r.2.1)),.t 6 (.bool r.2.2)] hd rfl hrv ⟨⟨rfl,ok⟩,h0,h1⟩
 refine enter Tryz.func102 rfl rfl rfl fun a E=>?_
 refine wp_seq ?_
 refine qab ?_
 refine qdi E ok (qax rfl) rfl rfl fun a E=>?_
 refine qdi E ok (qax rfl) rfl rfl fun a E=>?_
 refine qdi E ok (qax rfl) rfl rfl fun a E=>?_
 refine wpList_nil ?_
 refine qaa ?_
 refine wp_seq ?_
 refine qab ?_
 refine qdi E ok (qal rfl) rfl rfl fun a E=>?_
 refine qdi E ok (qal rfl) rfl rfl fun a E=>?_
 obtain ⟨r1,e2,hF⟩:=bnd hF
 refine qaf E qum rfl (qiB N s_0 ls_0 sep_1 lsep_1 e2 hG ok) rfl rfl ?_
 rintro _ w ⟨⟨rfl,ok⟩,l3,l4⟩
 refine ⟨_,rfl,fun a E=>?_⟩
 refine qdi E ok (qak rfl rfl) rfl rfl fun a E=>?_
 refine qdi E ok (qak rfl rfl) rfl rfl fun a E=>?_
 refine qdi E ok (qak rfl rfl) rfl rfl fun a E=>?_
 refine qdi E ok (qax rfl) rfl rfl fun a E=>?_
 refine qdi E ok (qax rfl) rfl rfl fun a E=>?_
 refine qdi E ok (qax rfl) rfl rfl fun a E=>?_
 refine wpList_nil ?_
 refine qaa ?_
 refine wp_ret ?_
 have hret:qkm u m0 S (r1.1,r1.2.1,r1.2.2) a w:=⟨ok,E.d,⟨rv_t E rfl,rv_t E rfl,rv_t E rfl,trivial⟩,l3,l4⟩
 obtain rfl:=Option.some.inj hF
 exact fin _ _ hret
end Go.Proofs.YtboacfcnmhnbdaaGreatDoor
namespace Go.Proofs
open Go.Shelf
def Tryz.lays162_ren:Go.Shelf.Ren:=⟨fun | 162=>105 | 232=>135 | 227=>136 | 234=>137 | 236=>138 | 228=>161 | 271=>162 | 151=>163 | 120=>176 | 197=>175 | 152=>177 | 260=>183 | 137=>100 | 119=>184 | 224=>153 | 225=>152 | 217=>130 | 266=>157 | n=>n,fun | 9=>9 | 4=>4 | 3=>3 | 5=>5 | 117=>145 | 116=>144 | 0=>0 | 124=>148 | 21=>21 | 105=>167 | 46=>165 | 119=>204 | 139=>207 | 138=>206 | n=>n,fun | 3=>3 | 4=>4 | n=>n⟩
theorem Tryz.lays162:Go.Proofs.Lays.n162 Tryz.prog Tryz.lays162_ren:={
 mixed:=by kernel_rfl
 f119:=Tryz.func184.trans (congrArg some (by kernel_rfl))
 f120:=Tryz.func176.trans (congrArg some (by kernel_rfl))
 f137:=Tryz.func100.trans (congrArg some (by kernel_rfl))
 f151:=Tryz.func163.trans (congrArg some (by kernel_rfl))
 f152:=Tryz.func177.trans (congrArg some (by kernel_rfl))
 f162:=Tryz.func105.trans (congrArg some (by kernel_rfl))
 f197:=Tryz.func175.trans (congrArg some (by kernel_rfl))
 f217:=Tryz.func130.trans (congrArg some (by kernel_rfl))
 f224:=Tryz.func153.trans (congrArg some (by kernel_rfl))
 f225:=Tryz.func152.trans (congrArg some (by kernel_rfl))
 f227:=Tryz.func136.trans (congrArg some (by kernel_rfl))
 f228:=Tryz.func161.trans (congrArg some (by kernel_rfl))
 f232:=Tryz.func135.trans (congrArg some (by kernel_rfl))
 f234:=Tryz.func137.trans (congrArg some (by kernel_rfl))
 f236:=Tryz.func138.trans (congrArg some (by kernel_rfl))
 f260:=Tryz.func183.trans (congrArg some (by kernel_rfl))
 f266:=Tryz.func157.trans (congrArg some (by kernel_rfl))
 f271:=Tryz.func162.trans (congrArg some (by kernel_rfl))
 t0:=Tryz.underlying0
 a0:=Tryz.isAgg0
 z0:=Tryz.sizeOf0
 v0:=Tryz.zeroValue0
 t3:=Tryz.underlying3
 a3:=Tryz.isAgg3
 z3:=Tryz.sizeOf3
 v3:=Tryz.zeroValue3
 t4:=Tryz.underlying4
 a4:=Tryz.isAgg4
 z4:=Tryz.sizeOf4
 v4:=Tryz.zeroValue4
 t5:=Tryz.underlying5
 a5:=Tryz.isAgg5
 z5:=Tryz.sizeOf5
 v5:=Tryz.zeroValue5
 t9:=Tryz.underlying9
 a9:=Tryz.isAgg9
 z9:=Tryz.sizeOf9
 v9:=Tryz.zeroValue9
 t21:=Tryz.underlying21
 a21:=Tryz.isAgg21
 z21:=Tryz.sizeOf21
 v21:=Tryz.zeroValue21
 t46:=Tryz.underlying165
 a46:=Tryz.isAgg165
 z46:=Tryz.sizeOf165
 v46:=Tryz.zeroValue165
 t105:=Tryz.underlying167
 a105:=Tryz.isAgg167
 z105:=Tryz.sizeOf167
 v105:=Tryz.zeroValue167
 t116:=Tryz.underlying144
 a116:=Tryz.isAgg144
 z116:=Tryz.sizeOf144
 t117:=Tryz.underlying145
 a117:=Tryz.isAgg145
 z117:=Tryz.sizeOf145
 v117:=Tryz.zeroValue145
 t119:=Tryz.underlying204
 a119:=Tryz.isAgg204
 z119:=Tryz.sizeOf204
 t124:=Tryz.underlying148
 a124:=Tryz.isAgg148
 z124:=Tryz.sizeOf148
 v124:=Tryz.zeroValue148
 t138:=Tryz.underlying206
 a138:=Tryz.isAgg206
 z138:=Tryz.sizeOf206
 v138:=Tryz.zeroValue206
 t139:=Tryz.underlying207
 a139:=Tryz.isAgg207
 z139:=Tryz.sizeOf207
 v139:=Tryz.zeroValue207
 g3:=by kernel_rfl
 g4:=by kernel_rfl }
def Tryz.lays160_ren:Go.Shelf.Ren:=⟨fun | 160=>133 | 232=>135 | 231=>158 | 227=>136 | 234=>137 | 233=>159 | 236=>138 | 235=>160 | 228=>161 | 271=>162 | 151=>163 | 197=>175 | 120=>176 | 152=>177 | 260=>183 | 137=>100 | 119=>184 | 224=>153 | 225=>152 | 217=>130 | 266=>157 | n=>n,fun | 9=>9 | 4=>4 | 3=>3 | 5=>5 | 117=>145 | 116=>144 | 0=>0 | 124=>148 | 21=>21 | 105=>167 | 46=>165 | 119=>204 | 139=>207 | 138=>206 | n=>n,fun | 3=>3 | 4=>4 | n=>n⟩
theorem Tryz.lays160:Go.Proofs.Lays.n160 Tryz.prog Tryz.lays160_ren:={
 mixed:=by kernel_rfl
 f119:=Tryz.func184.trans (congrArg some (by kernel_rfl))
 f120:=Tryz.func176.trans (congrArg some (by kernel_rfl))
 f137:=Tryz.func100.trans (congrArg some (by kernel_rfl))
 f151:=Tryz.func163.trans (congrArg some (by kernel_rfl))
 f152:=Tryz.func177.trans (congrArg some (by kernel_rfl))
 f160:=Tryz.func133.trans (congrArg some (by kernel_rfl))
 f197:=Tryz.func175.trans (congrArg some (by kernel_rfl))
 f217:=Tryz.func130.trans (congrArg some (by kernel_rfl))
 f224:=Tryz.func153.trans (congrArg some (by kernel_rfl))
 f225:=Tryz.func152.trans (congrArg some (by kernel_rfl))
 f227:=Tryz.func136.trans (congrArg some (by kernel_rfl))
 f228:=Tryz.func161.trans (congrArg some (by kernel_rfl))
 f231:=Tryz.func158.trans (congrArg some (by kernel_rfl))
 f232:=Tryz.func135.trans (congrArg some (by kernel_rfl))
 f233:=Tryz.func159.trans (congrArg some (by kernel_rfl))
 f234:=Tryz.func137.trans (congrArg some (by kernel_rfl))
 f235:=Tryz.func160.trans (congrArg some (by kernel_rfl))
 f236:=Tryz.func138.trans (congrArg some (by kernel_rfl))
 f260:=Tryz.func183.trans (congrArg some (by kernel_rfl))
 f266:=Tryz.func157.trans (congrArg some (by kernel_rfl))
 f271:=Tryz.func162.trans (congrArg some (by kernel_rfl))
 t0:=Tryz.underlying0
 a0:=Tryz.isAgg0
 z0:=Tryz.sizeOf0
 v0:=Tryz.zeroValue0
 t3:=Tryz.underlying3
 a3:=Tryz.isAgg3
 z3:=Tryz.sizeOf3
 v3:=Tryz.zeroValue3
 t4:=Tryz.underlying4
 a4:=Tryz.isAgg4
 z4:=Tryz.sizeOf4
 v4:=Tryz.zeroValue4
 t5:=Tryz.underlying5
 a5:=Tryz.isAgg5
 z5:=Tryz.sizeOf5
 v5:=Tryz.zeroValue5
 t9:=Tryz.underlying9
 a9:=Tryz.isAgg9
 z9:=Tryz.sizeOf9
 v9:=Tryz.zeroValue9
 t21:=Tryz.underlying21
 a21:=Tryz.isAgg21
 z21:=Tryz.sizeOf21
 v21:=Tryz.zeroValue21
 t46:=Tryz.underlying165
 a46:=Tryz.isAgg165
 z46:=Tryz.sizeOf165
 v46:=Tryz.zeroValue165
 t105:=Tryz.underlying167
 a105:=Tryz.isAgg167
 z105:=Tryz.sizeOf167
 v105:=Tryz.zeroValue167
 t116:=Tryz.underlying144
 a116:=Tryz.isAgg144
 z116:=Tryz.sizeOf144
 t117:=Tryz.underlying145
 a117:=Tryz.isAgg145
 z117:=Tryz.sizeOf145
 v117:=Tryz.zeroValue145
 t119:=Tryz.underlying204
 a119:=Tryz.isAgg204
 z119:=Tryz.sizeOf204
 t124:=Tryz.underlying148
 a124:=Tryz.isAgg148
 z124:=Tryz.sizeOf148
 v124:=Tryz.zeroValue148
 t138:=Tryz.underlying206
 a138:=Tryz.isAgg206
 z138:=Tryz.sizeOf206
 v138:=Tryz.zeroValue206
 t139:=Tryz.underlying207
 a139:=Tryz.isAgg207
 z139:=Tryz.sizeOf207
 v139:=Tryz.zeroValue207
 g3:=by kernel_rfl
 g4:=by kernel_rfl }
def Tryz.lays137_ren:Go.Shelf.Ren:=⟨fun | 137=>100 | 217=>130 | 266=>157 | n=>n,fun | 9=>9 | 5=>5 | 3=>3 | n=>n,fun | n=>n⟩
theorem Tryz.lays137:Go.Proofs.Lays.n137 Tryz.prog Tryz.lays137_ren:={
 mixed:=by kernel_rfl
 f137:=Tryz.func100.trans (congrArg some (by kernel_rfl))
 f217:=Tryz.func130.trans (congrArg some (by kernel_rfl))
 f266:=Tryz.func157.trans (congrArg some (by kernel_rfl))
 t3:=Tryz.underlying3
 a3:=Tryz.isAgg3
 z3:=Tryz.sizeOf3
 v3:=Tryz.zeroValue3
 t5:=Tryz.underlying5
 a5:=Tryz.isAgg5
 z5:=Tryz.sizeOf5
 v5:=Tryz.zeroValue5
 t9:=Tryz.underlying9
 a9:=Tryz.isAgg9
 z9:=Tryz.sizeOf9
 v9:=Tryz.zeroValue9 }
def Tryz.lays103_ren:Go.Shelf.Ren:=⟨fun | 103=>101 | 210=>131 | 206=>151 | n=>n,fun | 9=>9 | 4=>4 | 24=>60 | 3=>3 | n=>n,fun | n=>n⟩
theorem Tryz.lays103:Go.Proofs.Lays.n103 Tryz.prog Tryz.lays103_ren:={
 mixed:=by kernel_rfl
 f103:=Tryz.func101.trans (congrArg some (by kernel_rfl))
 f206:=Tryz.func151.trans (congrArg some (by kernel_rfl))
 f210:=Tryz.func131.trans (congrArg some (by kernel_rfl))
 t3:=Tryz.underlying3
 a3:=Tryz.isAgg3
 z3:=Tryz.sizeOf3
 v3:=Tryz.zeroValue3
 t4:=Tryz.underlying4
 a4:=Tryz.isAgg4
 z4:=Tryz.sizeOf4
 v4:=Tryz.zeroValue4
 t9:=Tryz.underlying9
 a9:=Tryz.isAgg9
 z9:=Tryz.sizeOf9
 v9:=Tryz.zeroValue9
 t24:=Tryz.underlying60
 a24:=Tryz.isAgg60
 z24:=Tryz.sizeOf60
 v24:=Tryz.zeroValue60 }
def Tryz.lays172_ren:Go.Shelf.Ren:=⟨fun | 172=>127 | 244=>155 | 245=>156 | 247=>170 | 279=>171 | 280=>172 | 281=>173 | 282=>174 | 287=>180 | 316=>181 | 171=>141 | 205=>182 | 321=>189 | 322=>190 | 243=>164 | 246=>178 | 283=>185 | 284=>186 | 285=>187 | 286=>188 | 129=>192 | 317=>191 | 318=>193 | 319=>194 | 320=>195 | 337=>196 | 338=>197 | n=>n,fun | 9=>9 | 3=>3 | 75=>139 | 76=>140 | 4=>4 | 5=>5 | 167=>180 | 37=>164 | 0=>0 | 85=>181 | 2=>2 | 168=>183 | 53=>159 | 175=>188 | 46=>165 | 210=>191 | 127=>200 | 145=>203 | 143=>201 | 21=>21 | 171=>194 | 173=>197 | 212=>209 | 51=>177 | 20=>20 | 213=>210 | 232=>213 | 233=>214 | 80=>112 | n=>n,fun | 15=>1 | 16=>2 | 17=>5 | 18=>6 | 19=>7 | n=>n⟩
theorem Tryz.lays172:Go.Proofs.Lays.n172 Tryz.prog Tryz.lays172_ren:={
 mixed:=by kernel_rfl
 f129:=Tryz.func192.trans (congrArg some (by kernel_rfl))
 f171:=Tryz.func141.trans (congrArg some (by kernel_rfl))
 f172:=Tryz.func127.trans (congrArg some (by kernel_rfl))
 f205:=Tryz.func182.trans (congrArg some (by kernel_rfl))
 f243:=Tryz.func164.trans (congrArg some (by kernel_rfl))
 f244:=Tryz.func155.trans (congrArg some (by kernel_rfl))
 f245:=Tryz.func156.trans (congrArg some (by kernel_rfl))
 f246:=Tryz.func178.trans (congrArg some (by kernel_rfl))
 f247:=Tryz.func170.trans (congrArg some (by kernel_rfl))
 f279:=Tryz.func171.trans (congrArg some (by kernel_rfl))
 f280:=Tryz.func172.trans (congrArg some (by kernel_rfl))
 f281:=Tryz.func173.trans (congrArg some (by kernel_rfl))
 f282:=Tryz.func174.trans (congrArg some (by kernel_rfl))
 f283:=Tryz.func185.trans (congrArg some (by kernel_rfl))
 f284:=Tryz.func186.trans (congrArg some (by kernel_rfl))
 f285:=Tryz.func187.trans (congrArg some (by kernel_rfl))
 f286:=Tryz.func188.trans (congrArg some (by kernel_rfl))
 f287:=Tryz.func180.trans (congrArg some (by kernel_rfl))
 f316:=Tryz.func181.trans (congrArg some (by kernel_rfl))
 f317:=Tryz.func191.trans (congrArg some (by kernel_rfl))
 f318:=Tryz.func193.trans (congrArg some (by kernel_rfl))
 f319:=Tryz.func194.trans (congrArg some (by kernel_rfl))
 f320:=Tryz.func195.trans (congrArg some (by kernel_rfl))
 f321:=Tryz.func189.trans (congrArg some (by kernel_rfl))
 f322:=Tryz.func190.trans (congrArg some (by kernel_rfl))
 f337:=Tryz.func196.trans (congrArg some (by kernel_rfl))
 f338:=Tryz.func197.trans (congrArg some (by kernel_rfl))
 t0:=Tryz.underlying0
 a0:=Tryz.isAgg0
 z0:=Tryz.sizeOf0
 v0:=Tryz.zeroValue0
 t2:=Tryz.underlying2
 a2:=Tryz.isAgg2
 z2:=Tryz.sizeOf2
 v2:=Tryz.zeroValue2
 t3:=Tryz.underlying3
 a3:=Tryz.isAgg3
 z3:=Tryz.sizeOf3
 v3:=Tryz.zeroValue3
 t4:=Tryz.underlying4
 a4:=Tryz.isAgg4
 z4:=Tryz.sizeOf4
 v4:=Tryz.zeroValue4
 t5:=Tryz.underlying5
 a5:=Tryz.isAgg5
 z5:=Tryz.sizeOf5
 v5:=Tryz.zeroValue5
 t9:=Tryz.underlying9
 a9:=Tryz.isAgg9
 z9:=Tryz.sizeOf9
 v9:=Tryz.zeroValue9
 t20:=Tryz.underlying20
 a20:=Tryz.isAgg20
 z20:=Tryz.sizeOf20
 v20:=Tryz.zeroValue20
 t21:=Tryz.underlying21
 a21:=Tryz.isAgg21
 z21:=Tryz.sizeOf21
 v21:=Tryz.zeroValue21
 t37:=Tryz.underlying164
 a37:=Tryz.isAgg164
 z37:=Tryz.sizeOf164
 v37:=Tryz.zeroValue164
 t46:=Tryz.underlying165
 a46:=Tryz.isAgg165
 z46:=Tryz.sizeOf165
 v46:=Tryz.zeroValue165
 t51:=Tryz.underlying177
 a51:=Tryz.isAgg177
 z51:=Tryz.sizeOf177
 v51:=Tryz.zeroValue177
 t53:=Tryz.underlying159
 a53:=Tryz.isAgg159
 z53:=Tryz.sizeOf159
 v53:=Tryz.zeroValue159
 t75:=Tryz.underlying139
 a75:=Tryz.isAgg139
 z75:=Tryz.sizeOf139
 v75:=Tryz.zeroValue139
 t76:=Tryz.underlying140
 a76:=Tryz.isAgg140
 z76:=Tryz.sizeOf140
 v76:=Tryz.zeroValue140
 t85:=Tryz.underlying181
 a85:=Tryz.isAgg181
 z85:=Tryz.sizeOf181
 v85:=Tryz.zeroValue181
 t127:=Tryz.underlying200
 a127:=Tryz.isAgg200
 z127:=Tryz.sizeOf200
 v127:=Tryz.zeroValue200
 t143:=Tryz.underlying201
 a143:=Tryz.isAgg201
 z143:=Tryz.sizeOf201
 v143:=Tryz.zeroValue201
 t145:=Tryz.underlying203
 a145:=Tryz.isAgg203
 z145:=Tryz.sizeOf203
 v145:=Tryz.zeroValue203
 t167:=Tryz.underlying180
 a167:=Tryz.isAgg180
 z167:=Tryz.sizeOf180
 v167:=Tryz.zeroValue180
 t168:=Tryz.underlying183
 a168:=Tryz.isAgg183
 z168:=Tryz.sizeOf183
 v168:=Tryz.zeroValue183
 t171:=Tryz.underlying194
 a171:=Tryz.isAgg194
 z171:=Tryz.sizeOf194
 v171:=Tryz.zeroValue194
 t173:=Tryz.underlying197
 a173:=Tryz.isAgg197
 z173:=Tryz.sizeOf197
 v173:=Tryz.zeroValue197
 t175:=Tryz.underlying188
 a175:=Tryz.isAgg188
 z175:=Tryz.sizeOf188
 v175:=Tryz.zeroValue188
 t210:=Tryz.underlying191
 a210:=Tryz.isAgg191
 z210:=Tryz.sizeOf191
 v210:=Tryz.zeroValue191
 t212:=Tryz.underlying209
 a212:=Tryz.isAgg209
 z212:=Tryz.sizeOf209
 v212:=Tryz.zeroValue209
 t213:=Tryz.underlying210
 a213:=Tryz.isAgg210
 z213:=Tryz.sizeOf210
 t232:=Tryz.underlying213
 a232:=Tryz.isAgg213
 z232:=Tryz.sizeOf213
 v232:=Tryz.zeroValue213
 t233:=Tryz.underlying214
 a233:=Tryz.isAgg214
 z233:=Tryz.sizeOf214
 v233:=Tryz.zeroValue214
 g15:=by kernel_rfl
 g16:=by kernel_rfl
 g17:=by kernel_rfl
 g18:=by kernel_rfl
 g19:=by kernel_rfl }
def Tryz.laysM171_ren:Go.Shelf.Ren:=⟨fun | 171=>141 | 243=>164 | 246=>178 | 283=>185 | 284=>186 | 285=>187 | 286=>188 | 129=>192 | 317=>191 | 318=>193 | 319=>194 | 320=>195 | 337=>196 | 338=>197 | n=>n,fun | 3=>3 | 9=>9 | 2=>2 | 4=>4 | 171=>194 | 0=>0 | 53=>159 | 37=>164 | 5=>5 | 173=>197 | 212=>209 | 51=>177 | 20=>20 | 213=>210 | 46=>165 | 232=>213 | 233=>214 | n=>n,fun | 17=>5 | 18=>6 | 19=>7 | n=>n⟩
theorem Tryz.laysM171:Go.Proofs.LaysM.n171 Tryz.prog Tryz.laysM171_ren:={
 mixed:=by kernel_rfl
 f129:=Tryz.func192.trans (congrArg some (by kernel_rfl))
 f171:=Tryz.func141.trans (congrArg some (by kernel_rfl))
 f243:=Tryz.func164.trans (congrArg some (by kernel_rfl))
 f246:=Tryz.func178.trans (congrArg some (by kernel_rfl))
 f283:=Tryz.func185.trans (congrArg some (by kernel_rfl))
 f284:=Tryz.func186.trans (congrArg some (by kernel_rfl))
 f285:=Tryz.func187.trans (congrArg some (by kernel_rfl))
 f286:=Tryz.func188.trans (congrArg some (by kernel_rfl))
 f317:=Tryz.func191.trans (congrArg some (by kernel_rfl))
 f318:=Tryz.func193.trans (congrArg some (by kernel_rfl))
 f319:=Tryz.func194.trans (congrArg some (by kernel_rfl))
 f320:=Tryz.func195.trans (congrArg some (by kernel_rfl))
 f337:=Tryz.func196.trans (congrArg some (by kernel_rfl))
 f338:=Tryz.func197.trans (congrArg some (by kernel_rfl))
 t0:=Tryz.underlying0
 a0:=Tryz.isAgg0
 z0:=Tryz.sizeOf0
 v0:=Tryz.zeroValue0
 t2:=Tryz.underlying2
 a2:=Tryz.isAgg2
 z2:=Tryz.sizeOf2
 v2:=Tryz.zeroValue2
 t3:=Tryz.underlying3
 a3:=Tryz.isAgg3
 z3:=Tryz.sizeOf3
 v3:=Tryz.zeroValue3
 t4:=Tryz.underlying4
 a4:=Tryz.isAgg4
 z4:=Tryz.sizeOf4
 v4:=Tryz.zeroValue4
 t5:=Tryz.underlying5
 a5:=Tryz.isAgg5
 z5:=Tryz.sizeOf5
 v5:=Tryz.zeroValue5
 t9:=Tryz.underlying9
 a9:=Tryz.isAgg9
 z9:=Tryz.sizeOf9
 v9:=Tryz.zeroValue9
 t20:=Tryz.underlying20
 a20:=Tryz.isAgg20
 z20:=Tryz.sizeOf20
 v20:=Tryz.zeroValue20
 t37:=Tryz.underlying164
 a37:=Tryz.isAgg164
 z37:=Tryz.sizeOf164
 v37:=Tryz.zeroValue164
 t46:=Tryz.underlying165
 a46:=Tryz.isAgg165
 z46:=Tryz.sizeOf165
 v46:=Tryz.zeroValue165
 t51:=Tryz.underlying177
 a51:=Tryz.isAgg177
 z51:=Tryz.sizeOf177
 v51:=Tryz.zeroValue177
 t53:=Tryz.underlying159
 a53:=Tryz.isAgg159
 z53:=Tryz.sizeOf159
 v53:=Tryz.zeroValue159
 t171:=Tryz.underlying194
 a171:=Tryz.isAgg194
 z171:=Tryz.sizeOf194
 v171:=Tryz.zeroValue194
 t173:=Tryz.underlying197
 a173:=Tryz.isAgg197
 z173:=Tryz.sizeOf197
 v173:=Tryz.zeroValue197
 t212:=Tryz.underlying209
 a212:=Tryz.isAgg209
 z212:=Tryz.sizeOf209
 v212:=Tryz.zeroValue209
 t213:=Tryz.underlying210
 a213:=Tryz.isAgg210
 z213:=Tryz.sizeOf210
 t232:=Tryz.underlying213
 a232:=Tryz.isAgg213
 z232:=Tryz.sizeOf213
 v232:=Tryz.zeroValue213
 t233:=Tryz.underlying214
 a233:=Tryz.isAgg214
 z233:=Tryz.sizeOf214
 v233:=Tryz.zeroValue214
 g17:=by kernel_rfl
 g18:=by kernel_rfl
 g19:=by kernel_rfl
 i0:=by kernel_rfl
 i2:=by kernel_rfl
 i3:=by kernel_rfl
 i4:=by kernel_rfl
 i5:=by kernel_rfl
 i9:=by kernel_rfl
 i20:=by kernel_rfl
 i37:=by kernel_rfl
 i46:=by kernel_rfl
 i51:=by kernel_rfl
 i53:=by kernel_rfl
 i171:=by kernel_rfl
 i173:=by kernel_rfl
 i212:=by kernel_rfl
 i232:=by kernel_rfl
 i233:=by kernel_rfl
 m17:=by kernel_rfl
 m18:=by kernel_rfl
 m19:=by kernel_rfl }
def Tryz.lays143_ren:Go.Shelf.Ren:=⟨fun | 143=>95 | 219=>126 | 217=>130 | 225=>152 | 224=>153 | 267=>154 | 266=>157 | 314=>169 | n=>n,fun | 9=>9 | 3=>3 | 4=>4 | 5=>5 | 46=>165 | 146=>178 | 51=>177 | n=>n,fun | 1=>0 | n=>n⟩
theorem Tryz.lays143:Go.Proofs.Lays.n143 Tryz.prog Tryz.lays143_ren:={
 mixed:=by kernel_rfl
 f143:=Tryz.func95.trans (congrArg some (by kernel_rfl))
 f217:=Tryz.func130.trans (congrArg some (by kernel_rfl))
 f219:=Tryz.func126.trans (congrArg some (by kernel_rfl))
 f224:=Tryz.func153.trans (congrArg some (by kernel_rfl))
 f225:=Tryz.func152.trans (congrArg some (by kernel_rfl))
 f266:=Tryz.func157.trans (congrArg some (by kernel_rfl))
 f267:=Tryz.func154.trans (congrArg some (by kernel_rfl))
 f314:=Tryz.func169.trans (congrArg some (by kernel_rfl))
 t3:=Tryz.underlying3
 a3:=Tryz.isAgg3
 z3:=Tryz.sizeOf3
 v3:=Tryz.zeroValue3
 t4:=Tryz.underlying4
 a4:=Tryz.isAgg4
 z4:=Tryz.sizeOf4
 v4:=Tryz.zeroValue4
 t5:=Tryz.underlying5
 a5:=Tryz.isAgg5
 z5:=Tryz.sizeOf5
 v5:=Tryz.zeroValue5
 t9:=Tryz.underlying9
 a9:=Tryz.isAgg9
 z9:=Tryz.sizeOf9
 v9:=Tryz.zeroValue9
 t46:=Tryz.underlying165
 a46:=Tryz.isAgg165
 z46:=Tryz.sizeOf165
 v46:=Tryz.zeroValue165
 t51:=Tryz.underlying177
 a51:=Tryz.isAgg177
 z51:=Tryz.sizeOf177
 v51:=Tryz.zeroValue177
 t146:=Tryz.underlying178
 a146:=Tryz.isAgg178
 z146:=Tryz.sizeOf178
 v146:=Tryz.zeroValue178
 g1:=by kernel_rfl }
def Tryz.lays99_ren:Go.Shelf.Ren:=⟨fun | 99=>125 | 206=>151 | n=>n,fun | 9=>9 | 4=>4 | 3=>3 | n=>n,fun | n=>n⟩
theorem Tryz.lays99:Go.Proofs.Lays.n99 Tryz.prog Tryz.lays99_ren:={
 mixed:=by kernel_rfl
 f99:=Tryz.func125.trans (congrArg some (by kernel_rfl))
 f206:=Tryz.func151.trans (congrArg some (by kernel_rfl))
 t3:=Tryz.underlying3
 a3:=Tryz.isAgg3
 z3:=Tryz.sizeOf3
 v3:=Tryz.zeroValue3
 t4:=Tryz.underlying4
 a4:=Tryz.isAgg4
 z4:=Tryz.sizeOf4
 v4:=Tryz.zeroValue4
 t9:=Tryz.underlying9
 a9:=Tryz.isAgg9
 z9:=Tryz.sizeOf9
 v9:=Tryz.zeroValue9 }
end Go.Proofs
namespace Go.Proofs.YtboacfcnmhnbdaaGreatDoor
open Go.X
variable {u:World} {m0:Mem} {S:Segs} {w:World}
set_option maxHeartbeats 4000000
set_option maxRecDepth 100000
def Tab (u:World):Prop:=Lib.TabIs Tryz.prog u "internal/strconv.uint64pow10" .u64 Lib.pow10Tab
def qd3:Rp Span:=fun _ cs x=>cs = [.int .i64 x.From,.int .i64 x.To] ∧ InR .i64 x.From ∧ InR .i64 x.To
theorem qhh:Mono qd3:=⟨fun _ h=>by
 obtain ⟨e,h0,h1⟩:=h
 exact ⟨e,h0,h1⟩,fun h=>by
 obtain ⟨rfl,h0,h1⟩:=h
 exact ⟨rfl,rfl,trivial⟩⟩
def qag:Rp Relation:=fun m cs x=>∃ c3,cs = [.int .i64 x.Operand,.int .i64 x.Mod,.bool x.Not,c3] ∧ InR .i64 x.Operand ∧ InR .i64 x.Mod ∧ (pL 2 qd3) m [c3] x.Spans
theorem qad:Mono qag:=⟨fun hm h=>by
 obtain ⟨c3,e,h0,h1,h3⟩:=h
 exact ⟨c3,e,h0,h1,(mL qhh).up hm h3⟩,fun h=>by
 obtain ⟨c3,rfl,h0,h1,h3⟩:=h
 exact ⟨rfl,rfl,rfl,((mL qhh).one h3).1,trivial⟩⟩
def qdV:Rp Rule:=fun m cs x=>∃ c1,cs = [.string (bs x.Class),c1] ∧ x.Class.length ≤ LIMS ∧ (pL 1 (pL 4 qag)) m [c1] x.Cond
theorem qiT:Mono qdV:=⟨fun hm h=>by
 obtain ⟨c1,e,h0,h1⟩:=h
 exact ⟨c1,e,h0,(mL (mL qad)).up hm h1⟩,fun h=>by
 obtain ⟨c1,rfl,h0,h1⟩:=h
 exact ⟨rfl,((mL (mL qad)).one h1).1,trivial⟩⟩
def qjo:Rp Arr6_List_UInt8:=fun _ cs x=>cs = [.string (bs x.e0),.string (bs x.e1),.string (bs x.e2),.string (bs x.e3),.string (bs x.e4),.string (bs x.e5)] ∧ x.e0.length ≤ LIMS ∧ x.e1.length ≤ LIMS ∧ x.e2.length ≤ LIMS ∧ x.e3.length ≤ LIMS ∧ x.e4.length ≤ LIMS ∧ x.e5.length ≤ LIMS
def qnR:Rp Number:=fun _ cs x=>cs = [.bool x.negative,.string (bs x.whole),.string (bs x.fraction)] ∧ x.whole.length ≤ LIMS ∧ x.fraction.length ≤ LIMS
def qbM:Rp Part:=fun _ cs x=>cs = [.int .u64 x.bits,.string (bs x.text)] ∧ InR .u64 x.bits ∧ x.text.length ≤ LIMS
theorem qb6:Mono qbM:=⟨fun _ h=>by
 obtain ⟨e,h0,h1⟩:=h
 exact ⟨e,h0,h1⟩,fun h=>by
 obtain ⟨rfl,h0,h1⟩:=h
 exact ⟨rfl,rfl,trivial⟩⟩
def qd1:Rp Classes:=fun m cs x=>∃ c0 c1 c2,cs = [c0,c1,c2] ∧ (pL 4 qag) m [c0] x.l ∧ (pL 2 qbM) m [c1] x.wholes ∧ (pL 2 qbM) m [c2] x.fraction
theorem qst:Mono qd1:=⟨fun hm h=>by
 obtain ⟨c0,c1,c2,e,h0,h1,h2⟩:=h
 exact ⟨c0,c1,c2,e,(mL qad).up hm h0,(mL qb6).up hm h1,(mL qb6).up hm h2⟩,fun h=>by
 obtain ⟨c0,c1,c2,rfl,h0,h1,h2⟩:=h
 exact ⟨((mL qad).one h0).1,((mL qb6).one h1).1,((mL qb6).one h2).1,trivial⟩⟩
def qbf:Rp Tracker:=fun _ cs x=>cs = [.int .i64 x.a,.int .i64 x.b] ∧ InR .i64 x.a ∧ InR .i64 x.b
theorem qa0:Mono qbf:=⟨fun _ h=>by
 obtain ⟨e,h0,h1⟩:=h
 exact ⟨e,h0,h1⟩,fun h=>by
 obtain ⟨rfl,h0,h1⟩:=h
 exact ⟨rfl,rfl,trivial⟩⟩
def qhw:Rp State:=fun m cs x=>∃ c1,cs = [.string (bs x.s),c1,.bool x.integer] ∧ x.s.length ≤ LIMS ∧ (pL 2 qbf) m [c1] x.trackers
theorem qdE:Mono qhw:=⟨fun hm h=>by
 obtain ⟨c1,e,h0,h1⟩:=h
 exact ⟨c1,e,h0,(mL qa0).up hm h1⟩,fun h=>by
 obtain ⟨c1,rfl,h0,h1⟩:=h
 exact ⟨rfl,((mL qa0).one h1).1,rfl,trivial⟩⟩
theorem qbz:aggB Tryz.prog 157 2 = true:=by kernel_rfl
theorem qgy:aggB Tryz.prog 162 2 = true:=by kernel_rfl
theorem qp3:aggB Tryz.prog 172 3 = true:=by kernel_rfl
theorem qjl:aggB Tryz.prog 44 2 = true:=by kernel_rfl
theorem qhx:aggB Tryz.prog 49 2 = true:=by kernel_rfl
theorem qcG:aggB Tryz.prog 52 4 = true:=by kernel_rfl
theorem qt7:aggB Tryz.prog 80 6 = true:=by kernel_rfl
theorem qaR:aggB Tryz.prog 92 3 = true:=by kernel_rfl
theorem quk:ArT Tryz.prog 80 9 6 1:=ArT.of (by kernel_rfl)
theorem qif:qaX Tryz.prog 153 0 0 = true:=by kernel_rfl
theorem qi9:qaX Tryz.prog 153 1 1 = true:=by kernel_rfl
theorem qjf:qaX Tryz.prog 153 2 2 = true:=by kernel_rfl
theorem qeH:qaX Tryz.prog 157 0 0 = true:=by kernel_rfl
theorem qfa:qaX Tryz.prog 157 1 1 = true:=by kernel_rfl
theorem qhz:qaX Tryz.prog 162 0 0 = true:=by kernel_rfl
theorem qfh:qaX Tryz.prog 162 1 1 = true:=by kernel_rfl
theorem qmG:qaX Tryz.prog 172 0 0 = true:=by kernel_rfl
theorem qjk:qaX Tryz.prog 172 1 1 = true:=by kernel_rfl
theorem qkL:qaX Tryz.prog 172 2 2 = true:=by kernel_rfl
theorem qi3:qaX Tryz.prog 44 0 0 = true:=by kernel_rfl
theorem qi5:qaX Tryz.prog 44 1 1 = true:=by kernel_rfl
theorem qhg:qaX Tryz.prog 49 0 0 = true:=by kernel_rfl
theorem qgB:qaX Tryz.prog 49 1 1 = true:=by kernel_rfl
theorem qeE:qaX Tryz.prog 52 0 0 = true:=by kernel_rfl
theorem qhI:qaX Tryz.prog 52 1 1 = true:=by kernel_rfl
theorem qgu:qaX Tryz.prog 52 2 2 = true:=by kernel_rfl
theorem qdM:qaX Tryz.prog 52 3 3 = true:=by kernel_rfl
theorem qnJ:qaX Tryz.prog 88 0 0 = true:=by kernel_rfl
theorem qaI:qaX Tryz.prog 88 1 1 = true:=by kernel_rfl
theorem qi1:qaX Tryz.prog 88 2 2 = true:=by kernel_rfl
theorem qbH:qaX Tryz.prog 88 3 3 = true:=by kernel_rfl
theorem qnX:qaX Tryz.prog 92 1 1 = true:=by kernel_rfl
theorem qlT:qaX Tryz.prog 92 2 2 = true:=by kernel_rfl
theorem qtN:goB Tryz.prog 100 = true:=by kernel_rfl
theorem qt3:goB Tryz.prog 101 = true:=by kernel_rfl
theorem quw:goB Tryz.prog 102 = true:=by kernel_rfl
theorem qlH:goB Tryz.prog 103 = true:=by kernel_rfl
theorem qmX:goB Tryz.prog 104 = true:=by kernel_rfl
theorem qt9:goB Tryz.prog 105 = true:=by kernel_rfl
theorem qm6:goB Tryz.prog 106 = true:=by kernel_rfl
theorem qt5:goB Tryz.prog 107 = true:=by kernel_rfl
theorem qtQ:goB Tryz.prog 108 = true:=by kernel_rfl
theorem qoF:goB Tryz.prog 11 = true:=by kernel_rfl
theorem qut:goB Tryz.prog 111 = true:=by kernel_rfl
theorem qpc:goB Tryz.prog 112 = true:=by kernel_rfl
theorem qo3:goB Tryz.prog 113 = true:=by kernel_rfl
theorem qoT:goB Tryz.prog 114 = true:=by kernel_rfl
theorem qkb:goB Tryz.prog 115 = true:=by kernel_rfl
theorem qpl:goB Tryz.prog 116 = true:=by kernel_rfl
theorem quv:goB Tryz.prog 117 = true:=by kernel_rfl
theorem qqO:goB Tryz.prog 122 = true:=by kernel_rfl
theorem qrw:goB Tryz.prog 123 = true:=by kernel_rfl
theorem qlt:goB Tryz.prog 124 = true:=by kernel_rfl
theorem qt0:goB Tryz.prog 125 = true:=by kernel_rfl
theorem qeP:goB Tryz.prog 127 = true:=by kernel_rfl
theorem qlv:goB Tryz.prog 128 = true:=by kernel_rfl
theorem qlw:goB Tryz.prog 129 = true:=by kernel_rfl
theorem qsO:goB Tryz.prog 13 = true:=by kernel_rfl
theorem qrr:goB Tryz.prog 133 = true:=by kernel_rfl
theorem qrC:goB Tryz.prog 134 = true:=by kernel_rfl
theorem quG:goB Tryz.prog 139 = true:=by kernel_rfl
theorem quj:goB Tryz.prog 140 = true:=by kernel_rfl
theorem qf2:goB Tryz.prog 141 = true:=by kernel_rfl
theorem qln:goB Tryz.prog 142 = true:=by kernel_rfl
theorem qna:goB Tryz.prog 143 = true:=by kernel_rfl
theorem qrG:goB Tryz.prog 144 = true:=by kernel_rfl
theorem qrs:goB Tryz.prog 145 = true:=by kernel_rfl
theorem qtS:goB Tryz.prog 146 = true:=by kernel_rfl
theorem qo9:goB Tryz.prog 147 = true:=by kernel_rfl
theorem quq:goB Tryz.prog 148 = true:=by kernel_rfl
theorem quA:goB Tryz.prog 149 = true:=by kernel_rfl
theorem quc:goB Tryz.prog 165 = true:=by kernel_rfl
theorem quI:goB Tryz.prog 166 = true:=by kernel_rfl
theorem qun:goB Tryz.prog 167 = true:=by kernel_rfl
theorem que:goB Tryz.prog 168 = true:=by kernel_rfl
theorem qub:goB Tryz.prog 179 = true:=by kernel_rfl
theorem qsK:goB Tryz.prog 25 = true:=by kernel_rfl
theorem qu2:goB Tryz.prog 26 = true:=by kernel_rfl
theorem qsJ:goB Tryz.prog 27 = true:=by kernel_rfl
theorem qvA:goB Tryz.prog 29 = true:=by kernel_rfl
theorem qoM:goB Tryz.prog 30 = true:=by kernel_rfl
theorem qvD:goB Tryz.prog 31 = true:=by kernel_rfl
theorem qu9:goB Tryz.prog 32 = true:=by kernel_rfl
theorem qsM:goB Tryz.prog 47 = true:=by kernel_rfl
theorem qu6:goB Tryz.prog 48 = true:=by kernel_rfl
theorem qvC:goB Tryz.prog 49 = true:=by kernel_rfl
theorem qvl:goB Tryz.prog 50 = true:=by kernel_rfl
theorem qsA:goB Tryz.prog 51 = true:=by kernel_rfl
theorem quZ:goB Tryz.prog 52 = true:=by kernel_rfl
theorem qvv:goB Tryz.prog 53 = true:=by kernel_rfl
theorem qvc:goB Tryz.prog 55 = true:=by kernel_rfl
theorem qsH:goB Tryz.prog 56 = true:=by kernel_rfl
theorem qvb:goB Tryz.prog 57 = true:=by kernel_rfl
theorem qvj:goB Tryz.prog 58 = true:=by kernel_rfl
theorem qvp:goB Tryz.prog 59 = true:=by kernel_rfl
theorem qvk:goB Tryz.prog 61 = true:=by kernel_rfl
theorem qvB:goB Tryz.prog 62 = true:=by kernel_rfl
theorem qvg:goB Tryz.prog 63 = true:=by kernel_rfl
theorem qkH:goB Tryz.prog 68 = true:=by kernel_rfl
theorem qvs:goB Tryz.prog 69 = true:=by kernel_rfl
theorem qsQ:goB Tryz.prog 70 = true:=by kernel_rfl
theorem qb5:goB Tryz.prog 71 = true:=by kernel_rfl
theorem qsy:goB Tryz.prog 72 = true:=by kernel_rfl
theorem quR:goB Tryz.prog 73 = true:=by kernel_rfl
theorem qsR:goB Tryz.prog 74 = true:=by kernel_rfl
theorem qvo:goB Tryz.prog 75 = true:=by kernel_rfl
theorem qu8:goB Tryz.prog 76 = true:=by kernel_rfl
theorem qvu:goB Tryz.prog 79 = true:=by kernel_rfl
theorem qsS:goB Tryz.prog 80 = true:=by kernel_rfl
theorem qoK:goB Tryz.prog 81 = true:=by kernel_rfl
theorem qsL:goB Tryz.prog 85 = true:=by kernel_rfl
theorem qqz:goB Tryz.prog 86 = true:=by kernel_rfl
theorem qvz:goB Tryz.prog 87 = true:=by kernel_rfl
theorem qu4:goB Tryz.prog 88 = true:=by kernel_rfl
theorem qu7:goB Tryz.prog 89 = true:=by kernel_rfl
theorem qlR:goB Tryz.prog 94 = true:=by kernel_rfl
theorem qve:goB Tryz.prog 95 = true:=by kernel_rfl
theorem qoI:goB Tryz.prog 96 = true:=by kernel_rfl
theorem qoy:goB Tryz.prog 97 = true:=by kernel_rfl
theorem qmP:goB Tryz.prog 98 = true:=by kernel_rfl
theorem qsG:goB Tryz.prog 99 = true:=by kernel_rfl
theorem qnG:∃ i,Tryz.prog.info? 104 = some i ∧ i.size = 1:=⟨_,rfl,by kernel_rfl⟩
theorem qqa:∃ i,Tryz.prog.info? 151 = some i ∧ i.size = 1:=⟨_,rfl,by kernel_rfl⟩
theorem qeA:∃ i,Tryz.prog.info? 157 = some i ∧ i.size = 2:=⟨_,rfl,by kernel_rfl⟩
theorem qih:∃ i,Tryz.prog.info? 162 = some i ∧ i.size = 2:=⟨_,rfl,by kernel_rfl⟩
theorem qe4:∃ i,Tryz.prog.info? 172 = some i ∧ i.size = 3:=⟨_,rfl,by kernel_rfl⟩
theorem qtT:∃ i,Tryz.prog.info? 25 = some i ∧ i.size = 1:=⟨_,rfl,by kernel_rfl⟩
theorem qbu:∃ i,Tryz.prog.info? 3 = some i ∧ i.size = 1:=⟨_,rfl,by kernel_rfl⟩
theorem qmM:∃ i,Tryz.prog.info? 4 = some i ∧ i.size = 1:=⟨_,rfl,by kernel_rfl⟩
theorem qlh:∃ i,Tryz.prog.info? 44 = some i ∧ i.size = 2:=⟨_,rfl,by kernel_rfl⟩
theorem qin:∃ i,Tryz.prog.info? 49 = some i ∧ i.size = 2:=⟨_,rfl,by kernel_rfl⟩
theorem qrN:∃ i,Tryz.prog.info? 50 = some i ∧ i.size = 1:=⟨_,rfl,by kernel_rfl⟩
theorem qim:∃ i,Tryz.prog.info? 52 = some i ∧ i.size = 4:=⟨_,rfl,by kernel_rfl⟩
theorem qrx:∃ i,Tryz.prog.info? 80 = some i ∧ i.size = 6:=⟨_,rfl,by kernel_rfl⟩
theorem qsD:∃ i,Tryz.prog.info? 9 = some i ∧ i.size = 1:=⟨_,rfl,by kernel_rfl⟩
theorem qct:∃ i,Tryz.prog.info? 92 = some i ∧ i.size = 3:=⟨_,rfl,by kernel_rfl⟩
theorem qlP:oneB Tryz.prog 104 = true:=by kernel_rfl
theorem qnA:oneB Tryz.prog 108 = true:=by kernel_rfl
theorem qid:oneB Tryz.prog 127 = true:=by kernel_rfl
theorem qtx:oneB Tryz.prog 130 = true:=by kernel_rfl
theorem qhC:oneB Tryz.prog 151 = true:=by kernel_rfl
theorem qj2:oneB Tryz.prog 154 = true:=by kernel_rfl
theorem qij:oneB Tryz.prog 159 = true:=by kernel_rfl
theorem qcc:oneB Tryz.prog 25 = true:=by kernel_rfl
theorem qav:oneB Tryz.prog 3 = true:=by kernel_rfl
theorem qfY:oneB Tryz.prog 4 = true:=by kernel_rfl
theorem qe9:oneB Tryz.prog 42 = true:=by kernel_rfl
theorem qfb:oneB Tryz.prog 50 = true:=by kernel_rfl
theorem qgs:oneB Tryz.prog 53 = true:=by kernel_rfl
theorem qgt:oneB Tryz.prog 64 = true:=by kernel_rfl
theorem qbY:oneB Tryz.prog 9 = true:=by kernel_rfl
theorem qqm:qgA Tryz.prog 153 = some [(0,1),(1,1),(2,1)]:=by kernel_rfl
theorem qnd:qgA Tryz.prog 162 = some [(0,1),(1,1)]:=by kernel_rfl
theorem qc0:qgA Tryz.prog 172 = some [(0,1),(1,1),(2,1)]:=by kernel_rfl
theorem qoe:qgA Tryz.prog 44 = some [(0,1),(1,1)]:=by kernel_rfl
theorem qn7:qgA Tryz.prog 49 = some [(0,1),(1,1)]:=by kernel_rfl
theorem qlx:qgA Tryz.prog 52 = some [(0,1),(1,1),(2,1),(3,1)]:=by kernel_rfl
theorem qqK:qgA Tryz.prog 88 = some [(0,1),(1,1),(2,1),(3,1)]:=by kernel_rfl
theorem qrI:qgA Tryz.prog 92 = some [(0,1),(1,1),(2,1)]:=by kernel_rfl
theorem qhy:SlT Tryz.prog 104 3 1:=SlT.of (by kernel_rfl)
theorem qgT:SlT Tryz.prog 107 4 1:=SlT.of (by kernel_rfl)
theorem qeU:SlT Tryz.prog 151 162 2:=SlT.of (by kernel_rfl)
theorem qec:SlT Tryz.prog 154 157 2:=SlT.of (by kernel_rfl)
theorem qlz:SlT Tryz.prog 173 172 3:=SlT.of (by kernel_rfl)
theorem qdQ:SlT Tryz.prog 22 44 2:=SlT.of (by kernel_rfl)
theorem qhT:SlT Tryz.prog 32 9 1:=SlT.of (by kernel_rfl)
theorem qfR:SlT Tryz.prog 42 53 1:=SlT.of (by kernel_rfl)
theorem qdP:SlT Tryz.prog 50 49 2:=SlT.of (by kernel_rfl)
theorem qcu:SlT Tryz.prog 53 52 4:=SlT.of (by kernel_rfl)
theorem qcE:SlT Tryz.prog 64 42 1:=SlT.of (by kernel_rfl)
theorem qtg:qoC Tryz.prog 4 = some (vb false):=by kernel_rfl
theorem qmn:qdl Tryz.prog 104 = some [(Value.slice none 0 0)]:=by kernel_rfl
theorem qr4:qdl Tryz.prog 153 = some [(Value.slice none 0 0),(Value.slice none 0 0),(Value.slice none 0 0)]:=by kernel_rfl
theorem qei:qdl Tryz.prog 157 = some [vi 0,vi 0]:=by kernel_rfl
theorem qfi:qdl Tryz.prog 162 = some [vu 0,(vs ([]))]:=by kernel_rfl
theorem qbl:qdl Tryz.prog 172 = some [(vs ([])),(Value.slice none 0 0),vb false]:=by kernel_rfl
theorem qio:qdl Tryz.prog 3 = some [vi 0]:=by kernel_rfl
theorem qpi:qdl Tryz.prog 4 = some [vb false]:=by kernel_rfl
theorem qiZ:qdl Tryz.prog 42 = some [(Value.slice none 0 0)]:=by kernel_rfl
theorem qgz:qdl Tryz.prog 44 = some [(vs ([])),(Value.slice none 0 0)]:=by kernel_rfl
theorem qev:qdl Tryz.prog 49 = some [vi 0,vi 0]:=by kernel_rfl
theorem qdJ:qdl Tryz.prog 52 = some [vi 0,vi 0,vb false,(Value.slice none 0 0)]:=by kernel_rfl
theorem qnD:qdl Tryz.prog 53 = some [(Value.slice none 0 0)]:=by kernel_rfl
theorem qnu:qdl Tryz.prog 80 = some [(vs ([])),(vs ([])),(vs ([])),(vs ([])),(vs ([])),(vs ([]))]:=by kernel_rfl
theorem qtH:qdl Tryz.prog 88 = some [(vs ([])),vi 0,vi 0,vi 0]:=by kernel_rfl
theorem qje:qdl Tryz.prog 9 = some [(vs ([]))]:=by kernel_rfl
theorem qkd:qdl Tryz.prog 92 = some [vb false,(vs ([])),(vs ([]))]:=by kernel_rfl
def qnK (u:World) (m0:Mem) (S:Segs) (r:Arr6_List_UInt8) (a:Act) (w:World):Prop :=
 ∃ m1 v0,m0.le m1 ∧ Ok u m1 S w ∧ a.defers = [] ∧ RVs Tryz.prog a w [.c 0 80 (.agg v0.toArray)] ∧ qjo m1 v0 r
theorem qkg (N:Nat) {r:Arr6_List_UInt8} (hF:qjp N  = some r) (hG:Glob u) (ok:Ok u m0 S w) :
  Calls Tryz.prog 55 [].toArray w fun e w'=>∃ m1 v0,e = .returned (.agg v0.toArray) ∧ m0.le m1 ∧ Ok u m1 S w' ∧ qjo m1 v0 r:=by
 have le_m0:=Mem.le.refl m0
 unfold qjp at hF
 refine en (qnK u m0 S) r Tryz.func55 rfl rfl rfl (by rintro a w ⟨m1,v0,hle,ok,hd,hrv,h0⟩; exact qaZ [.c 0 80 (.agg v0.toArray)] hd rfl hrv ⟨m1,v0,rfl,hle,ok,h0⟩) fun fin a E=>sg<|qaD E ok qnu rfl rfl fun b1 a w E ok=>wn<|sg<|lv E ok (qrX (ps:=[(0,.const (vs ([122,101,114,111]))),(1,.const (vs ([111,110,101]))),(2,.const (vs ([116,119,111]))),(3,.const (vs ([102,101,119]))),(4,.const (vs ([109,97,110,121]))),(5,.const (vs ([111,116,104,101,114])))]) (qs:=[(0,[(vs ([122,101,114,111]))]),(1,[(vs ([111,110,101]))]),(2,[(vs ([116,119,111]))]),(3,[(vs ([102,101,119]))]),(4,[(vs ([109,97,110,121]))]),(5,[(vs ([111,116,104,101,114]))])]) (cs:=[(vs ([122,101,114,111])),(vs ([111,110,101])),(vs ([116,119,111])),(vs ([102,101,119])),(vs ([109,97,110,121])),(vs ([111,116,104,101,114]))]) qnu quk rfl ⟨rfl,rfl,rfl,⟨rfl,rfl,rfl,⟨rfl,rfl,rfl,⟨rfl,rfl,rfl,⟨rfl,rfl,rfl,⟨rfl,rfl,rfl,trivial⟩⟩⟩⟩⟩⟩ rfl) fun a E=>qae E ok 0 rfl rfl rfl qrx rfl rfl ⟨rfl,rfl,rfl,rfl,rfl,rfl,trivial⟩ rfl rfl fun w ok=>wn<|wp_ret ?_
 exact fin hF ⟨m0,[(vs ([122,101,114,111])),(vs ([111,110,101])),(vs ([116,119,111])),(vs ([102,101,119])),(vs ([109,97,110,121])),(vs ([111,116,104,101,114]))],le_m0,ok.drop,E.d,⟨rv_c (cs:=[(vs ([122,101,114,111])),(vs ([111,110,101])),(vs ([116,119,111])),(vs ([102,101,119])),(vs ([109,97,110,121])),(vs ([111,116,104,101,114]))]) E ok rfl qt7 rfl (qac.own 0 rfl rfl),trivial⟩,⟨rfl,(show ([122,101,114,111]:List UInt8).length ≤ LIMS by decide),(show ([111,110,101]:List UInt8).length ≤ LIMS by decide),(show ([116,119,111]:List UInt8).length ≤ LIMS by decide),(show ([102,101,119]:List UInt8).length ≤ LIMS by decide),(show ([109,97,110,121]:List UInt8).length ≤ LIMS by decide),(show ([111,116,104,101,114]:List UInt8).length ≤ LIMS by decide)⟩⟩
def qf3 (u:World) (m0:Mem) (S:Segs) (r:Int) (a:Act) (w:World):Prop :=
 Ok u m0 S w ∧ a.defers = [] ∧ RVs Tryz.prog a w [.t 4 (.int .i64 r)] ∧ InR .i64 r
theorem qh9 (N:Nat) (vs_0:Value) (s_0:List (List UInt8)) (hs_0:(pL 1 pS) m0 [vs_0] s_0) (v_1:List UInt8) (lv_1:v_1.length ≤ LIMS) {r:Int} (hF:qdu N s_0 v_1 = some r) (hG:Glob u) (ok:Ok u m0 S w) :
  Calls Tryz.prog 79 [vs_0,vs v_1].toArray w fun e w'=>(e = .returned (.int .i64 r) ∧ Ok u m0 S w') ∧ InR .i64 r:=by
 unfold qdu at hF
 refine en (qf3 u m0 S) r Tryz.func79 rfl rfl rfl (fun _ _ h=>rb h rfl) fun fin a E=>sg<|aw E rfl fun a E=>wp_seq<|sg<|mv E rfl fun a E=>lv E ok (qaz qhT hs_0 rfl) fun a E=>mv E rfl fun a E=>wn<|wp_block<|bd hF fun o2 hL hF=>qaE _ (fun (s:Int) a w=>Ok u m0 (S) w ∧ Env 19 a [(0,vs_0),(1,vs v_1),(7,(vi (s_0.length:Int))),(8,vi s)] ∧ InR .i64 s) (fun (b:(Unit ⊕ Int)) e a w=>(Sum.elim (fun b18=>e = (.exit 0) ∧ Ok u m0 (S) w ∧ Env 19 a []) (fun b19=>e = .ret ∧ qf3 u m0 S b19 a w)) b) ?_ ?_ N _ a w hL ⟨ok,E.keep [0,1,7,8],(ir 0)⟩
 rotate_left
 ·intro e a w _ hO
  rcases o2 with o2 | o2
  rotate_left
  ·obtain ⟨rfl,hret⟩:=hO
   refine qat<|qai ?_
   exact fin hF hret
  have hF:=qcA hF
  obtain ⟨rfl,ok,E⟩:=hO
  refine qaK<|qaa<|sg<|aw E rfl fun a E=>wp_ret ?_
  exact fin hF ⟨ok,E.d,rz E rfl,(ir (-1))⟩
 rintro v4 a w r ⟨ok,E,r5⟩ hF
 replace hF:qb3 N s_0 v_1 v4 = some r:=hF
 unfold qb3 at hF
 refine sg<|lw E (qaG rfl rfl) fun a E=>wn<|wp_seq<|cg E rfl hF (fun c6 hF=>?_) fun c6 hF=>?_
 ·refine wp_exit<|qay ?_
  cases hF
  exact so (sl ⟨rfl,⟨ok,E.keep []⟩⟩)
 refine wp_skip<|qaa<|wp_seq<|wp_block<|sg<|mv E rfl fun a E=>av E rfl fun a E=>wn<|sg<|mz E rfl rfl fun a E=>mv E rfl fun a E=>?_
 obtain ⟨x7,e8,hF⟩:=bnd hF
 obtain ⟨b9,o10,es11,hl12,rr13,at14,yy15⟩:=ia E 12 13 qhT hs_0 e8
 obtain ⟨rfl,l16⟩:=rr13
 refine lv E ok (yy15 _ _) fun a E=>lv E ok (qas qbY rfl (qac.ro at14)) fun a E=>lw E (qet rfl rfl) fun a E=>wn<|cg E rfl hF (fun c17 hF=>?_) fun c17 hF=>?_
 ·refine wp_skip<|qaq<|qaa<|qab<|lw E (qaA rfl rfl (InR.inc r5 (qan hs_0) c6)) fun a E=>mv E rfl fun a E=>wpList_nil ?_
  cases hF
  exact qaw ⟨ok,E.keep [0,1,7,8],(InR.inc r5 (qan hs_0) c6)⟩
 refine sg<|mv E rfl fun a E=>aw E rfl fun a E=>wp_ret<|qat<|qai ?_
 cases hF
 exact so (sr ⟨rfl,⟨ok,E.d,rz E rfl,r5⟩⟩)
def qhK (u:World) (m0:Mem) (S:Segs) (r:Bool) (a:Act) (w:World):Prop :=
 Ok u m0 S w ∧ a.defers = [] ∧ RVs Tryz.prog a w [.t 4 (.bool r)]
theorem qfq (N:Nat) (vs_0:Value) (s_0:List (List UInt8)) (hs_0:(pL 1 pS) m0 [vs_0] s_0) (v_1:List UInt8) (lv_1:v_1.length ≤ LIMS) {r:Bool} (hF:qbe N s_0 v_1 = some r) (hG:Glob u) (ok:Ok u m0 S w) :
  Calls Tryz.prog 56 [vs_0,vs v_1].toArray w fun e w'=>(e = .returned (.bool r) ∧ Ok u m0 S w'):=by
 unfold qbe at hF
 refine en (qhK u m0 S) r Tryz.func56 rfl rfl rfl (fun _ _ h=>ra h rfl) fun fin a E=>sg<|aw E rfl fun a E=>sg<|mz E rfl rfl fun a E=>bd hF fun r1 e2 hF=>qaf E qvu rfl (qh9 N _ s_0 hs_0 v_1 lv_1 e2 hG ok) rfl rfl ?_
 rintro _ w ⟨⟨rfl,ok⟩,r3⟩
 refine ⟨_,rfl,fun a E=>?_⟩
 refine lw E (qgq rfl rfl) fun a E=>aw E rfl fun a E=>wp_ret ?_
 exact fin hF ⟨ok,E.d,rz E rfl⟩
def qnV (u:World) (m0:Mem) (S:Segs) (r:Bool) (a:Act) (w:World):Prop :=
 Ok u m0 S w ∧ a.defers = [] ∧ RVs Tryz.prog a w [.t 2 (.bool r)]
theorem qnE (N:Nat) (class_0:List UInt8) (lclass_0:class_0.length ≤ LIMS) {r:Bool} (hF:qg3 N class_0 = some r) (hG:Glob u) (ok:Ok u m0 S w) :
  Calls Tryz.prog 29 [vs class_0].toArray w fun e w'=>(e = .returned (.bool r) ∧ Ok u m0 S w'):=by
 have hb0:=ok.base
 have le_m0:=Mem.le.refl m0
 unfold qg3 at hF
 refine en (qnV u m0 S) r Tryz.func29 rfl rfl rfl (fun _ _ h=>ra h rfl) fun fin a E=>sg<|aw E rfl fun a E=>sg<|bd hF fun r1 e2 hF=>qaf E qvc rfl (qkg N  e2 hG ok) rfl rfl ?_
 rintro _ w ⟨m3,vs4,rfl,hle,ok,h5⟩
 have le_m0:=le_m0.trans hle
 obtain ⟨rfl,l6,l7,l8,l9,l10,l11⟩:=h5
 refine ⟨_,rfl,fun a E=>?_⟩
 refine qaD E ok qnu rfl rfl fun b12 a w E ok=>qae E ok 0 rfl rfl rfl qrx rfl rfl ⟨rfl,rfl,rfl,rfl,rfl,rfl,trivial⟩ rfl rfl fun w ok=>wn<|sg<|lv E ok (qvn Tryz.underlying80 qsD rfl) fun a E=>?_
 have lits:=(show Lits 1 pS m3 [vs r1.e0,vs r1.e1,vs r1.e2,vs r1.e3,vs r1.e4,vs r1.e5] ([r1.e0,r1.e1,r1.e2,r1.e3,r1.e4,r1.e5]:List (List UInt8)) from ⟨⟨_,rfl,rfl,(qfz l6)⟩,⟨_,rfl,rfl,(qfz l7)⟩,⟨_,rfl,rfl,(qfz l8)⟩,⟨_,rfl,rfl,(qfz l9)⟩,⟨_,rfl,rfl,(qfz l10)⟩,⟨_,rfl,rfl,(qfz l11)⟩,trivial⟩)
 obtain ⟨m13,hle,ok,hfz⟩:=(ok.frs 0 rfl).freeze
 have h14:=qtb (n:=6) mS lits rfl hle hfz rfl rfl
 clear lits
 have le_m0:=le_m0.trans hle
 refine mv E rfl fun a E=>bd hF fun r15 e16 hF=>lc E qsH rfl (qfq N _ ([r1.e0,r1.e1,r1.e2,r1.e3,r1.e4,r1.e5]:List (List UInt8)) h14 class_0 lclass_0 e16 hG ok) fun w ok a E=>aw E rfl fun a E=>wp_ret ?_
 exact fin hF ⟨(ok).down hb0 le_m0,E.d,rz E rfl⟩
def qhu (u:World) (m0:Mem) (S:Segs) (r:Int) (a:Act) (w:World):Prop :=
 Ok u m0 S w ∧ a.defers = [] ∧ RVs Tryz.prog a w [.t 4 (.int .i64 r)] ∧ InR .i64 r
theorem qjL (N:Nat) (vs_0:Value) (s_0:List (Int)) (hs_0:(pL 1 (pI .i64)) m0 [vs_0] s_0) (v_1:Int) (rv_1:InR .i64 v_1) {r:Int} (hF:qe0 N s_0 v_1 = some r) (hG:Glob u) (ok:Ok u m0 S w) :
  Calls Tryz.prog 140 [vs_0,vi v_1].toArray w fun e w'=>(e = .returned (.int .i64 r) ∧ Ok u m0 S w') ∧ InR .i64 r:=by
 unfold qe0 at hF
 refine en (qhu u m0 S) r Tryz.func140 rfl rfl rfl (fun _ _ h=>rb h rfl) fun fin a E=>sg<|aw E rfl fun a E=>wp_seq<|sg<|mv E rfl fun a E=>lv E ok (qaz qhy hs_0 rfl) fun a E=>mv E rfl fun a E=>wn<|wp_block<|bd hF fun o2 hL hF=>qaE _ (fun (s:Int) a w=>Ok u m0 (S) w ∧ Env 19 a [(0,vs_0),(1,vi v_1),(7,(vi (s_0.length:Int))),(8,vi s)] ∧ InR .i64 s) (fun (b:(Unit ⊕ Int)) e a w=>(Sum.elim (fun b18=>e = (.exit 0) ∧ Ok u m0 (S) w ∧ Env 19 a []) (fun b19=>e = .ret ∧ qhu u m0 S b19 a w)) b) ?_ ?_ N _ a w hL ⟨ok,E.keep [0,1,7,8],(ir 0)⟩
 rotate_left
 ·intro e a w _ hO
  rcases o2 with o2 | o2
  rotate_left
  ·obtain ⟨rfl,hret⟩:=hO
   refine qat<|qai ?_
   exact fin hF hret
  have hF:=qcA hF
  obtain ⟨rfl,ok,E⟩:=hO
  refine qaK<|qaa<|sg<|aw E rfl fun a E=>wp_ret ?_
  exact fin hF ⟨ok,E.d,rz E rfl,(ir (-1))⟩
 rintro v4 a w r ⟨ok,E,r5⟩ hF
 replace hF:qc8 N s_0 v_1 v4 = some r:=hF
 unfold qc8 at hF
 refine sg<|lw E (qaG rfl rfl) fun a E=>wn<|wp_seq<|cg E rfl hF (fun c6 hF=>?_) fun c6 hF=>?_
 ·refine wp_exit<|qay ?_
  cases hF
  exact so (sl ⟨rfl,⟨ok,E.keep []⟩⟩)
 refine wp_skip<|qaa<|wp_seq<|wp_block<|sg<|mv E rfl fun a E=>av E rfl fun a E=>wn<|sg<|mz E rfl rfl fun a E=>mv E rfl fun a E=>?_
 obtain ⟨x7,e8,hF⟩:=bnd hF
 obtain ⟨b9,o10,es11,hl12,rr13,at14,yy15⟩:=ia E 12 13 qhy hs_0 e8
 obtain ⟨rfl,r16⟩:=rr13
 refine lv E ok (yy15 _ _) fun a E=>lv E ok (qas qav rfl (qac.ro at14)) fun a E=>lw E (qaH rfl rfl) fun a E=>wn<|cg E rfl hF (fun c17 hF=>?_) fun c17 hF=>?_
 ·refine wp_skip<|qaq<|qaa<|qab<|lw E (qaA rfl rfl (InR.inc r5 (qan hs_0) c6)) fun a E=>mv E rfl fun a E=>wpList_nil ?_
  cases hF
  exact qaw ⟨ok,E.keep [0,1,7,8],(InR.inc r5 (qan hs_0) c6)⟩
 refine sg<|mv E rfl fun a E=>aw E rfl fun a E=>wp_ret<|qat<|qai ?_
 cases hF
 exact so (sr ⟨rfl,⟨ok,E.d,rz E rfl,r5⟩⟩)
def qiW (u:World) (m0:Mem) (S:Segs) (r:Bool) (a:Act) (w:World):Prop :=
 Ok u m0 S w ∧ a.defers = [] ∧ RVs Tryz.prog a w [.t 4 (.bool r)]
theorem qiU (N:Nat) (vs_0:Value) (s_0:List (Int)) (hs_0:(pL 1 (pI .i64)) m0 [vs_0] s_0) (v_1:Int) (rv_1:InR .i64 v_1) {r:Bool} (hF:qc6 N s_0 v_1 = some r) (hG:Glob u) (ok:Ok u m0 S w) :
  Calls Tryz.prog 111 [vs_0,vi v_1].toArray w fun e w'=>(e = .returned (.bool r) ∧ Ok u m0 S w'):=by
 unfold qc6 at hF
 refine en (qiW u m0 S) r Tryz.func111 rfl rfl rfl (fun _ _ h=>ra h rfl) fun fin a E=>sg<|aw E rfl fun a E=>sg<|mz E rfl rfl fun a E=>bd hF fun r1 e2 hF=>qaf E quj rfl (qjL N _ s_0 hs_0 v_1 rv_1 e2 hG ok) rfl rfl ?_
 rintro _ w ⟨⟨rfl,ok⟩,r3⟩
 refine ⟨_,rfl,fun a E=>?_⟩
 refine lw E (qgq rfl rfl) fun a E=>aw E rfl fun a E=>wp_ret ?_
 exact fin hF ⟨ok,E.d,rz E rfl⟩
def qkn (u:World) (m0:Mem) (S:Segs) (r:Bool) (a:Act) (w:World):Prop :=
 Ok u m0 S w ∧ a.defers = [] ∧ RVs Tryz.prog a w [.t 4 (.bool r)]
theorem qhH (N:Nat) (operand_0:Int) (roperand_0:InR .i64 operand_0) (mod_1:Int) (rmod_1:InR .i64 mod_1) {r:Bool} (hF:qdp N operand_0 mod_1 = some r) (hG:Glob u) (ok:Ok u m0 S w) :
  Calls Tryz.prog 80 [vi operand_0,vi mod_1].toArray w fun e w'=>(e = .returned (.bool r) ∧ Ok u m0 S w'):=by
 unfold qdp at hF
 refine en (qkn u m0 S) r Tryz.func80 rfl rfl rfl (fun _ _ h=>ra h rfl) fun fin a E=>sg<|aw E rfl fun a E=>wp_seq<|sg<|mv E rfl fun a E=>wn<|wp_block<|wp_seq<|sg<|lw E (qaH rfl rfl) fun a E=>aw E rfl fun a E=>bd hF fun o1 hJ hF=>qbm (Q':=fun e a w=>e = .normal ∧ Ok u m0 (S) w ∧ Env 21 a [(1,vi mod_1),(5,vi operand_0),(6,vb o1)]) ?_ ?_
 ·have hF:=hJ
  refine cf E rfl hF (fun c2 hF=>?_) fun c2 hF=>?_
  ·refine wp_skip ?_
   cases hF
   exact ⟨rfl,⟨ok,E.keep [1,5,6]⟩⟩
  refine qab<|lw E (qaH rfl rfl) fun a E=>av E rfl fun a E=>wpList_nil ?_
  cases hF
  exact ⟨rfl,⟨ok,E.keep [1,5,6]⟩⟩
 intro e a w hO
 obtain ⟨rfl,ok,E⟩:=hO
 refine qaa<|cf E rfl hF (fun c3 hF=>?_) fun c3 hF=>?_
 ·refine sg<|qcT (R:=(pI .i64)) (xo:=[.const (vi 2),.const (vi 3),.const (vi 4),.const (vi 5),.const (vi 6),.const (vi 10),.const (vi 20),.const (vi 25),.const (vi 50),.const (vi 100)]) (xs:=([2,3,4,5,6,10,20,25,50,100]:List (Int))) E ok qhy qio rfl ⟨⟨_,rfl,rfl,(qfU (ir 2))⟩,⟨_,rfl,rfl,(qfU (ir 3))⟩,⟨_,rfl,rfl,(qfU (ir 4))⟩,⟨_,rfl,rfl,(qfU (ir 5))⟩,⟨_,rfl,rfl,(qfU (ir 6))⟩,⟨_,rfl,rfl,(qfU (ir 10))⟩,⟨_,rfl,rfl,(qfU (ir 20))⟩,⟨_,rfl,rfl,(qfU (ir 25))⟩,⟨_,rfl,rfl,(qfU (ir 50))⟩,⟨_,rfl,rfl,(qfU (ir 100))⟩,trivial⟩ rfl rfl rfl rfl fun c4 M5 a w E ok h6=>mv E rfl fun a E=>?_
  obtain ⟨r12,e13,hF⟩:=bnd hF
  obtain ⟨m7,hle9,ok8,hfz10⟩:=(ok.frs 0 rfl).freeze
  have h11:=ORow.froz (mI .i64) h6 hle9 hfz10 (by decide)
  refine qaf E qut rfl (qiU N _ ([2,3,4,5,6,10,20,25,50,100]:List (Int)) h11 mod_1 rmod_1 e13 hG ok8) rfl rfl ?_
  rintro _ w ⟨rfl,okz⟩
  replace ok:=(Ok.thawAt 0 rfl ok hle9 hfz10 okz)
  refine ⟨_,rfl,fun a E=>?_⟩
  refine aw E rfl fun a E=>wp_ret<|qat<|qai ?_
  exact fin hF ⟨ok.drop,E.d,rz E rfl⟩
 refine wp_seq<|sg<|lw E (qaH rfl rfl) fun a E=>aw E rfl fun a E=>bd hF fun o14 hJ hF=>qbm (Q':=fun e a w=>e = .normal ∧ Ok u m0 (S) w ∧ Env 21 a [(1,vi mod_1),(12,vb o14)]) ?_ ?_
 ·have hF:=hJ
  refine cf E rfl hF (fun c15 hF=>?_) fun c15 hF=>?_
  ·refine wp_skip ?_
   cases hF
   exact ⟨rfl,⟨ok,E.keep [1,12]⟩⟩
  refine qab<|lw E (qaH rfl rfl) fun a E=>av E rfl fun a E=>wpList_nil ?_
  cases hF
  exact ⟨rfl,⟨ok,E.keep [1,12]⟩⟩
 intro e a w hO
 obtain ⟨rfl,ok,E⟩:=hO
 refine qaa<|cg E rfl hF (fun c16 hF=>?_) fun c16 hF=>?_
 ·refine wp_skip<|qaq<|qaa<|sg<|aw E rfl fun a E=>wp_ret ?_
  exact fin hF ⟨ok,E.d,rz E rfl⟩
 refine sg<|mv E rfl fun a E=>lw E (qaH rfl rfl) fun a E=>mv E rfl fun a E=>bu E 17 hF (fun c17 hF E=>?_) fun c17 hF E=>?_
 ·refine lsq E fun a E=>pt E rfl rfl fun a E=>aw E rfl fun a E=>wp_ret<|qat<|qai ?_
  exact fin hF ⟨ok,E.d,rz E rfl⟩
 refine mv E rfl fun a E=>lw E (qaH rfl rfl) fun a E=>pf E rfl rfl fun a E=>aw E rfl fun a E=>wp_ret<|qat<|qai ?_
 exact fin hF ⟨ok,E.d,rz E rfl⟩
def qkx (u:World) (m0:Mem) (S:Segs) (r:Int) (a:Act) (w:World):Prop :=
 Ok u m0 S w ∧ a.defers = [] ∧ RVs Tryz.prog a w [.t 2 (.int .i64 r)] ∧ InR .i64 r
theorem qcY (N:Nat) (operand_0:Int) (roperand_0:InR .i64 operand_0) {r:Int} (hF:qce N operand_0 = some r) (hG:Glob u) (ok:Ok u m0 S w) :
  Calls Tryz.prog 81 [vi operand_0].toArray w fun e w'=>(e = .returned (.int .i64 r) ∧ Ok u m0 S w') ∧ InR .i64 r:=by
 unfold qce at hF
 refine en (qkx u m0 S) r Tryz.func81 rfl rfl rfl (fun _ _ h=>rb h rfl) fun fin a E=>sg<|aw E rfl fun a E=>wp_seq<|sg<|mv E rfl fun a E=>lw E (qaH rfl rfl) fun a E=>mv E rfl fun a E=>bu E 5 hF (fun c1 hF E=>?_) fun c1 hF E=>?_
 ·refine lsq E fun a E=>pt E rfl rfl fun a E=>wn<|c_if E rfl (fun _=>?_) (fun h=>by cases h)
  refine sg<|aw E rfl fun a E=>wp_ret<|qai ?_
  exact fin hF ⟨ok,E.d,rz E rfl,(ir 6)⟩
 refine mv E rfl fun a E=>lw E (qaH rfl rfl) fun a E=>pf E rfl rfl fun a E=>wn<|cf E rfl hF (fun c2 hF=>?_) fun c2 hF=>?_
 ·refine sg<|aw E rfl fun a E=>wp_ret<|qai ?_
  exact fin hF ⟨ok,E.d,rz E rfl,(ir 6)⟩
 refine wp_skip<|qaa<|sg<|aw E rfl fun a E=>wp_ret ?_
 exact fin hF ⟨ok,E.d,rz E rfl,(ir 100)⟩
def qg1 (u:World) (m0:Mem) (S:Segs) (r:Bool) (a:Act) (w:World):Prop :=
 Ok u m0 S w ∧ a.defers = [] ∧ RVs Tryz.prog a w [.t 2 (.bool r)]
theorem qlg (N:Nat) (vr_0:List Value) (r_0:Relation) (hr_0:qag m0 vr_0 r_0) {r:Bool} (hF:qfg N r_0 = some r) (hG:Glob u) (ok:Ok u m0 S w) :
  Calls Tryz.prog 58 [.agg vr_0.toArray].toArray w fun e w'=>(e = .returned (.bool r) ∧ Ok u m0 S w'):=by
 obtain ⟨c3,rfl,r1,r2,h4⟩:=hr_0
 unfold qfg at hF
 refine en (qg1 u m0 S) r Tryz.func58 rfl rfl rfl (fun _ _ h=>ra h rfl) fun fin a E=>sg<|qcp E ok rfl rfl rfl fun b5 a w E ok=>aw E rfl fun a E=>wp_seq<|sg<|fk E ok qeE qav rfl 0 rfl rfl fun a E=>lw E (qaG rfl rfl) fun a E=>mv E rfl fun a E=>bu E 8 hF (fun c6 hF E=>?_) fun c6 hF E=>?_
 ·refine lsq E fun a E=>ls E fun a E=>pt E rfl rfl fun a E=>mv E rfl fun a E=>lsz E fun a E=>lsz E fun a E=>lsq E fun a E=>ls E fun a E=>?_
  refine pt E rfl rfl fun a E=>mv E rfl fun a E=>lsz E fun a E=>pt E rfl rfl fun a E=>mv E rfl fun a E=>lsz E fun a E=>pt E rfl rfl fun a E=>wn<|c_if E rfl (fun _=>?_) (fun h=>by cases h)
  refine sg<|aw E rfl fun a E=>wp_ret<|qai ?_
  exact fin hF ⟨ok.drop,E.d,rz E rfl⟩
 refine fk E ok qeE qav rfl 0 rfl rfl fun a E=>lw E (qdy rfl rfl) fun a E=>pf E rfl rfl fun a E=>mv E rfl fun a E=>bu E 13 hF (fun c7 hF E=>?_) fun c7 hF E=>?_
 ·refine lsz E fun a E=>lsz E fun a E=>lsq E fun a E=>ls E fun a E=>pt E rfl rfl fun a E=>mv E rfl fun a E=>lsq E fun a E=>ls E fun a E=>?_
  refine ls E fun a E=>pt E rfl rfl fun a E=>mv E rfl fun a E=>lsz E fun a E=>pt E rfl rfl fun a E=>wn<|c_if E rfl (fun _=>?_) (fun h=>by cases h)
  refine sg<|aw E rfl fun a E=>wp_ret<|qai ?_
  exact fin hF ⟨ok.drop,E.d,rz E rfl⟩
 refine fk E ok qhI qav rfl 0 rfl rfl fun a E=>lw E (qa1 rfl rfl) fun a E=>mv E rfl fun a E=>bw E 17 hF (fun c8 hF E=>?_) fun c8 hF E=>?_
 ·as_aux_lemma =>
   refine lsz E fun a E=>lsq E fun a E=>pf E rfl rfl fun a E=>pf E rfl rfl fun a E=>mv E rfl fun a E=>fk E ok qdM qfb rfl 0 rfl rfl fun a E=>lv E ok (qaz qdP h4 rfl) fun a E=>lw E (qaG rfl rfl) fun a E=>pf E rfl rfl fun a E=>mv E rfl fun a E=>bu E 32 hF (fun c40 hF E=>?_) fun c40 hF E=>?_
   ·refine lsz E fun a E=>pt E rfl rfl fun a E=>wn<|c_if E rfl (fun _=>?_) (fun h=>by cases h)
    refine sg<|aw E rfl fun a E=>wp_ret<|qai ?_
    exact fin hF ⟨ok.drop,E.d,rz E rfl⟩
   refine fk E ok qdM qfb rfl 0 rfl rfl fun a E=>lv E ok (qaz qdP h4 rfl) fun a E=>lw E (qdy rfl rfl) fun a E=>pf E rfl rfl fun a E=>wn<|cf E rfl hF (fun c41 hF=>?_) fun c41 hF=>?_
   ·refine sg<|aw E rfl fun a E=>wp_ret<|qai ?_
    exact fin hF ⟨ok.drop,E.d,rz E rfl⟩
   refine wp_skip<|qaa<|wp_seq<|sg<|fk E ok qdM qfb rfl 0 rfl rfl fun a E=>lv E ok (qaz qdP h4 rfl) fun a E=>mv E rfl fun a E=>wn<|wp_block<|bd hF fun o43 hL hF=>qaE _ (fun (s:Int) a w=>Ok u m0 ([(b5,oc 52 [vi r_0.Operand,vi r_0.Mod,vb r_0.Not,c3])] :: S) w ∧ Env 64 a [(1,vp b5),(39,c3),(40,(vi (r_0.Spans.length:Int))),(41,vi s)] ∧ InR .i64 s) (fun (b:(Unit ⊕ Bool)) e a w=>(Sum.elim (fun b66=>e = (.exit 0) ∧ Ok u m0 ([(b5,oc 52 [vi r_0.Operand,vi r_0.Mod,vb r_0.Not,c3])] :: S) w ∧ Env 64 a []) (fun b67=>e = .ret ∧ qg1 u m0 S b67 a w)) b) ?_ ?_ N _ a w hL ⟨ok,E.keep [1,39,40,41],(ir 0)⟩
   rotate_left
   ·intro e a w _ hO
    rcases o43 with o43 | o43
    rotate_left
    ·obtain ⟨rfl,hret⟩:=hO
     refine qat<|qai ?_
     exact fin hF hret
    have hF:=qcA hF
    obtain ⟨rfl,ok,E⟩:=hO
    refine qaK<|qaa<|sg<|aw E rfl fun a E=>wp_ret ?_
    exact fin hF ⟨ok.drop,E.d,rz E rfl⟩
   rintro v45 a w r ⟨ok,E,r46⟩ hF
   replace hF:qfl N r_0 v45 = some r:=hF
   unfold qfl at hF
   refine sg<|lw E (qaG rfl rfl) fun a E=>wn<|wp_seq<|cg E rfl hF (fun c47 hF=>?_) fun c47 hF=>?_
   ·refine wp_exit<|qay ?_
    cases hF
    exact so (sl ⟨rfl,⟨ok,E.keep []⟩⟩)
   refine wp_skip<|qaa<|wp_seq<|wp_block<|sg ?_
   obtain ⟨x48,e49,hF⟩:=bnd hF
   obtain ⟨b50,o51,es52,hl53,rr54,at55,yy56⟩:=ia E 39 41 qdP h4 e49
   obtain ⟨rfl,r57,r58⟩:=rr54
   refine lv E ok (yy56 _ _) fun a E=>lv E ok (qaj (cs:=[vi x48.From,vi x48.To]) qhx rfl rfl (qac.ro at55)) fun a E=>qaD E ok qev rfl rfl fun b59 a w E ok=>qae E ok 0 rfl rfl rfl qin rfl rfl ⟨rfl,rfl,trivial⟩ rfl rfl fun w ok=>wn<|wp_seq<|qgZ (by kernel_rfl) (by kernel_rfl) ok<|qv E (qau qhg rfl) fun a E=>qv E (qas qav rfl (qac.own 0 rfl rfl)) fun a E=>qv E (qaG rfl rfl) fun a E=>qv E (qal rfl) fun a E=>bu E 48 hF (fun c60 hF E=>?_) fun c60 hF E=>?_
   ·refine qs E fun a E=>qs E fun a E=>qs E fun a E=>qs E fun a E=>qs E fun a E=>qv E (qcg rfl rfl) fun a E=>qv E (qal rfl) fun a E=>qs E fun a E=>qs E fun a E=>qs E fun a E=>qs E fun a E=>qs E fun a E=>qs E fun a E=>qv E (qcg rfl rfl) fun a E=>wpQuiet_nil ?_
    intro w ok
    refine qaa<|c_if E rfl (fun _=>?_) (fun h=>by cases h)
    refine sg<|aw E rfl fun a E=>wp_ret<|qat<|qai ?_
    cases hF
    exact so (sr ⟨rfl,⟨ok.drop.drop,E.d,rz E rfl⟩⟩)
   refine qv E (qau qhg rfl) fun a E=>qv E (qas qav rfl (qac.own 0 rfl rfl)) fun a E=>qv E (qau qgB rfl) fun a E=>qv E (qas qav rfl (qac.own 0 rfl rfl)) fun a E=>qv E (qdy rfl rfl) fun a E=>qv E (qcw rfl rfl) fun a E=>qv E (qal rfl) fun a E=>bu E 55 hF (fun c61 hF E=>?_) fun c61 hF E=>?_
   ·refine qs E fun a E=>qs E fun a E=>qs E fun a E=>qs E fun a E=>qs E fun a E=>qs E fun a E=>qv E (qcg rfl rfl) fun a E=>wpQuiet_nil ?_
    intro w ok
    refine qaa<|c_if E rfl (fun _=>?_) (fun h=>by cases h)
    refine sg<|aw E rfl fun a E=>wp_ret<|qat<|qai ?_
    cases hF
    exact so (sr ⟨rfl,⟨ok.drop.drop,E.d,rz E rfl⟩⟩)
   refine qv E (qau qgB rfl) fun a E=>qv E (qas qav rfl (qac.own 0 rfl rfl)) fun a E=>qv E (qau qeE rfl) fun a E=>qv E (qas qav rfl (qac.own 1 rfl rfl)) fun a E=>?_
   obtain ⟨r62,e63,hF⟩:=bnd hF
   obtain ⟨_,_,⟨_,_⟩,r64⟩:=Go.X.Calls.get (qcY N r_0.Operand r1 e63 hG ok)
   refine qiy E qoK rfl (fun w ok=>(qcY N r_0.Operand r1 e63 hG ok).mono (fun _ _ h=>h.1)) rfl rfl fun a E=>qv E (qdy rfl rfl) fun a E=>qv E (qcw rfl rfl) fun a E=>wpQuiet_nil ?_
   intro w ok
   refine qaa<|cg E rfl hF (fun c65 hF=>?_) fun c65 hF=>?_
   ·refine wp_skip<|qaq<|qaa<|qab<|lw E (qaA rfl rfl (InR.inc r46 (qan h4) c47)) fun a E=>mv E rfl fun a E=>wpList_nil ?_
    cases hF
    exact qaw ⟨(ok.pk 2 [1] rfl (by decide)),E.keep [1,39,40,41],(InR.inc r46 (qan h4) c47)⟩
   refine sg<|aw E rfl fun a E=>wp_ret<|qat<|qai ?_
   cases hF
   exact so (sr ⟨rfl,⟨ok.drop.drop,E.d,rz E rfl⟩⟩)
 refine fk E ok qeE qav rfl 0 rfl rfl fun a E=>fk E ok qhI qav rfl 0 rfl rfl fun a E=>bd hF fun r9 e10 hF=>lc E qsS rfl (qhH N r_0.Operand r1 r_0.Mod r2 e10 hG ok) fun w ok a E=>lw E (qaU rfl) fun a E=>pt E rfl rfl fun a E=>pf E rfl rfl fun a E=>mv E rfl fun a E=>bu E 26 hF (fun c11 hF E=>?_) fun c11 hF E=>?_
 ·refine lsz E fun a E=>pt E rfl rfl fun a E=>mv E rfl fun a E=>lsz E fun a E=>pt E rfl rfl fun a E=>wn<|c_if E rfl (fun _=>?_) (fun h=>by cases h)
  refine sg<|aw E rfl fun a E=>wp_ret<|qai ?_
  exact fin hF ⟨ok.drop,E.d,rz E rfl⟩
 refine fk E ok qdM qfb rfl 0 rfl rfl fun a E=>lv E ok (qaz qdP h4 rfl) fun a E=>lw E (qaG rfl rfl) fun a E=>pf E rfl rfl fun a E=>mv E rfl fun a E=>bu E 32 hF (fun c12 hF E=>?_) fun c12 hF E=>?_
 ·refine lsz E fun a E=>pt E rfl rfl fun a E=>wn<|c_if E rfl (fun _=>?_) (fun h=>by cases h)
  refine sg<|aw E rfl fun a E=>wp_ret<|qai ?_
  exact fin hF ⟨ok.drop,E.d,rz E rfl⟩
 refine fk E ok qdM qfb rfl 0 rfl rfl fun a E=>lv E ok (qaz qdP h4 rfl) fun a E=>lw E (qdy rfl rfl) fun a E=>pf E rfl rfl fun a E=>wn<|cf E rfl hF (fun c13 hF=>?_) fun c13 hF=>?_
 ·refine sg<|aw E rfl fun a E=>wp_ret<|qai ?_
  exact fin hF ⟨ok.drop,E.d,rz E rfl⟩
 refine wp_skip<|qaa<|wp_seq<|sg<|fk E ok qdM qfb rfl 0 rfl rfl fun a E=>lv E ok (qaz qdP h4 rfl) fun a E=>mv E rfl fun a E=>wn<|wp_block<|bd hF fun o15 hL hF=>qaE _ (fun (s:Int) a w=>Ok u m0 ([(b5,oc 52 [vi r_0.Operand,vi r_0.Mod,vb r_0.Not,c3])] :: S) w ∧ Env 64 a [(1,vp b5),(39,c3),(40,(vi (r_0.Spans.length:Int))),(41,vi s)] ∧ InR .i64 s) (fun (b:(Unit ⊕ Bool)) e a w=>(Sum.elim (fun b38=>e = (.exit 0) ∧ Ok u m0 ([(b5,oc 52 [vi r_0.Operand,vi r_0.Mod,vb r_0.Not,c3])] :: S) w ∧ Env 64 a []) (fun b39=>e = .ret ∧ qg1 u m0 S b39 a w)) b) ?_ ?_ N _ a w hL ⟨ok,E.keep [1,39,40,41],(ir 0)⟩
 rotate_left
 ·intro e a w _ hO
  rcases o15 with o15 | o15
  rotate_left
  ·obtain ⟨rfl,hret⟩:=hO
   refine qat<|qai ?_
   exact fin hF hret
  have hF:=qcA hF
  obtain ⟨rfl,ok,E⟩:=hO
  refine qaK<|qaa<|sg<|aw E rfl fun a E=>wp_ret ?_
  exact fin hF ⟨ok.drop,E.d,rz E rfl⟩
 rintro v17 a w r ⟨ok,E,r18⟩ hF
 replace hF:qdo N r_0 v17 = some r:=hF
 unfold qdo at hF
 refine sg<|lw E (qaG rfl rfl) fun a E=>wn<|wp_seq<|cg E rfl hF (fun c19 hF=>?_) fun c19 hF=>?_
 ·refine wp_exit<|qay ?_
  cases hF
  exact so (sl ⟨rfl,⟨ok,E.keep []⟩⟩)
 refine wp_skip<|qaa<|wp_seq<|wp_block<|sg ?_
 obtain ⟨x20,e21,hF⟩:=bnd hF
 obtain ⟨b22,o23,es24,hl25,rr26,at27,yy28⟩:=ia E 39 41 qdP h4 e21
 obtain ⟨rfl,r29,r30⟩:=rr26
 refine lv E ok (yy28 _ _) fun a E=>lv E ok (qaj (cs:=[vi x20.From,vi x20.To]) qhx rfl rfl (qac.ro at27)) fun a E=>qaD E ok qev rfl rfl fun b31 a w E ok=>qae E ok 0 rfl rfl rfl qin rfl rfl ⟨rfl,rfl,trivial⟩ rfl rfl fun w ok=>wn<|wp_seq<|qgZ (by kernel_rfl) (by kernel_rfl) ok<|qv E (qau qhg rfl) fun a E=>qv E (qas qav rfl (qac.own 0 rfl rfl)) fun a E=>qv E (qaG rfl rfl) fun a E=>qv E (qal rfl) fun a E=>bu E 48 hF (fun c32 hF E=>?_) fun c32 hF E=>?_
 ·refine qs E fun a E=>qs E fun a E=>qs E fun a E=>qs E fun a E=>qs E fun a E=>qv E (qcg rfl rfl) fun a E=>qv E (qal rfl) fun a E=>qs E fun a E=>qs E fun a E=>qs E fun a E=>qs E fun a E=>qs E fun a E=>qs E fun a E=>qv E (qcg rfl rfl) fun a E=>wpQuiet_nil ?_
  intro w ok
  refine qaa<|c_if E rfl (fun _=>?_) (fun h=>by cases h)
  refine sg<|aw E rfl fun a E=>wp_ret<|qat<|qai ?_
  cases hF
  exact so (sr ⟨rfl,⟨ok.drop.drop,E.d,rz E rfl⟩⟩)
 refine qv E (qau qhg rfl) fun a E=>qv E (qas qav rfl (qac.own 0 rfl rfl)) fun a E=>qv E (qau qgB rfl) fun a E=>qv E (qas qav rfl (qac.own 0 rfl rfl)) fun a E=>qv E (qdy rfl rfl) fun a E=>qv E (qcw rfl rfl) fun a E=>qv E (qal rfl) fun a E=>bu E 55 hF (fun c33 hF E=>?_) fun c33 hF E=>?_
 ·refine qs E fun a E=>qs E fun a E=>qs E fun a E=>qs E fun a E=>qs E fun a E=>qs E fun a E=>qv E (qcg rfl rfl) fun a E=>wpQuiet_nil ?_
  intro w ok
  refine qaa<|c_if E rfl (fun _=>?_) (fun h=>by cases h)
  refine sg<|aw E rfl fun a E=>wp_ret<|qat<|qai ?_
  cases hF
  exact so (sr ⟨rfl,⟨ok.drop.drop,E.d,rz E rfl⟩⟩)
 refine qv E (qau qgB rfl) fun a E=>qv E (qas qav rfl (qac.own 0 rfl rfl)) fun a E=>qv E (qau qeE rfl) fun a E=>qv E (qas qav rfl (qac.own 1 rfl rfl)) fun a E=>?_
 obtain ⟨r34,e35,hF⟩:=bnd hF
 obtain ⟨_,_,⟨_,_⟩,r36⟩:=Go.X.Calls.get (qcY N r_0.Operand r1 e35 hG ok)
 refine qiy E qoK rfl (fun w ok=>(qcY N r_0.Operand r1 e35 hG ok).mono (fun _ _ h=>h.1)) rfl rfl fun a E=>qv E (qdy rfl rfl) fun a E=>qv E (qcw rfl rfl) fun a E=>wpQuiet_nil ?_
 intro w ok
 refine qaa<|cg E rfl hF (fun c37 hF=>?_) fun c37 hF=>?_
 ·refine wp_skip<|qaq<|qaa<|qab<|lw E (qaA rfl rfl (InR.inc r18 (qan h4) c19)) fun a E=>mv E rfl fun a E=>wpList_nil ?_
  cases hF
  exact qaw ⟨(ok.pk 2 [1] rfl (by decide)),E.keep [1,39,40,41],(InR.inc r18 (qan h4) c19)⟩
 refine sg<|aw E rfl fun a E=>wp_ret<|qat<|qai ?_
 cases hF
 exact so (sr ⟨rfl,⟨ok.drop.drop,E.d,rz E rfl⟩⟩)
def qk9 (u:World) (m0:Mem) (S:Segs) (r:Bool) (a:Act) (w:World):Prop :=
 Ok u m0 S w ∧ a.defers = [] ∧ RVs Tryz.prog a w [.t 2 (.bool r)]
theorem qkY (N:Nat) (vr_0:List Value) (r_0:Relation) (hr_0:qag m0 vr_0 r_0) {r:Bool} (hF:qfQ N r_0 = some r) (hG:Glob u) (ok:Ok u m0 S w) :
  Calls Tryz.prog 57 [.agg vr_0.toArray].toArray w fun e w'=>(e = .returned (.bool r) ∧ Ok u m0 S w'):=by
 obtain ⟨c3,rfl,r1,r2,h4⟩:=hr_0
 unfold qfQ at hF
 refine en (qk9 u m0 S) r Tryz.func57 rfl rfl rfl (fun _ _ h=>ra h rfl) fun fin a E=>sg<|qcp E ok rfl rfl rfl fun b5 a w E ok=>aw E rfl fun a E=>sg<|lv E ok (qaj (cs:=[vi r_0.Operand,vi r_0.Mod,vb r_0.Not,c3]) qcG rfl rfl (qac.own 0 rfl rfl)) fun a E=>bd hF fun r6 e7 hF=>lc E qvj rfl (qlg N _ r_0 ⟨_,rfl,r1,r2,h4⟩ e7 hG ok) fun w ok a E=>lw E (qaU rfl) fun a E=>aw E rfl fun a E=>wp_ret ?_
 exact fin hF ⟨ok.drop,E.d,rz E rfl⟩
def qcL (u:World) (m0:Mem) (S:Segs) (r:Int) (a:Act) (w:World):Prop :=
 Ok u m0 S w ∧ a.defers = [] ∧ RVs Tryz.prog a w [.t 4 (.int .i64 r)] ∧ InR .i64 r
theorem qfk (N:Nat) (vs_0:Value) (s_0:List (Relation)) (hs_0:(pL 4 qag) m0 [vs_0] s_0) {r:Int} (hF:qbh N s_0 = some r) (hG:Glob u) (ok:Ok u m0 S w) :
  Calls Tryz.prog 74 [vs_0,.func (.func 57) #[] #[]].toArray w fun e w'=>(e = .returned (.int .i64 r) ∧ Ok u m0 S w') ∧ InR .i64 r:=by
 unfold qbh at hF
 refine en (qcL u m0 S) r Tryz.func74 rfl rfl rfl (fun _ _ h=>rb h rfl) fun fin a E=>sg<|aw E rfl fun a E=>wp_seq<|sg<|mv E rfl fun a E=>lv E ok (qaz qcu hs_0 rfl) fun a E=>mv E rfl fun a E=>wn<|wp_block<|bd hF fun o2 hL hF=>qaE _ (fun (s:Int) a w=>Ok u m0 (S) w ∧ Env 19 a [(0,vs_0),(1,(Value.func (.func 57) #[] #[])),(7,(vi (s_0.length:Int))),(8,vi s)] ∧ InR .i64 s) (fun (b:(Unit ⊕ Int)) e a w=>(Sum.elim (fun b23=>e = (.exit 0) ∧ Ok u m0 (S) w ∧ Env 19 a []) (fun b24=>e = .ret ∧ qcL u m0 S b24 a w)) b) ?_ ?_ N _ a w hL ⟨ok,E.keep [0,1,7,8],(ir 0)⟩
 rotate_left
 ·intro e a w _ hO
  rcases o2 with o2 | o2
  rotate_left
  ·obtain ⟨rfl,hret⟩:=hO
   refine qat<|qai ?_
   exact fin hF hret
  have hF:=qcA hF
  obtain ⟨rfl,ok,E⟩:=hO
  refine qaK<|qaa<|sg<|aw E rfl fun a E=>wp_ret ?_
  exact fin hF ⟨ok,E.d,rz E rfl,(ir (-1))⟩
 rintro v4 a w r ⟨ok,E,r5⟩ hF
 replace hF:qaN N s_0 v4 = some r:=hF
 unfold qaN at hF
 refine sg<|lw E (qaG rfl rfl) fun a E=>wn<|wp_seq<|cg E rfl hF (fun c6 hF=>?_) fun c6 hF=>?_
 ·refine wp_exit<|qay ?_
  cases hF
  exact so (sl ⟨rfl,⟨ok,E.keep []⟩⟩)
 refine wp_skip<|qaa<|wp_seq<|wp_block<|sg<|mv E rfl fun a E=>av E rfl fun a E=>wn<|sg<|mz E rfl rfl fun a E=>mv E rfl fun a E=>?_
 obtain ⟨x7,e8,hF⟩:=bnd hF
 obtain ⟨b9,o10,es11,hl12,rr13,at14,yy15⟩:=ia E 12 13 qcu hs_0 e8
 obtain ⟨c18,rfl,r16,r17,h19⟩:=rr13
 refine lv E ok (yy15 _ _) fun a E=>lv E ok (qaj (cs:=[vi x7.Operand,vi x7.Mod,vb x7.Not,c18]) qcG rfl rfl (qac.ro at14)) fun a E=>bd hF fun r20 e21 hF=>qi2 E rfl qvb rfl (qkY N _ x7 ⟨_,rfl,r16,r17,h19⟩ e21 hG ok) rfl rfl ?_
 rintro _ w ⟨rfl,ok⟩
 refine ⟨_,rfl,fun a E=>?_⟩
 refine wn<|cg E rfl hF (fun c22 hF=>?_) fun c22 hF=>?_
 ·refine wp_skip<|qaq<|qaa<|qab<|lw E (qaA rfl rfl (InR.inc r5 (qan hs_0) c6)) fun a E=>mv E rfl fun a E=>wpList_nil ?_
  cases hF
  exact qaw ⟨ok,E.keep [0,1,7,8],(InR.inc r5 (qan hs_0) c6)⟩
 refine sg<|mv E rfl fun a E=>aw E rfl fun a E=>wp_ret<|qat<|qai ?_
 cases hF
 exact so (sr ⟨rfl,⟨ok,E.d,rz E rfl,r5⟩⟩)
def qeQ (u:World) (m0:Mem) (S:Segs) (r:Bool) (a:Act) (w:World):Prop :=
 Ok u m0 S w ∧ a.defers = [] ∧ RVs Tryz.prog a w [.t 4 (.bool r)]
theorem qeV (N:Nat) (vs_0:Value) (s_0:List (Relation)) (hs_0:(pL 4 qag) m0 [vs_0] s_0) {r:Bool} (hF:qaM N s_0 = some r) (hG:Glob u) (ok:Ok u m0 S w) :
  Calls Tryz.prog 51 [vs_0,.func (.func 57) #[] #[]].toArray w fun e w'=>(e = .returned (.bool r) ∧ Ok u m0 S w'):=by
 unfold qaM at hF
 refine en (qeQ u m0 S) r Tryz.func51 rfl rfl rfl (fun _ _ h=>ra h rfl) fun fin a E=>sg<|aw E rfl fun a E=>sg<|mz E rfl rfl fun a E=>bd hF fun r1 e2 hF=>qaf E qsR rfl (qfk N _ s_0 hs_0 e2 hG ok) rfl rfl ?_
 rintro _ w ⟨⟨rfl,ok⟩,r3⟩
 refine ⟨_,rfl,fun a E=>?_⟩
 refine lw E (qgq rfl rfl) fun a E=>aw E rfl fun a E=>wp_ret ?_
 exact fin hF ⟨ok,E.d,rz E rfl⟩
def qiH (u:World) (m0:Mem) (S:Segs) (r:Bool) (a:Act) (w:World):Prop :=
 Ok u m0 S w ∧ a.defers = [] ∧ RVs Tryz.prog a w [.t 2 (.bool r)]
theorem qfT (N:Nat) (vc_0:Value) (c_0:List (List (Relation))) (hc_0:(pL 1 (pL 4 qag)) m0 [vc_0] c_0) {r:Bool} (hF:qdk N c_0 = some r) (hG:Glob u) (ok:Ok u m0 S w) :
  Calls Tryz.prog 30 [vc_0].toArray w fun e w'=>(e = .returned (.bool r) ∧ Ok u m0 S w'):=by
 unfold qdk at hF
 refine en (qiH u m0 S) r Tryz.func30 rfl rfl rfl (fun _ _ h=>ra h rfl) fun fin a E=>sg<|aw E rfl fun a E=>sg<|aw E rfl fun a E=>wp_seq<|sg<|mv E rfl fun a E=>lv E ok (qaz qfR hc_0 rfl) fun a E=>mv E rfl fun a E=>wn<|wp_block<|bd hF fun o3 hL hF=>qaE _ (fun (s:Int × Int) a w=>Ok u m0 (S) w ∧ Env 31 a [(0,vc_0),(3,vi s.1),(6,vc_0),(7,(vi (c_0.length:Int))),(8,vi s.2)] ∧ InR .i64 s.1 ∧ InR .i64 s.2) (fun (b:(Int ⊕ Bool)) e a w=>(Sum.elim (fun b28=>e = (.exit 0) ∧ Ok u m0 (S) w ∧ Env 31 a [(0,vc_0),(3,vi b28)] ∧ InR .i64 b28) (fun b30=>e = .ret ∧ qiH u m0 S b30 a w)) b) ?_ ?_ N _ a w hL ⟨ok,E.keep [0,3,6,7,8],(ir 0),(ir 0)⟩
 rotate_left
 ·intro e a w _ hO
  rcases o3 with o3 | o3
  rotate_left
  ·obtain ⟨rfl,hret⟩:=hO
   refine qat<|qai ?_
   exact fin hF hret
  have hF:=qcA hF
  obtain ⟨rfl,ok,E,r26⟩:=hO
  refine qaK<|qaa<|sg<|mv E rfl fun a E=>lv E ok (qaz qfR hc_0 rfl) fun a E=>lw E (qdy rfl rfl) fun a E=>mv E rfl fun a E=>bu E 27 hF (fun c27 hF E=>?_) fun c27 hF E=>?_
  ·refine mv E rfl fun a E=>lw E (qik rfl rfl) fun a E=>pt E rfl rfl fun a E=>aw E rfl fun a E=>wp_ret ?_
   exact fin hF ⟨ok,E.d,rz E rfl⟩
  refine lsq E fun a E=>pf E rfl rfl fun a E=>aw E rfl fun a E=>wp_ret ?_
  exact fin hF ⟨ok,E.d,rz E rfl⟩
 rintro ⟨v6,v7⟩ a w r ⟨ok,E,r8,r9⟩ hF
 replace hF:qcb N c_0 v6 v7 = some r:=hF
 unfold qcb at hF
 refine sg<|lw E (qaG rfl rfl) fun a E=>wn<|wp_seq<|cg E rfl hF (fun c10 hF=>?_) fun c10 hF=>?_
 ·refine wp_exit<|qay ?_
  cases hF
  exact so (sl ⟨rfl,⟨ok,E.keep [0,3],r8⟩⟩)
 refine wp_skip<|qaa<|wp_seq<|wp_block<|sg ?_
 obtain ⟨x11,e12,hF⟩:=bnd hF
 obtain ⟨b13,o14,es15,hl16,rr17,at18,yy19⟩:=ia E 6 8 qfR hc_0 e12
 obtain ⟨c20,rfl,h21⟩:=qef rr17
 refine lv E ok (yy19 _ _) fun a E=>lv E ok (qas qgs rfl (qac.ro at18)) fun a E=>aw E rfl fun a E=>wp_seq<|sg<|mv E rfl fun a E=>lv E ok (qaz qcu h21 rfl) fun a E=>lw E (qaH rfl rfl) fun a E=>mv E rfl fun a E=>bu E 15 hF (fun c22 hF E=>?_) fun c22 hF E=>?_
 ·refine lsq E fun a E=>pt E rfl rfl fun a E=>wn<|c_if E rfl (fun _=>?_) (fun h=>by cases h)
  refine sg<|aw E rfl fun a E=>wp_ret<|qai<|qat<|qai ?_
  cases hF
  exact so (sr ⟨rfl,⟨ok,E.d,rz E rfl⟩⟩)
 refine mv E rfl fun a E=>bd hF fun r23 e24 hF=>lc E qsA rfl (qeV N _ x11 h21 e24 hG ok) fun w ok a E=>pf E rfl rfl fun a E=>wn<|cf E rfl hF (fun c25 hF=>?_) fun c25 hF=>?_
 ·refine sg<|aw E rfl fun a E=>wp_ret<|qai<|qat<|qai ?_
  cases hF
  exact so (sr ⟨rfl,⟨ok,E.d,rz E rfl⟩⟩)
 refine wp_skip<|qaa<|qab<|mz E rfl rfl fun a E=>lv E ok (qaz qcu h21 rfl) fun a E=>lw E (qbr rfl rfl) fun a E=>av E rfl fun a E=>wpList_nil<|qaq<|qaa<|qab<|lw E (qaA rfl rfl (InR.inc r9 (qan hc_0) c10)) fun a E=>mv E rfl fun a E=>wpList_nil ?_
 cases hF
 exact qaw ⟨ok,E.keep [0,3,6,7,8],(InR.wrap _ _),(InR.inc r9 (qan hc_0) c10)⟩
def qmj (u:World) (m0:Mem) (S:Segs) (pb0:Nat) (x0:Rule) (c5:Value) (r:Bool) (a:Act) (w:World):Prop :=
 Ok u m0 ([(pb0,oc 44 [vs x0.Class,c5])] :: S) w ∧ a.defers = [] ∧ RVs Tryz.prog a w [.t 3 (.bool r)]
theorem qmD (N:Nat) (vx_0:List Value) (x_0:Rule) (hx_0:qdV m0 vx_0 x_0) {pb0:Nat} {c5:Value} (x0:Rule) (l4:x0.Class.length ≤ LIMS) (h6:(pL 1 (pL 4 qag)) m0 [c5] x0.Cond) {r:Bool} (hF:qhe N x_0 x0 = some r) (hG:Glob u) (ok:Ok u m0 ([(pb0,oc 44 [vs x0.Class,c5])] :: S) w) :
  Calls Tryz.prog 32 [.agg vx_0.toArray,vp pb0].toArray w fun e w'=>(e = .returned (.bool r) ∧ Ok u m0 ([(pb0,oc 44 [vs x0.Class,c5])] :: S) w'):=by
 obtain ⟨c2,rfl,l1,h3⟩:=hx_0
 unfold qhe at hF
 refine en (qmj u m0 S pb0 x0 c5) r Tryz.func32 rfl rfl rfl (fun _ _ h=>ra h rfl) fun fin a E=>sg<|qcp E ok rfl rfl rfl fun b7 a w E ok=>aw E rfl fun a E=>sg<|fk E ok qi3 qbY rfl 0 rfl rfl fun a E=>fk E ok qi3 qbY rfl 1 rfl rfl fun a E=>lw E (qet rfl rfl) fun a E=>av E rfl fun a E=>wn<|wp_ret ?_
 exact fin hF ⟨ok.drop,E.d,rz E rfl⟩
def qdU (u:World) (m0:Mem) (S:Segs) (pb0:Nat) (x0:Rule) (c2:Value) (r:Int) (a:Act) (w:World):Prop :=
 Ok u m0 ([(pb0,oc 44 [vs x0.Class,c2])] :: S) w ∧ a.defers = [] ∧ RVs Tryz.prog a w [.t 4 (.int .i64 r)] ∧ InR .i64 r
theorem qgm (N:Nat) (vs_0:Value) (s_0:List (Rule)) (hs_0:(pL 2 qdV) m0 [vs_0] s_0) {pb0:Nat} {c2:Value} (x0:Rule) (l1:x0.Class.length ≤ LIMS) (h3:(pL 1 (pL 4 qag)) m0 [c2] x0.Cond) {r:Int} (hF:qbO N s_0 x0 = some r) (hG:Glob u) (ok:Ok u m0 ([(pb0,oc 44 [vs x0.Class,c2])] :: S) w) :
  Calls Tryz.prog 59 [vs_0,Value.func (.func 32) #[] #[.pointer (some ⟨pb0,0,none⟩)]].toArray w fun e w'=>(e = .returned (.int .i64 r) ∧ Ok u m0 ([(pb0,oc 44 [vs x0.Class,c2])] :: S) w') ∧ InR .i64 r:=by
 unfold qbO at hF
 refine en (qdU u m0 S pb0 x0 c2) r Tryz.func59 rfl rfl rfl (fun _ _ h=>rb h rfl) fun fin a E=>sg<|aw E rfl fun a E=>wp_seq<|sg<|mv E rfl fun a E=>lv E ok (qaz qdQ hs_0 rfl) fun a E=>mv E rfl fun a E=>wn<|wp_block<|bd hF fun o5 hL hF=>qaE _ (fun (s:Int) a w=>Ok u m0 ([(pb0,oc 44 [vs x0.Class,c2])] :: S) w ∧ Env 19 a [(0,vs_0),(1,(Value.func (.func 32) #[] #[.pointer (some ⟨pb0,0,none⟩)])),(7,(vi (s_0.length:Int))),(8,vi s)] ∧ InR .i64 s) (fun (b:(Unit ⊕ Int)) e a w=>(Sum.elim (fun b25=>e = (.exit 0) ∧ Ok u m0 ([(pb0,oc 44 [vs x0.Class,c2])] :: S) w ∧ Env 19 a []) (fun b26=>e = .ret ∧ qdU u m0 S pb0 x0 c2 b26 a w)) b) ?_ ?_ N _ a w hL ⟨ok,E.keep [0,1,7,8],(ir 0)⟩
 rotate_left
 ·intro e a w _ hO
  rcases o5 with o5 | o5
  rotate_left
  ·obtain ⟨rfl,hret⟩:=hO
   refine qat<|qai ?_
   exact fin hF hret
  have hF:=qcA hF
  obtain ⟨rfl,ok,E⟩:=hO
  refine qaK<|qaa<|sg<|aw E rfl fun a E=>wp_ret ?_
  exact fin hF ⟨ok,E.d,rz E rfl,(ir (-1))⟩
 rintro v7 a w r ⟨ok,E,r8⟩ hF
 replace hF:qa6 N s_0 x0 v7 = some r:=hF
 unfold qa6 at hF
 refine sg<|lw E (qaG rfl rfl) fun a E=>wn<|wp_seq<|cg E rfl hF (fun c9 hF=>?_) fun c9 hF=>?_
 ·refine wp_exit<|qay ?_
  cases hF
  exact so (sl ⟨rfl,⟨ok,E.keep []⟩⟩)
 refine wp_skip<|qaa<|wp_seq<|wp_block<|sg<|mv E rfl fun a E=>av E rfl fun a E=>wn<|sg<|mz E rfl rfl fun a E=>mv E rfl fun a E=>?_
 obtain ⟨x10,e11,hF⟩:=bnd hF
 obtain ⟨b12,o13,es14,hl15,rr16,at17,yy18⟩:=ia E 12 13 qdQ hs_0 e11
 obtain ⟨c20,rfl,l19,h21⟩:=rr16
 refine lv E ok (yy18 _ _) fun a E=>lv E ok (qaj (cs:=[vs x10.Class,c20]) qjl rfl rfl (qac.ro at17)) fun a E=>bd hF fun r22 e23 hF=>qbJ E rfl qu9 rfl (qmD N _ x10 ⟨_,rfl,l19,h21⟩ x0 l1 h3 e23 hG ok) rfl rfl ?_
 rintro _ w ⟨rfl,ok⟩
 refine ⟨_,rfl,fun a E=>?_⟩
 refine wn<|cg E rfl hF (fun c24 hF=>?_) fun c24 hF=>?_
 ·refine wp_skip<|qaq<|qaa<|qab<|lw E (qaA rfl rfl (InR.inc r8 (qan hs_0) c9)) fun a E=>mv E rfl fun a E=>wpList_nil ?_
  cases hF
  exact qaw ⟨ok,E.keep [0,1,7,8],(InR.inc r8 (qan hs_0) c9)⟩
 refine sg<|mv E rfl fun a E=>aw E rfl fun a E=>wp_ret<|qat<|qai ?_
 cases hF
 exact so (sr ⟨rfl,⟨ok,E.d,rz E rfl,r8⟩⟩)
def qfM (u:World) (m0:Mem) (S:Segs) (pb0:Nat) (x0:Rule) (c2:Value) (r:Bool) (a:Act) (w:World):Prop :=
 Ok u m0 ([(pb0,oc 44 [vs x0.Class,c2])] :: S) w ∧ a.defers = [] ∧ RVs Tryz.prog a w [.t 4 (.bool r)]
theorem qfN (N:Nat) (vs_0:Value) (s_0:List (Rule)) (hs_0:(pL 2 qdV) m0 [vs_0] s_0) {pb0:Nat} {c2:Value} (x0:Rule) (l1:x0.Class.length ≤ LIMS) (h3:(pL 1 (pL 4 qag)) m0 [c2] x0.Cond) {r:Bool} (hF:qa5 N s_0 x0 = some r) (hG:Glob u) (ok:Ok u m0 ([(pb0,oc 44 [vs x0.Class,c2])] :: S) w) :
  Calls Tryz.prog 31 [vs_0,Value.func (.func 32) #[] #[.pointer (some ⟨pb0,0,none⟩)]].toArray w fun e w'=>(e = .returned (.bool r) ∧ Ok u m0 ([(pb0,oc 44 [vs x0.Class,c2])] :: S) w'):=by
 unfold qa5 at hF
 refine en (qfM u m0 S pb0 x0 c2) r Tryz.func31 rfl rfl rfl (fun _ _ h=>ra h rfl) fun fin a E=>sg<|aw E rfl fun a E=>sg<|mz E rfl rfl fun a E=>bd hF fun r4 e5 hF=>qaf E qvp rfl (qgm N _ s_0 hs_0 x0 l1 h3 e5 hG ok) rfl rfl ?_
 rintro _ w ⟨⟨rfl,ok⟩,r6⟩
 refine ⟨_,rfl,fun a E=>?_⟩
 refine lw E (qgq rfl rfl) fun a E=>aw E rfl fun a E=>wp_ret ?_
 exact fin hF ⟨ok,E.d,rz E rfl⟩
def qkh (u:World) (m0:Mem) (S:Segs) (r:Bool) (a:Act) (w:World):Prop :=
 Ok u m0 S w ∧ a.defers = [] ∧ RVs Tryz.prog a w [.t 2 (.bool r)]
theorem qjX (N:Nat) (vl_0:Value) (l_0:List (Rule)) (hl_0:(pL 2 qdV) m0 [vl_0] l_0) {r:Bool} (hF:qf7 N l_0 = some r) (hG:Glob u) (ok:Ok u m0 S w) :
  Calls Tryz.prog 13 [vl_0].toArray w fun e w'=>(e = .returned (.bool r) ∧ Ok u m0 S w'):=by
 unfold qf7 at hF
 refine en (qkh u m0 S) r Tryz.func13 rfl rfl rfl (fun _ _ h=>ra h rfl) fun fin a E=>sg<|aw E rfl fun a E=>wp_seq<|sg<|mv E rfl fun a E=>lv E ok (qaz qdQ hl_0 rfl) fun a E=>mv E rfl fun a E=>wn<|wp_block<|bd hF fun o2 hL hF=>qaE _ (fun (s:Int) a w=>Ok u m0 (S) w ∧ Env 35 a [(0,vl_0),(5,vl_0),(6,(vi (l_0.length:Int))),(7,vi s)] ∧ InR .i64 s) (fun (b:(Unit ⊕ Bool)) e a w=>(Sum.elim (fun b35=>e = (.exit 0) ∧ Ok u m0 (S) w ∧ Env 35 a []) (fun b36=>e = .ret ∧ qkh u m0 S b36 a w)) b) ?_ ?_ N _ a w hL ⟨ok,E.keep [0,5,6,7],(ir 0)⟩
 rotate_left
 ·intro e a w _ hO
  rcases o2 with o2 | o2
  rotate_left
  ·obtain ⟨rfl,hret⟩:=hO
   refine qat<|qai ?_
   exact fin hF hret
  have hF:=qcA hF
  obtain ⟨rfl,ok,E⟩:=hO
  refine qaK<|qaa<|sg<|aw E rfl fun a E=>wp_ret ?_
  exact fin hF ⟨ok,E.d,rz E rfl⟩
 rintro v4 a w r ⟨ok,E,r5⟩ hF
 replace hF:qdh N l_0 v4 = some r:=hF
 unfold qdh at hF
 refine sg<|lw E (qaG rfl rfl) fun a E=>wn<|wp_seq<|cg E rfl hF (fun c6 hF=>?_) fun c6 hF=>?_
 ·refine wp_exit<|qay ?_
  cases hF
  exact so (sl ⟨rfl,⟨ok,E.keep []⟩⟩)
 refine wp_skip<|qaa<|wp_seq<|wp_block<|sg<|mv E rfl fun a E=>?_
 obtain ⟨x7,e8,hF⟩:=bnd hF
 obtain ⟨b9,o10,es11,hl12,rr13,at14,yy15⟩:=ia E 5 7 qdQ hl_0 e8
 obtain ⟨c17,rfl,l16,h18⟩:=rr13
 refine lv E ok (yy15 _ _) fun a E=>lv E ok (qaj (cs:=[vs x7.Class,c17]) qjl rfl rfl (qac.ro at14)) fun a E=>qaD E ok qgz rfl rfl fun b19 a w E ok=>av E rfl fun a E=>qae E ok 0 rfl rfl rfl qlh rfl rfl ⟨rfl,(qhv h18),trivial⟩ rfl rfl fun w ok=>wn<|sg<|fk E ok qi3 qbY rfl 0 rfl rfl fun a E=>bd hF fun r20 e21 hF=>lc E qvA rfl (qnE N x7.Class l16 e21 hG ok) fun w ok a E=>lw E (qaU rfl) fun a E=>mv E rfl fun a E=>bu E 16 hF (fun c22 hF E=>?_) fun c22 hF E=>?_
 ·refine lsq E fun a E=>ls E fun a E=>pt E rfl rfl fun a E=>mv E rfl fun a E=>lsz E fun a E=>pt E rfl rfl fun a E=>mv E rfl fun a E=>lsz E fun a E=>ls E fun a E=>?_
  refine pt E rfl rfl fun a E=>wn<|c_if E rfl (fun _=>?_) (fun h=>by cases h)
  refine sg<|aw E rfl fun a E=>wp_ret<|qat<|qai ?_
  cases hF
  exact so (sr ⟨rfl,⟨ok.drop,E.d,rz E rfl⟩⟩)
 refine fk E ok qi3 qbY rfl 0 rfl rfl fun a E=>lw E (qet rfl rfl) fun a E=>pf E rfl rfl fun a E=>mv E rfl fun a E=>bu E 21 hF (fun c23 hF E=>?_) fun c23 hF E=>?_
 ·refine lsz E fun a E=>pt E rfl rfl fun a E=>mv E rfl fun a E=>lsz E fun a E=>ls E fun a E=>pt E rfl rfl fun a E=>wn<|c_if E rfl (fun _=>?_) (fun h=>by cases h)
  refine sg<|aw E rfl fun a E=>wp_ret<|qat<|qai ?_
  cases hF
  exact so (sr ⟨rfl,⟨ok.drop,E.d,rz E rfl⟩⟩)
 refine fk E ok qi5 qe9 rfl 0 rfl rfl fun a E=>bd hF fun r24 e25 hF=>lc E qoM rfl (qfT N _ x7.Cond h18 e25 hG ok) fun w ok a E=>lw E (qaU rfl) fun a E=>pf E rfl rfl fun a E=>mv E rfl fun a E=>bu E 27 hF (fun c26 hF E=>?_) fun c26 hF E=>?_
 ·refine lsz E fun a E=>ls E fun a E=>pt E rfl rfl fun a E=>wn<|c_if E rfl (fun _=>?_) (fun h=>by cases h)
  refine sg<|aw E rfl fun a E=>wp_ret<|qat<|qai ?_
  cases hF
  exact so (sr ⟨rfl,⟨ok.drop,E.d,rz E rfl⟩⟩)
 refine mz E rfl rfl fun a E=>?_
 obtain ⟨l27,e28,hF⟩:=bnd hF
 obtain ⟨c29,h30,yy31⟩:=qr2 qdQ hl_0 e28 (P:=Tryz.prog) (X:=.tmp 28) (lov:=none) (hiv:=(some (.tmp 29))) (qbo E rfl) (qsC E rfl) (qsC E ⟨_,rfl⟩)
 refine lv E ok (yy31 _ _) fun a E=>lv E ok (qbn (caps:=[.tmp 4]) rfl) fun a E=>bd hF fun r32 e33 hF=>lc E qvD rfl (qfN N _ l27 h30 x7 l16 h18 e33 hG ok) fun w ok a E=>pf E rfl rfl fun a E=>wn<|cg E rfl hF (fun c34 hF=>?_) fun c34 hF=>?_
 ·refine wp_skip<|qaq<|qaa<|qab<|lw E (qaA rfl rfl (InR.inc r5 (qan hl_0) c6)) fun a E=>mv E rfl fun a E=>wpList_nil ?_
  cases hF
  exact qaw ⟨(ok.pk 1 [] rfl (by decide)),E.keep [0,5,6,7],(InR.inc r5 (qan hl_0) c6)⟩
 refine sg<|aw E rfl fun a E=>wp_ret<|qat<|qai ?_
 cases hF
 exact so (sr ⟨rfl,⟨ok.drop,E.d,rz E rfl⟩⟩)
theorem qla {u:World} {m0:Mem} {S:Segs} {w:World} (N:Nat) (p0_0:List UInt8) (lp0_0:p0_0.length ≤ LIMS) (p1_1:List UInt8) (lp1_1:p1_1.length ≤ LIMS) {r:(List UInt8) × Bool} (hF:strings_CutPrefix N p0_0 p1_1 = some r) (hG:Glob u) (ok:Ok u m0 S w) :
 Calls Tryz.prog 101 [vs p0_0,vs p1_1].toArray w fun e w'=>(e = .returned (.tuple [(.string (bs r.1)),(.bool r.2)].toArray) ∧ Ok u m0 S w') ∧ r.1.length ≤ LIMS:=qox Tryz.lays103 p0_0 p1_1 hF lp0_0 ok
theorem qkc {u:World} {m0:Mem} {S:Segs} {w:World} (N:Nat) (p0_0:List UInt8) (lp0_0:p0_0.length ≤ LIMS) (p1_1:List UInt8) (lp1_1:p1_1.length ≤ LIMS) {r:(List UInt8)} (hF:qff N p0_0 p1_1 = some r) (hG:Glob u) (ok:Ok u m0 S w) :
 Calls Tryz.prog 133 [vs p0_0,vs p1_1].toArray w fun e w'=>(e = .returned (.string (bs r)) ∧ Ok u m0 S w') ∧ r.length ≤ LIMS:=qrZ Tryz.lays160 (by kernel_rfl) p0_0 p1_1 hF lp0_0 ok
def qmp (u:World) (m0:Mem) (S:Segs) (r:Bool) (a:Act) (w:World):Prop :=
 Ok u m0 S w ∧ a.defers = [] ∧ RVs Tryz.prog a w [.t 2 (.bool r)]
theorem qfc (N:Nat) (s_0:List UInt8) (ls_0:s_0.length ≤ LIMS) {r:Bool} (hF:qcV N s_0 = some r) (hG:Glob u) (ok:Ok u m0 S w) :
  Calls Tryz.prog 103 [vs s_0].toArray w fun e w'=>(e = .returned (.bool r) ∧ Ok u m0 S w'):=by
 unfold qcV at hF
 refine en (qmp u m0 S) r Tryz.func103 rfl rfl rfl (fun _ _ h=>ra h rfl) fun fin a E=>sg<|aw E rfl fun a E=>sg<|mv E rfl fun a E=>bd hF fun r1 e2 hF=>qaf E qrr rfl (qkc N s_0 ls_0 ([48,49,50,51,52,53,54,55,56,57]) (show ([48,49,50,51,52,53,54,55,56,57]:List UInt8).length ≤ LIMS by decide) e2 hG ok) rfl rfl ?_
 rintro _ w ⟨⟨rfl,ok⟩,l3⟩
 refine ⟨_,rfl,fun a E=>?_⟩
 refine lw E (qet rfl rfl) fun a E=>aw E rfl fun a E=>wp_ret ?_
 exact fin hF ⟨ok,E.d,rz E rfl⟩
def qnw (u:World) (m0:Mem) (S:Segs) (r:Bool) (a:Act) (w:World):Prop :=
 Ok u m0 S w ∧ a.defers = [] ∧ RVs Tryz.prog a w [.t 2 (.bool r)]
theorem qko (N:Nat) (s_0:List UInt8) (ls_0:s_0.length ≤ LIMS) {r:Bool} (hF:qgb N s_0 = some r) (hG:Glob u) (ok:Ok u m0 S w) :
  Calls Tryz.prog 134 [vs s_0].toArray w fun e w'=>(e = .returned (.bool r) ∧ Ok u m0 S w'):=by
 unfold qgb at hF
 refine en (qnw u m0 S) r Tryz.func134 rfl rfl rfl (fun _ _ h=>ra h rfl) fun fin a E=>sg<|aw E rfl fun a E=>sg<|mv E rfl fun a E=>bd hF fun r1 e2 hF=>qaf E qrr rfl (qkc N s_0 ls_0 ([48]) (show ([48]:List UInt8).length ≤ LIMS by decide) e2 hG ok) rfl rfl ?_
 rintro _ w ⟨⟨rfl,ok⟩,l3⟩
 refine ⟨_,rfl,fun a E=>?_⟩
 refine lw E (qet rfl rfl) fun a E=>aw E rfl fun a E=>wp_ret ?_
 exact fin hF ⟨ok,E.d,rz E rfl⟩
def qjY (u:World) (m0:Mem) (S:Segs) (r:Bool) (a:Act) (w:World):Prop :=
 Ok u m0 S w ∧ a.defers = [] ∧ RVs Tryz.prog a w [.t 2 (.bool r)]
theorem qez (N:Nat) (vx_0:List Value) (x_0:Number) (hx_0:qnR m0 vx_0 x_0) {r:Bool} (hF:qcy N x_0 = some r) (hG:Glob u) (ok:Ok u m0 S w) :
  Calls Tryz.prog 104 [.agg vx_0.toArray].toArray w fun e w'=>(e = .returned (.bool r) ∧ Ok u m0 S w'):=by
 obtain ⟨rfl,l1,l2⟩:=hx_0
 unfold qcy at hF
 refine en (qjY u m0 S) r Tryz.func104 rfl rfl rfl (fun _ _ h=>ra h rfl) fun fin a E=>sg<|qcp E ok rfl rfl rfl fun b3 a w E ok=>aw E rfl fun a E=>sg<|fk E ok qnX qbY rfl 0 rfl rfl fun a E=>bd hF fun r4 e5 hF=>lc E qrC rfl (qko N x_0.whole l1 e5 hG ok) fun w ok a E=>mv E rfl fun a E=>qdW r4 (fun c6=>?_) (fun c6=>?_)
 rotate_left
 ·have hF:=qdt c6 hF
  have E:=E.upd 6 c6 rfl
  refine lsq E fun a E=>ls E fun a E=>pf E rfl rfl fun a E=>aw E rfl fun a E=>wp_ret ?_
  exact fin hF ⟨ok.drop,E.d,rz E rfl⟩
 have hF:=qdr c6 hF
 have E:=E.upd 6 c6 rfl
 refine fk E ok qlT qbY rfl 0 rfl rfl fun a E=>bd hF fun r7 e8 hF=>lc E qrC rfl (qko N x_0.fraction l2 e8 hG ok) fun w ok a E=>pt E rfl rfl fun a E=>aw E rfl fun a E=>wp_ret ?_
 exact fin hF ⟨ok.drop,E.d,rz E rfl⟩
def qmT (u:World) (m0:Mem) (S:Segs) (r:Number × Bool) (a:Act) (w:World):Prop :=
 ∃ m1 v0,m0.le m1 ∧ Ok u m1 S w ∧ a.defers = [] ∧ RVs Tryz.prog a w [.c 2 92 (.agg v0.toArray),.t 3 (.bool r.2)] ∧ qnR m1 v0 r.1
theorem qjz (N:Nat) (s_0:List UInt8) (ls_0:s_0.length ≤ LIMS) {r:Number × Bool} (hF:qeJ N s_0 = some r) (hG:Glob u) (ok:Ok u m0 S w) :
  Calls Tryz.prog 72 [vs s_0].toArray w fun e w'=>∃ m1 v0,e = .returned (.tuple [(.agg v0.toArray),(.bool r.2)].toArray) ∧ m0.le m1 ∧ Ok u m1 S w' ∧ qnR m1 v0 r.1:=by
 have le_m0:=Mem.le.refl m0
 unfold qeJ at hF
 refine en (qmT u m0 S) r Tryz.func72 rfl rfl rfl (by rintro a w ⟨m1,v0,hle,ok,hd,hrv,h0⟩; exact qaZ [.c 2 92 (.agg v0.toArray),.t 3 (.bool r.2)] hd rfl hrv ⟨m1,v0,rfl,hle,ok,h0⟩) fun fin a E=>sg<|qaD E ok qkd rfl rfl fun b1 a w E ok=>aw E rfl fun a E=>sg<|mv E rfl fun a E=>bd hF fun r2 e3 hF=>qaf E qt3 rfl (qla N s_0 ls_0 ([45]) (show ([45]:List UInt8).length ≤ LIMS by decide) e3 hG ok) rfl rfl ?_
 rintro _ w ⟨⟨rfl,ok⟩,l4⟩
 refine ⟨_,rfl,fun a E=>?_⟩
 refine mv E rfl fun a E=>lw E (qak rfl rfl) fun a E=>lw E (qak rfl rfl) fun a E=>av E rfl fun a E=>aw E rfl fun a E=>sg<|mv E rfl fun a E=>bd hF fun r5 e6 hF=>qaf E quw rfl (qnr N r2.1 l4 ([46]) (show ([46]:List UInt8).length ≤ LIMS by decide) e6 hG ok) rfl rfl ?_
 rintro _ w ⟨⟨rfl,ok⟩,l7,l8⟩
 refine ⟨_,rfl,fun a E=>?_⟩
 refine mv E rfl fun a E=>lw E (qak rfl rfl) fun a E=>lw E (qak rfl rfl) fun a E=>lw E (qak rfl rfl) fun a E=>av E rfl fun a E=>av E rfl fun a E=>av E rfl fun a E=>wn<|sg<|mz E rfl rfl fun a E=>mv E rfl fun a E=>lw E (qbW (ps:=[(0,.tmp 21),(1,.tmp 22),(2,.tmp 23)]) (qs:=[(0,[vb r2.2]),(1,[vs r5.1]),(2,[vs r5.2.1])]) (cs:=[vb r2.2,vs r5.1,vs r5.2.1]) qkd qrI rfl ⟨rfl,rfl,rfl,⟨rfl,rfl,rfl,⟨rfl,rfl,rfl,trivial⟩⟩⟩ rfl) fun a E=>qaD E ok qkd rfl rfl fun b9 a w E ok=>?_
 refine qae E ok 0 rfl rfl rfl qct rfl rfl ⟨rfl,rfl,rfl,trivial⟩ rfl rfl fun w ok=>wn<|wp_seq<|wp_block<|sg<|mv E rfl fun a E=>lw E (qaL Tryz.underlying9 rfl) fun a E=>lw E (qaG rfl rfl) fun a E=>mv E rfl fun a E=>bu E 29 hF (fun c10 hF E=>?_) fun c10 hF E=>?_
 ·refine lsq E fun a E=>ls E fun a E=>pt E rfl rfl fun a E=>mv E rfl fun a E=>lsq E fun a E=>ls E fun a E=>pt E rfl rfl fun a E=>mv E rfl fun a E=>lsz E fun a E=>lsq E fun a E=>?_
  refine lsq E fun a E=>pt E rfl rfl fun a E=>aw E rfl fun a E=>c_if E rfl (fun _=>?_) (fun h=>by cases h)
  refine sg<|lv E ok (qaj (cs:=[vb r2.2,vs r5.1,vs r5.2.1]) qaR rfl rfl (qac.own 0 rfl rfl)) fun a E=>qae E ok 1 rfl rfl rfl qct rfl rfl ⟨rfl,rfl,rfl,trivial⟩ rfl rfl fun w ok=>aw E rfl fun a E=>wp_ret<|qat<|qai ?_
  exact fin hF ⟨m0,[vb r2.2,vs r5.1,vs r5.2.1],le_m0,ok.drop.drop,E.d,⟨rv_c (cs:=[vb r2.2,vs r5.1,vs r5.2.1]) E ok rfl qaR rfl (qac.own 1 rfl rfl),rv_t E rfl,trivial⟩,⟨rfl,l7,l8⟩⟩
 refine mv E rfl fun a E=>lw E (qaL Tryz.underlying9 rfl) fun a E=>lw E (qdy rfl rfl) fun a E=>pf E rfl rfl fun a E=>mv E rfl fun a E=>bu E 34 hF (fun c11 hF E=>?_) fun c11 hF E=>?_
 ·refine lsq E fun a E=>ls E fun a E=>pt E rfl rfl fun a E=>mv E rfl fun a E=>lsz E fun a E=>lsz E fun a E=>pt E rfl rfl fun a E=>av E rfl fun a E=>wn<|c_if E rfl (fun _=>?_) (fun h=>by cases h)
  refine sg<|lv E ok (qaj (cs:=[vb r2.2,vs r5.1,vs r5.2.1]) qaR rfl rfl (qac.own 0 rfl rfl)) fun a E=>qae E ok 1 rfl rfl rfl qct rfl rfl ⟨rfl,rfl,rfl,trivial⟩ rfl rfl fun w ok=>aw E rfl fun a E=>wp_ret<|qat<|qai ?_
  exact fin hF ⟨m0,[vb r2.2,vs r5.1,vs r5.2.1],le_m0,ok.drop.drop,E.d,⟨rv_c (cs:=[vb r2.2,vs r5.1,vs r5.2.1]) E ok rfl qaR rfl (qac.own 1 rfl rfl),rv_t E rfl,trivial⟩,⟨rfl,l7,l8⟩⟩
 refine mv E rfl fun a E=>bd hF fun r12 e13 hF=>lc E qlH rfl (qfc N r5.1 l7 e13 hG ok) fun w ok a E=>lw E (qaU rfl) fun a E=>pf E rfl rfl fun a E=>mv E rfl fun a E=>bu E 39 hF (fun c14 hF E=>?_) fun c14 hF E=>?_
 ·refine lsz E fun a E=>lsz E fun a E=>pt E rfl rfl fun a E=>aw E rfl fun a E=>c_if E rfl (fun _=>?_) (fun h=>by cases h)
  refine sg<|lv E ok (qaj (cs:=[vb r2.2,vs r5.1,vs r5.2.1]) qaR rfl rfl (qac.own 0 rfl rfl)) fun a E=>qae E ok 1 rfl rfl rfl qct rfl rfl ⟨rfl,rfl,rfl,trivial⟩ rfl rfl fun w ok=>aw E rfl fun a E=>wp_ret<|qat<|qai ?_
  exact fin hF ⟨m0,[vb r2.2,vs r5.1,vs r5.2.1],le_m0,ok.drop.drop,E.d,⟨rv_c (cs:=[vb r2.2,vs r5.1,vs r5.2.1]) E ok rfl qaR rfl (qac.own 1 rfl rfl),rv_t E rfl,trivial⟩,⟨rfl,l7,l8⟩⟩
 refine mv E rfl fun a E=>lw E (qaL Tryz.underlying9 rfl) fun a E=>lw E (qdy rfl rfl) fun a E=>mv E rfl fun a E=>bw E 43 hF (fun c15 hF E=>?_) fun c15 hF E=>?_
 ·as_aux_lemma =>
   refine lsq E fun a E=>ls E fun a E=>pf E rfl rfl fun a E=>pf E rfl rfl fun a E=>aw E rfl fun a E=>c_if E rfl (fun h=>by cases h) (fun _=>?_)
   refine sg<|mz E rfl rfl fun a E=>qdW r5.2.2 (fun c45=>?_) (fun c45=>?_)
   rotate_left
   ·as_aux_lemma =>
     have hF:=qdt c45 hF
     have E:=E.upd 52 c45 rfl
     refine lsq E fun a E=>ls E fun a E=>pf E rfl rfl fun a E=>mz E rfl rfl fun a E=>lw E (qaL Tryz.underlying9 rfl) fun a E=>lw E (qdy rfl rfl) fun a E=>pf E rfl rfl fun a E=>mv E rfl fun a E=>bu E 62 hF (fun c59 hF E=>?_) fun c59 hF E=>?_
     ·refine lsq E fun a E=>ls E fun a E=>pt E rfl rfl fun a E=>aw E rfl fun a E=>c_if E rfl (fun _=>?_) (fun h=>by cases h)
      refine sg<|lv E ok (qaj (cs:=[vb r2.2,vs r5.1,vs r5.2.1]) qaR rfl rfl (qac.own 0 rfl rfl)) fun a E=>qae E ok 1 rfl rfl rfl qct rfl rfl ⟨rfl,rfl,rfl,trivial⟩ rfl rfl fun w ok=>aw E rfl fun a E=>wp_ret<|qat<|qai ?_
      exact fin hF ⟨m0,[vb r2.2,vs r5.1,vs r5.2.1],le_m0,ok.drop.drop,E.d,⟨rv_c (cs:=[vb r2.2,vs r5.1,vs r5.2.1]) E ok rfl qaR rfl (qac.own 1 rfl rfl),rv_t E rfl,trivial⟩,⟨rfl,l7,l8⟩⟩
     refine mv E rfl fun a E=>bd hF fun r60 e61 hF=>lc E qlH rfl (qfc N r5.2.1 l8 e61 hG ok) fun w ok a E=>lw E (qaU rfl) fun a E=>pf E rfl rfl fun a E=>aw E rfl fun a E=>cf E rfl hF (fun c62 hF=>?_) fun c62 hF=>?_
     ·refine sg<|lv E ok (qaj (cs:=[vb r2.2,vs r5.1,vs r5.2.1]) qaR rfl rfl (qac.own 0 rfl rfl)) fun a E=>qae E ok 1 rfl rfl rfl qct rfl rfl ⟨rfl,rfl,rfl,trivial⟩ rfl rfl fun w ok=>aw E rfl fun a E=>wp_ret<|qat<|qai ?_
      exact fin hF ⟨m0,[vb r2.2,vs r5.1,vs r5.2.1],le_m0,ok.drop.drop,E.d,⟨rv_c (cs:=[vb r2.2,vs r5.1,vs r5.2.1]) E ok rfl qaR rfl (qac.own 1 rfl rfl),rv_t E rfl,trivial⟩,⟨rfl,l7,l8⟩⟩
     refine wp_skip<|qaq<|qaa<|wp_seq<|bd hF fun o63 hJ hF=>qbm (Q':=fun e a w=>e = .normal ∧ Ok u m0 ([(b9,oc 92 [vb r2.2,vs r5.1,vs r5.2.1])] :: [(b1,oc 92 [vb o63.2.negative,vs o63.2.whole,vs o63.2.fraction])] :: S) w ∧ Env 76 a [(2,vp b1),(3,vb o63.1)] ∧ o63.2.whole.length ≤ LIMS ∧ o63.2.fraction.length ≤ LIMS) ?_ ?_
     rotate_left
     ·intro e a w hO
      obtain ⟨rfl,ok,E,l69,l70⟩:=hO
      refine qaa<|wp_ret ?_
      exact fin hF ⟨m0,[vb o63.2.negative,vs o63.2.whole,vs o63.2.fraction],le_m0,ok.drop.drop,E.d,⟨rv_c (cs:=[vb o63.2.negative,vs o63.2.whole,vs o63.2.fraction]) E ok rfl qaR rfl (qac.own 1 rfl rfl),rv_t E rfl,trivial⟩,⟨rfl,l69,l70⟩⟩
     have hF:=hJ
     refine qdW (!r2.2) (fun c66=>?_) (fun c66=>?_)
     ·have hF:=qdr c66 hF
      cases hF
      refine qcI [0] (Cls u m0 ([(b9,oc 92 [vb r2.2,vs r5.1,vs r5.2.1])] :: [(b1,oc 92 [vb false,(vs ([])),(vs ([]))])] :: [])) (Cls u m0 ([(b9,oc 92 [vb r2.2,vs r5.1,vs r5.2.1])] :: [])) (by kernel_rfl) ?_
      intro w hw
      replace ok:=qdF ok hw
      clear hw
      refine qar (cl1 (cq le_m0 ok [0,1] rfl) (cq le_m0 ok [0] rfl)) fun hT=>qcv 0 E rfl (by kernel_rfl) nP hT (qaj (cs:=[vb r2.2,vs r5.1,vs r5.2.1]) qaR rfl rfl (qac.cown 0 rfl rfl)) rfl rfl fun a E=>kt 1 E rfl hT (qal rfl) fun a E=>kt 2 E rfl hT (qaU rfl) fun a E=>kt 3 E rfl hT (qal rfl) fun a E=>?_
      have E:=E.upd 71 c66 rfl
      refine qc7 4 false E rfl (by kernel_rfl) nP hT rfl rfl fun a E=>qc7 5 false E rfl (by kernel_rfl) nP hT rfl rfl fun a E=>qc7 6 false E rfl (by kernel_rfl) nP hT rfl rfl fun a E=>kt 7 E rfl hT (qcg rfl rfl) fun a E=>qaF [8] (by kernel_rfl) rfl (qaJ ?_)
      ·refine wo rfl<|qae E ok 1 rfl rfl rfl qct rfl rfl ⟨rfl,rfl,rfl,trivial⟩ rfl rfl fun w ok=>wn<|qar (cl2 (by kernel_rfl) (cq le_m0 ok [0] rfl)) fun hT=>kt 9 E rfl hT (qax rfl) fun a E=>qbQ (by kernel_rfl) ?_
       exact ⟨rfl,⟨ok,E.keep [2,3],l7,l8⟩⟩
     have hF:=qdt c66 hF
     obtain ⟨r67,e68,hF⟩:=bnd hF
     obtain rfl:=sj hF
     refine qcI [0] (Cls u m0 ([(b9,oc 92 [vb r2.2,vs r5.1,vs r5.2.1])] :: [(b1,oc 92 [vb false,(vs ([])),(vs ([]))])] :: [])) (Cls u m0 ([(b9,oc 92 [vb r2.2,vs r5.1,vs r5.2.1])] :: [])) (by kernel_rfl) ?_
     intro w hw
     replace ok:=qdF ok hw
     clear hw
     refine qar (cl1 (cq le_m0 ok [0,1] rfl) (cq le_m0 ok [0] rfl)) fun hT=>qcv 0 E rfl (by kernel_rfl) nP hT (qaj (cs:=[vb r2.2,vs r5.1,vs r5.2.1]) qaR rfl rfl (qac.cown 0 rfl rfl)) rfl rfl fun a E=>kt 1 E rfl hT (qal rfl) fun a E=>kt 2 E rfl hT (qaU rfl) fun a E=>kt 3 E rfl hT (qal rfl) fun a E=>?_
     have E:=E.upd 71 c66 rfl
     refine kt 4 E rfl hT (qaj (cs:=[vb r2.2,vs r5.1,vs r5.2.1]) qaR rfl rfl (qac.cown 0 rfl rfl)) fun a E=>qaF [5] (by kernel_rfl) rfl (qaJ ?_)
     ·refine wo rfl<|lc E qmX rfl (qez N _ (Number.mk r2.2 r5.1 r5.2.1) ⟨rfl,l7,l8⟩ e68 hG ok) fun w ok a E=>wn<|qar (cl1 (cq le_m0 ok [0,1] rfl) (cq le_m0 ok [0] rfl)) fun hT=>kt 6 E rfl hT (qaU rfl) fun a E=>kt 7 E rfl hT (qcw rfl rfl) fun a E=>qaF [8] (by kernel_rfl) rfl (qaJ ?_)
      ·refine wo rfl<|qae E ok 1 rfl rfl rfl qct rfl rfl ⟨rfl,rfl,rfl,trivial⟩ rfl rfl fun w ok=>wn<|qar (cl2 (by kernel_rfl) (cq le_m0 ok [0] rfl)) fun hT=>kt 9 E rfl hT (qax rfl) fun a E=>qbQ (by kernel_rfl) ?_
       exact ⟨rfl,⟨ok,E.keep [2,3],l7,l8⟩⟩
   have hF:=qdr c45 hF
   have E:=E.upd 52 c45 rfl
   refine mv E rfl fun a E=>lw E (qaL Tryz.underlying9 rfl) fun a E=>lw E (qaH rfl rfl) fun a E=>pt E rfl rfl fun a E=>mv E rfl fun a E=>bu E 57 hF (fun c46 hF E=>?_) fun c46 hF E=>?_
   ·refine lsq E fun a E=>ls E fun a E=>pt E rfl rfl fun a E=>mv E rfl fun a E=>lsq E fun a E=>ls E fun a E=>pt E rfl rfl fun a E=>aw E rfl fun a E=>c_if E rfl (fun _=>?_) (fun h=>by cases h)
    refine sg<|lv E ok (qaj (cs:=[vb r2.2,vs r5.1,vs r5.2.1]) qaR rfl rfl (qac.own 0 rfl rfl)) fun a E=>qae E ok 1 rfl rfl rfl qct rfl rfl ⟨rfl,rfl,rfl,trivial⟩ rfl rfl fun w ok=>aw E rfl fun a E=>wp_ret<|qat<|qai ?_
    exact fin hF ⟨m0,[vb r2.2,vs r5.1,vs r5.2.1],le_m0,ok.drop.drop,E.d,⟨rv_c (cs:=[vb r2.2,vs r5.1,vs r5.2.1]) E ok rfl qaR rfl (qac.own 1 rfl rfl),rv_t E rfl,trivial⟩,⟨rfl,l7,l8⟩⟩
   refine mv E rfl fun a E=>lw E (qaL Tryz.underlying9 rfl) fun a E=>lw E (qdy rfl rfl) fun a E=>pf E rfl rfl fun a E=>mv E rfl fun a E=>bu E 62 hF (fun c47 hF E=>?_) fun c47 hF E=>?_
   ·refine lsq E fun a E=>ls E fun a E=>pt E rfl rfl fun a E=>aw E rfl fun a E=>c_if E rfl (fun _=>?_) (fun h=>by cases h)
    refine sg<|lv E ok (qaj (cs:=[vb r2.2,vs r5.1,vs r5.2.1]) qaR rfl rfl (qac.own 0 rfl rfl)) fun a E=>qae E ok 1 rfl rfl rfl qct rfl rfl ⟨rfl,rfl,rfl,trivial⟩ rfl rfl fun w ok=>aw E rfl fun a E=>wp_ret<|qat<|qai ?_
    exact fin hF ⟨m0,[vb r2.2,vs r5.1,vs r5.2.1],le_m0,ok.drop.drop,E.d,⟨rv_c (cs:=[vb r2.2,vs r5.1,vs r5.2.1]) E ok rfl qaR rfl (qac.own 1 rfl rfl),rv_t E rfl,trivial⟩,⟨rfl,l7,l8⟩⟩
   refine mv E rfl fun a E=>bd hF fun r48 e49 hF=>lc E qlH rfl (qfc N r5.2.1 l8 e49 hG ok) fun w ok a E=>lw E (qaU rfl) fun a E=>pf E rfl rfl fun a E=>aw E rfl fun a E=>cf E rfl hF (fun c50 hF=>?_) fun c50 hF=>?_
   ·refine sg<|lv E ok (qaj (cs:=[vb r2.2,vs r5.1,vs r5.2.1]) qaR rfl rfl (qac.own 0 rfl rfl)) fun a E=>qae E ok 1 rfl rfl rfl qct rfl rfl ⟨rfl,rfl,rfl,trivial⟩ rfl rfl fun w ok=>aw E rfl fun a E=>wp_ret<|qat<|qai ?_
    exact fin hF ⟨m0,[vb r2.2,vs r5.1,vs r5.2.1],le_m0,ok.drop.drop,E.d,⟨rv_c (cs:=[vb r2.2,vs r5.1,vs r5.2.1]) E ok rfl qaR rfl (qac.own 1 rfl rfl),rv_t E rfl,trivial⟩,⟨rfl,l7,l8⟩⟩
   refine wp_skip<|qaq<|qaa<|wp_seq<|bd hF fun o51 hJ hF=>qbm (Q':=fun e a w=>e = .normal ∧ Ok u m0 ([(b9,oc 92 [vb r2.2,vs r5.1,vs r5.2.1])] :: [(b1,oc 92 [vb o51.2.negative,vs o51.2.whole,vs o51.2.fraction])] :: S) w ∧ Env 76 a [(2,vp b1),(3,vb o51.1)] ∧ o51.2.whole.length ≤ LIMS ∧ o51.2.fraction.length ≤ LIMS) ?_ ?_
   rotate_left
   ·intro e a w hO
    obtain ⟨rfl,ok,E,l57,l58⟩:=hO
    refine qaa<|wp_ret ?_
    exact fin hF ⟨m0,[vb o51.2.negative,vs o51.2.whole,vs o51.2.fraction],le_m0,ok.drop.drop,E.d,⟨rv_c (cs:=[vb o51.2.negative,vs o51.2.whole,vs o51.2.fraction]) E ok rfl qaR rfl (qac.own 1 rfl rfl),rv_t E rfl,trivial⟩,⟨rfl,l57,l58⟩⟩
   have hF:=hJ
   refine qdW (!r2.2) (fun c54=>?_) (fun c54=>?_)
   ·have hF:=qdr c54 hF
    cases hF
    refine qcI [0] (Cls u m0 ([(b9,oc 92 [vb r2.2,vs r5.1,vs r5.2.1])] :: [(b1,oc 92 [vb false,(vs ([])),(vs ([]))])] :: [])) (Cls u m0 ([(b9,oc 92 [vb r2.2,vs r5.1,vs r5.2.1])] :: [])) (by kernel_rfl) ?_
    intro w hw
    replace ok:=qdF ok hw
    clear hw
    refine qar (cl1 (cq le_m0 ok [0,1] rfl) (cq le_m0 ok [0] rfl)) fun hT=>qcv 0 E rfl (by kernel_rfl) nP hT (qaj (cs:=[vb r2.2,vs r5.1,vs r5.2.1]) qaR rfl rfl (qac.cown 0 rfl rfl)) rfl rfl fun a E=>kt 1 E rfl hT (qal rfl) fun a E=>kt 2 E rfl hT (qaU rfl) fun a E=>kt 3 E rfl hT (qal rfl) fun a E=>?_
    have E:=E.upd 71 c54 rfl
    refine qc7 4 false E rfl (by kernel_rfl) nP hT rfl rfl fun a E=>qc7 5 false E rfl (by kernel_rfl) nP hT rfl rfl fun a E=>qc7 6 false E rfl (by kernel_rfl) nP hT rfl rfl fun a E=>kt 7 E rfl hT (qcg rfl rfl) fun a E=>qaF [8] (by kernel_rfl) rfl (qaJ ?_)
    ·refine wo rfl<|qae E ok 1 rfl rfl rfl qct rfl rfl ⟨rfl,rfl,rfl,trivial⟩ rfl rfl fun w ok=>wn<|qar (cl2 (by kernel_rfl) (cq le_m0 ok [0] rfl)) fun hT=>kt 9 E rfl hT (qax rfl) fun a E=>qbQ (by kernel_rfl) ?_
     exact ⟨rfl,⟨ok,E.keep [2,3],l7,l8⟩⟩
   have hF:=qdt c54 hF
   obtain ⟨r55,e56,hF⟩:=bnd hF
   obtain rfl:=sj hF
   refine qcI [0] (Cls u m0 ([(b9,oc 92 [vb r2.2,vs r5.1,vs r5.2.1])] :: [(b1,oc 92 [vb false,(vs ([])),(vs ([]))])] :: [])) (Cls u m0 ([(b9,oc 92 [vb r2.2,vs r5.1,vs r5.2.1])] :: [])) (by kernel_rfl) ?_
   intro w hw
   replace ok:=qdF ok hw
   clear hw
   refine qar (cl1 (cq le_m0 ok [0,1] rfl) (cq le_m0 ok [0] rfl)) fun hT=>qcv 0 E rfl (by kernel_rfl) nP hT (qaj (cs:=[vb r2.2,vs r5.1,vs r5.2.1]) qaR rfl rfl (qac.cown 0 rfl rfl)) rfl rfl fun a E=>kt 1 E rfl hT (qal rfl) fun a E=>kt 2 E rfl hT (qaU rfl) fun a E=>kt 3 E rfl hT (qal rfl) fun a E=>?_
   have E:=E.upd 71 c54 rfl
   refine kt 4 E rfl hT (qaj (cs:=[vb r2.2,vs r5.1,vs r5.2.1]) qaR rfl rfl (qac.cown 0 rfl rfl)) fun a E=>qaF [5] (by kernel_rfl) rfl (qaJ ?_)
   ·refine wo rfl<|lc E qmX rfl (qez N _ (Number.mk r2.2 r5.1 r5.2.1) ⟨rfl,l7,l8⟩ e56 hG ok) fun w ok a E=>wn<|qar (cl1 (cq le_m0 ok [0,1] rfl) (cq le_m0 ok [0] rfl)) fun hT=>kt 6 E rfl hT (qaU rfl) fun a E=>kt 7 E rfl hT (qcw rfl rfl) fun a E=>qaF [8] (by kernel_rfl) rfl (qaJ ?_)
    ·refine wo rfl<|qae E ok 1 rfl rfl rfl qct rfl rfl ⟨rfl,rfl,rfl,trivial⟩ rfl rfl fun w ok=>wn<|qar (cl2 (by kernel_rfl) (cq le_m0 ok [0] rfl)) fun hT=>kt 9 E rfl hT (qax rfl) fun a E=>qbQ (by kernel_rfl) ?_
     exact ⟨rfl,⟨ok,E.keep [2,3],l7,l8⟩⟩
 refine mv E rfl fun a E=>bd hF fun c16 e17 hF=>lv E ok (qc1 Tryz.underlying9 rfl rfl e17) fun a E=>lw E (qaH rfl rfl) fun a E=>pt E rfl rfl fun a E=>pf E rfl rfl fun a E=>aw E rfl fun a E=>cf E rfl hF (fun c18 hF=>?_) fun c18 hF=>?_
 ·refine sg<|lv E ok (qaj (cs:=[vb r2.2,vs r5.1,vs r5.2.1]) qaR rfl rfl (qac.own 0 rfl rfl)) fun a E=>qae E ok 1 rfl rfl rfl qct rfl rfl ⟨rfl,rfl,rfl,trivial⟩ rfl rfl fun w ok=>aw E rfl fun a E=>wp_ret<|qat<|qai ?_
  exact fin hF ⟨m0,[vb r2.2,vs r5.1,vs r5.2.1],le_m0,ok.drop.drop,E.d,⟨rv_c (cs:=[vb r2.2,vs r5.1,vs r5.2.1]) E ok rfl qaR rfl (qac.own 1 rfl rfl),rv_t E rfl,trivial⟩,⟨rfl,l7,l8⟩⟩
 refine sg<|mz E rfl rfl fun a E=>qdW r5.2.2 (fun c19=>?_) (fun c19=>?_)
 rotate_left
 ·as_aux_lemma =>
   have hF:=qdt c19 hF
   have E:=E.upd 52 c19 rfl
   refine lsq E fun a E=>ls E fun a E=>pf E rfl rfl fun a E=>mz E rfl rfl fun a E=>lw E (qaL Tryz.underlying9 rfl) fun a E=>lw E (qdy rfl rfl) fun a E=>pf E rfl rfl fun a E=>mv E rfl fun a E=>bu E 62 hF (fun c33 hF E=>?_) fun c33 hF E=>?_
   ·refine lsq E fun a E=>ls E fun a E=>pt E rfl rfl fun a E=>aw E rfl fun a E=>c_if E rfl (fun _=>?_) (fun h=>by cases h)
    refine sg<|lv E ok (qaj (cs:=[vb r2.2,vs r5.1,vs r5.2.1]) qaR rfl rfl (qac.own 0 rfl rfl)) fun a E=>qae E ok 1 rfl rfl rfl qct rfl rfl ⟨rfl,rfl,rfl,trivial⟩ rfl rfl fun w ok=>aw E rfl fun a E=>wp_ret<|qat<|qai ?_
    exact fin hF ⟨m0,[vb r2.2,vs r5.1,vs r5.2.1],le_m0,ok.drop.drop,E.d,⟨rv_c (cs:=[vb r2.2,vs r5.1,vs r5.2.1]) E ok rfl qaR rfl (qac.own 1 rfl rfl),rv_t E rfl,trivial⟩,⟨rfl,l7,l8⟩⟩
   refine mv E rfl fun a E=>bd hF fun r34 e35 hF=>lc E qlH rfl (qfc N r5.2.1 l8 e35 hG ok) fun w ok a E=>lw E (qaU rfl) fun a E=>pf E rfl rfl fun a E=>aw E rfl fun a E=>cf E rfl hF (fun c36 hF=>?_) fun c36 hF=>?_
   ·refine sg<|lv E ok (qaj (cs:=[vb r2.2,vs r5.1,vs r5.2.1]) qaR rfl rfl (qac.own 0 rfl rfl)) fun a E=>qae E ok 1 rfl rfl rfl qct rfl rfl ⟨rfl,rfl,rfl,trivial⟩ rfl rfl fun w ok=>aw E rfl fun a E=>wp_ret<|qat<|qai ?_
    exact fin hF ⟨m0,[vb r2.2,vs r5.1,vs r5.2.1],le_m0,ok.drop.drop,E.d,⟨rv_c (cs:=[vb r2.2,vs r5.1,vs r5.2.1]) E ok rfl qaR rfl (qac.own 1 rfl rfl),rv_t E rfl,trivial⟩,⟨rfl,l7,l8⟩⟩
   refine wp_skip<|qaq<|qaa<|wp_seq<|bd hF fun o37 hJ hF=>qbm (Q':=fun e a w=>e = .normal ∧ Ok u m0 ([(b9,oc 92 [vb r2.2,vs r5.1,vs r5.2.1])] :: [(b1,oc 92 [vb o37.2.negative,vs o37.2.whole,vs o37.2.fraction])] :: S) w ∧ Env 76 a [(2,vp b1),(3,vb o37.1)] ∧ o37.2.whole.length ≤ LIMS ∧ o37.2.fraction.length ≤ LIMS) ?_ ?_
   rotate_left
   ·intro e a w hO
    obtain ⟨rfl,ok,E,l43,l44⟩:=hO
    refine qaa<|wp_ret ?_
    exact fin hF ⟨m0,[vb o37.2.negative,vs o37.2.whole,vs o37.2.fraction],le_m0,ok.drop.drop,E.d,⟨rv_c (cs:=[vb o37.2.negative,vs o37.2.whole,vs o37.2.fraction]) E ok rfl qaR rfl (qac.own 1 rfl rfl),rv_t E rfl,trivial⟩,⟨rfl,l43,l44⟩⟩
   have hF:=hJ
   refine qdW (!r2.2) (fun c40=>?_) (fun c40=>?_)
   ·have hF:=qdr c40 hF
    cases hF
    refine qcI [0] (Cls u m0 ([(b9,oc 92 [vb r2.2,vs r5.1,vs r5.2.1])] :: [(b1,oc 92 [vb false,(vs ([])),(vs ([]))])] :: [])) (Cls u m0 ([(b9,oc 92 [vb r2.2,vs r5.1,vs r5.2.1])] :: [])) (by kernel_rfl) ?_
    intro w hw
    replace ok:=qdF ok hw
    clear hw
    refine qar (cl1 (cq le_m0 ok [0,1] rfl) (cq le_m0 ok [0] rfl)) fun hT=>qcv 0 E rfl (by kernel_rfl) nP hT (qaj (cs:=[vb r2.2,vs r5.1,vs r5.2.1]) qaR rfl rfl (qac.cown 0 rfl rfl)) rfl rfl fun a E=>kt 1 E rfl hT (qal rfl) fun a E=>kt 2 E rfl hT (qaU rfl) fun a E=>kt 3 E rfl hT (qal rfl) fun a E=>?_
    have E:=E.upd 71 c40 rfl
    refine qc7 4 false E rfl (by kernel_rfl) nP hT rfl rfl fun a E=>qc7 5 false E rfl (by kernel_rfl) nP hT rfl rfl fun a E=>qc7 6 false E rfl (by kernel_rfl) nP hT rfl rfl fun a E=>kt 7 E rfl hT (qcg rfl rfl) fun a E=>qaF [8] (by kernel_rfl) rfl (qaJ ?_)
    ·refine wo rfl<|qae E ok 1 rfl rfl rfl qct rfl rfl ⟨rfl,rfl,rfl,trivial⟩ rfl rfl fun w ok=>wn<|qar (cl2 (by kernel_rfl) (cq le_m0 ok [0] rfl)) fun hT=>kt 9 E rfl hT (qax rfl) fun a E=>qbQ (by kernel_rfl) ?_
     exact ⟨rfl,⟨ok,E.keep [2,3],l7,l8⟩⟩
   have hF:=qdt c40 hF
   obtain ⟨r41,e42,hF⟩:=bnd hF
   obtain rfl:=sj hF
   refine qcI [0] (Cls u m0 ([(b9,oc 92 [vb r2.2,vs r5.1,vs r5.2.1])] :: [(b1,oc 92 [vb false,(vs ([])),(vs ([]))])] :: [])) (Cls u m0 ([(b9,oc 92 [vb r2.2,vs r5.1,vs r5.2.1])] :: [])) (by kernel_rfl) ?_
   intro w hw
   replace ok:=qdF ok hw
   clear hw
   refine qar (cl1 (cq le_m0 ok [0,1] rfl) (cq le_m0 ok [0] rfl)) fun hT=>qcv 0 E rfl (by kernel_rfl) nP hT (qaj (cs:=[vb r2.2,vs r5.1,vs r5.2.1]) qaR rfl rfl (qac.cown 0 rfl rfl)) rfl rfl fun a E=>kt 1 E rfl hT (qal rfl) fun a E=>kt 2 E rfl hT (qaU rfl) fun a E=>kt 3 E rfl hT (qal rfl) fun a E=>?_
   have E:=E.upd 71 c40 rfl
   refine kt 4 E rfl hT (qaj (cs:=[vb r2.2,vs r5.1,vs r5.2.1]) qaR rfl rfl (qac.cown 0 rfl rfl)) fun a E=>qaF [5] (by kernel_rfl) rfl (qaJ ?_)
   ·refine wo rfl<|lc E qmX rfl (qez N _ (Number.mk r2.2 r5.1 r5.2.1) ⟨rfl,l7,l8⟩ e42 hG ok) fun w ok a E=>wn<|qar (cl1 (cq le_m0 ok [0,1] rfl) (cq le_m0 ok [0] rfl)) fun hT=>kt 6 E rfl hT (qaU rfl) fun a E=>kt 7 E rfl hT (qcw rfl rfl) fun a E=>qaF [8] (by kernel_rfl) rfl (qaJ ?_)
    ·refine wo rfl<|qae E ok 1 rfl rfl rfl qct rfl rfl ⟨rfl,rfl,rfl,trivial⟩ rfl rfl fun w ok=>wn<|qar (cl2 (by kernel_rfl) (cq le_m0 ok [0] rfl)) fun hT=>kt 9 E rfl hT (qax rfl) fun a E=>qbQ (by kernel_rfl) ?_
     exact ⟨rfl,⟨ok,E.keep [2,3],l7,l8⟩⟩
 have hF:=qdr c19 hF
 have E:=E.upd 52 c19 rfl
 refine mv E rfl fun a E=>lw E (qaL Tryz.underlying9 rfl) fun a E=>lw E (qaH rfl rfl) fun a E=>pt E rfl rfl fun a E=>mv E rfl fun a E=>bu E 57 hF (fun c20 hF E=>?_) fun c20 hF E=>?_
 ·refine lsq E fun a E=>ls E fun a E=>pt E rfl rfl fun a E=>mv E rfl fun a E=>lsq E fun a E=>ls E fun a E=>pt E rfl rfl fun a E=>aw E rfl fun a E=>c_if E rfl (fun _=>?_) (fun h=>by cases h)
  refine sg<|lv E ok (qaj (cs:=[vb r2.2,vs r5.1,vs r5.2.1]) qaR rfl rfl (qac.own 0 rfl rfl)) fun a E=>qae E ok 1 rfl rfl rfl qct rfl rfl ⟨rfl,rfl,rfl,trivial⟩ rfl rfl fun w ok=>aw E rfl fun a E=>wp_ret<|qat<|qai ?_
  exact fin hF ⟨m0,[vb r2.2,vs r5.1,vs r5.2.1],le_m0,ok.drop.drop,E.d,⟨rv_c (cs:=[vb r2.2,vs r5.1,vs r5.2.1]) E ok rfl qaR rfl (qac.own 1 rfl rfl),rv_t E rfl,trivial⟩,⟨rfl,l7,l8⟩⟩
 refine mv E rfl fun a E=>lw E (qaL Tryz.underlying9 rfl) fun a E=>lw E (qdy rfl rfl) fun a E=>pf E rfl rfl fun a E=>mv E rfl fun a E=>bu E 62 hF (fun c21 hF E=>?_) fun c21 hF E=>?_
 ·refine lsq E fun a E=>ls E fun a E=>pt E rfl rfl fun a E=>aw E rfl fun a E=>c_if E rfl (fun _=>?_) (fun h=>by cases h)
  refine sg<|lv E ok (qaj (cs:=[vb r2.2,vs r5.1,vs r5.2.1]) qaR rfl rfl (qac.own 0 rfl rfl)) fun a E=>qae E ok 1 rfl rfl rfl qct rfl rfl ⟨rfl,rfl,rfl,trivial⟩ rfl rfl fun w ok=>aw E rfl fun a E=>wp_ret<|qat<|qai ?_
  exact fin hF ⟨m0,[vb r2.2,vs r5.1,vs r5.2.1],le_m0,ok.drop.drop,E.d,⟨rv_c (cs:=[vb r2.2,vs r5.1,vs r5.2.1]) E ok rfl qaR rfl (qac.own 1 rfl rfl),rv_t E rfl,trivial⟩,⟨rfl,l7,l8⟩⟩
 refine mv E rfl fun a E=>bd hF fun r22 e23 hF=>lc E qlH rfl (qfc N r5.2.1 l8 e23 hG ok) fun w ok a E=>lw E (qaU rfl) fun a E=>pf E rfl rfl fun a E=>aw E rfl fun a E=>cf E rfl hF (fun c24 hF=>?_) fun c24 hF=>?_
 ·refine sg<|lv E ok (qaj (cs:=[vb r2.2,vs r5.1,vs r5.2.1]) qaR rfl rfl (qac.own 0 rfl rfl)) fun a E=>qae E ok 1 rfl rfl rfl qct rfl rfl ⟨rfl,rfl,rfl,trivial⟩ rfl rfl fun w ok=>aw E rfl fun a E=>wp_ret<|qat<|qai ?_
  exact fin hF ⟨m0,[vb r2.2,vs r5.1,vs r5.2.1],le_m0,ok.drop.drop,E.d,⟨rv_c (cs:=[vb r2.2,vs r5.1,vs r5.2.1]) E ok rfl qaR rfl (qac.own 1 rfl rfl),rv_t E rfl,trivial⟩,⟨rfl,l7,l8⟩⟩
 refine wp_skip<|qaq<|qaa<|wp_seq<|bd hF fun o25 hJ hF=>qbm (Q':=fun e a w=>e = .normal ∧ Ok u m0 ([(b9,oc 92 [vb r2.2,vs r5.1,vs r5.2.1])] :: [(b1,oc 92 [vb o25.2.negative,vs o25.2.whole,vs o25.2.fraction])] :: S) w ∧ Env 76 a [(2,vp b1),(3,vb o25.1)] ∧ o25.2.whole.length ≤ LIMS ∧ o25.2.fraction.length ≤ LIMS) ?_ ?_
 rotate_left
 ·intro e a w hO
  obtain ⟨rfl,ok,E,l31,l32⟩:=hO
  refine qaa<|wp_ret ?_
  exact fin hF ⟨m0,[vb o25.2.negative,vs o25.2.whole,vs o25.2.fraction],le_m0,ok.drop.drop,E.d,⟨rv_c (cs:=[vb o25.2.negative,vs o25.2.whole,vs o25.2.fraction]) E ok rfl qaR rfl (qac.own 1 rfl rfl),rv_t E rfl,trivial⟩,⟨rfl,l31,l32⟩⟩
 have hF:=hJ
 refine qdW (!r2.2) (fun c28=>?_) (fun c28=>?_)
 ·have hF:=qdr c28 hF
  cases hF
  refine qcI [0] (Cls u m0 ([(b9,oc 92 [vb r2.2,vs r5.1,vs r5.2.1])] :: [(b1,oc 92 [vb false,(vs ([])),(vs ([]))])] :: [])) (Cls u m0 ([(b9,oc 92 [vb r2.2,vs r5.1,vs r5.2.1])] :: [])) (by kernel_rfl) ?_
  intro w hw
  replace ok:=qdF ok hw
  clear hw
  refine qar (cl1 (cq le_m0 ok [0,1] rfl) (cq le_m0 ok [0] rfl)) fun hT=>qcv 0 E rfl (by kernel_rfl) nP hT (qaj (cs:=[vb r2.2,vs r5.1,vs r5.2.1]) qaR rfl rfl (qac.cown 0 rfl rfl)) rfl rfl fun a E=>kt 1 E rfl hT (qal rfl) fun a E=>kt 2 E rfl hT (qaU rfl) fun a E=>kt 3 E rfl hT (qal rfl) fun a E=>?_
  have E:=E.upd 71 c28 rfl
  refine qc7 4 false E rfl (by kernel_rfl) nP hT rfl rfl fun a E=>qc7 5 false E rfl (by kernel_rfl) nP hT rfl rfl fun a E=>qc7 6 false E rfl (by kernel_rfl) nP hT rfl rfl fun a E=>kt 7 E rfl hT (qcg rfl rfl) fun a E=>qaF [8] (by kernel_rfl) rfl (qaJ ?_)
  ·refine wo rfl<|qae E ok 1 rfl rfl rfl qct rfl rfl ⟨rfl,rfl,rfl,trivial⟩ rfl rfl fun w ok=>wn<|qar (cl2 (by kernel_rfl) (cq le_m0 ok [0] rfl)) fun hT=>kt 9 E rfl hT (qax rfl) fun a E=>qbQ (by kernel_rfl) ?_
   exact ⟨rfl,⟨ok,E.keep [2,3],l7,l8⟩⟩
 have hF:=qdt c28 hF
 obtain ⟨r29,e30,hF⟩:=bnd hF
 obtain rfl:=sj hF
 refine qcI [0] (Cls u m0 ([(b9,oc 92 [vb r2.2,vs r5.1,vs r5.2.1])] :: [(b1,oc 92 [vb false,(vs ([])),(vs ([]))])] :: [])) (Cls u m0 ([(b9,oc 92 [vb r2.2,vs r5.1,vs r5.2.1])] :: [])) (by kernel_rfl) ?_
 intro w hw
 replace ok:=qdF ok hw
 clear hw
 refine qar (cl1 (cq le_m0 ok [0,1] rfl) (cq le_m0 ok [0] rfl)) fun hT=>qcv 0 E rfl (by kernel_rfl) nP hT (qaj (cs:=[vb r2.2,vs r5.1,vs r5.2.1]) qaR rfl rfl (qac.cown 0 rfl rfl)) rfl rfl fun a E=>kt 1 E rfl hT (qal rfl) fun a E=>kt 2 E rfl hT (qaU rfl) fun a E=>kt 3 E rfl hT (qal rfl) fun a E=>?_
 have E:=E.upd 71 c28 rfl
 refine kt 4 E rfl hT (qaj (cs:=[vb r2.2,vs r5.1,vs r5.2.1]) qaR rfl rfl (qac.cown 0 rfl rfl)) fun a E=>qaF [5] (by kernel_rfl) rfl (qaJ ?_)
 ·refine wo rfl<|lc E qmX rfl (qez N _ (Number.mk r2.2 r5.1 r5.2.1) ⟨rfl,l7,l8⟩ e30 hG ok) fun w ok a E=>wn<|qar (cl1 (cq le_m0 ok [0,1] rfl) (cq le_m0 ok [0] rfl)) fun hT=>kt 6 E rfl hT (qaU rfl) fun a E=>kt 7 E rfl hT (qcw rfl rfl) fun a E=>qaF [8] (by kernel_rfl) rfl (qaJ ?_)
  ·refine wo rfl<|qae E ok 1 rfl rfl rfl qct rfl rfl ⟨rfl,rfl,rfl,trivial⟩ rfl rfl fun w ok=>wn<|qar (cl2 (by kernel_rfl) (cq le_m0 ok [0] rfl)) fun hT=>kt 9 E rfl hT (qax rfl) fun a E=>qbQ (by kernel_rfl) ?_
   exact ⟨rfl,⟨ok,E.keep [2,3],l7,l8⟩⟩
def qmS (u:World) (m0:Mem) (S:Segs) (r:Bool) (a:Act) (w:World):Prop :=
 Ok u m0 S w ∧ a.defers = [] ∧ RVs Tryz.prog a w [.t 2 (.bool r)]
theorem qm8 (N:Nat) (s_0:List UInt8) (ls_0:s_0.length ≤ LIMS) {r:Bool} (hF:qfs N s_0 = some r) (hG:Glob u) (ok:Ok u m0 S w) :
  Calls Tryz.prog 48 [vs s_0].toArray w fun e w'=>(e = .returned (.bool r) ∧ Ok u m0 S w'):=by
 have hb0:=ok.base
 have le_m0:=Mem.le.refl m0
 unfold qfs at hF
 refine en (qmS u m0 S) r Tryz.func48 rfl rfl rfl (fun _ _ h=>ra h rfl) fun fin a E=>sg<|aw E rfl fun a E=>sg<|mv E rfl fun a E=>bd hF fun r1 e2 hF=>qaf E qsy rfl (qjz N s_0 ls_0 e2 hG ok) rfl rfl ?_
 rintro _ w ⟨m3,vs4,rfl,hle,ok,h5⟩
 have le_m0:=le_m0.trans hle
 obtain ⟨rfl,l6,l7⟩:=h5
 refine ⟨_,rfl,fun a E=>?_⟩
 refine mv E rfl fun a E=>lw E (qak rfl rfl) fun a E=>lw E (qak rfl rfl) fun a E=>qaD E ok qkd rfl rfl fun b8 a w E ok=>qae E ok 0 rfl rfl rfl qct rfl rfl ⟨rfl,rfl,rfl,trivial⟩ rfl rfl fun w ok=>aw E rfl fun a E=>sg<|mv E rfl fun a E=>aw E rfl fun a E=>wp_ret ?_
 exact fin hF ⟨(ok.drop).down hb0 le_m0,E.d,rz E rfl⟩
theorem qk0 {u:World} {m0:Mem} {S:Segs} {w:World} (N:Nat) (p0_0:List UInt8) (lp0_0:p0_0.length ≤ LIMS) (p1_1:List UInt8) (lp1_1:p1_1.length ≤ LIMS) {r:(List UInt8)} (hF:qd7 N p0_0 p1_1 = some r) (hG:Glob u) (ok:Ok u m0 S w) :
 Calls Tryz.prog 105 [vs p0_0,vs p1_1].toArray w fun e w'=>(e = .returned (.string (bs r)) ∧ Ok u m0 S w') ∧ r.length ≤ LIMS:=qou Tryz.lays162 (by kernel_rfl) p0_0 p1_1 hF lp0_0 ok
theorem qba {u:World} {m0:Mem} {S:Segs} {w:World} (N:Nat) (p0_0:List UInt8) (lp0_0:p0_0.length ≤ LIMS) {r:Int × Unit} (hF:strconv_Atoi N p0_0 = some r) (hG:Glob u) (ok:Ok u m0 S w) :
 Calls Tryz.prog 127 [vs p0_0].toArray w fun e w'=>(e = .returned (.tuple [(.int .i64 r.1),.nilIface].toArray) ∧ Ok u m0 (S) w') ∧ InR .i64 r.1:=qsb Tryz.lays172 p0_0 hF ok
def qm0 (u:World) (m0:Mem) (S:Segs) (r:Int) (a:Act) (w:World):Prop :=
 Ok u m0 S w ∧ a.defers = [] ∧ RVs Tryz.prog a w [.t 2 (.int .i64 r)] ∧ InR .i64 r
theorem qgH (N:Nat) (s_0:List UInt8) (ls_0:s_0.length ≤ LIMS) {r:Int} (hF:qd8 N s_0 = some r) (hG:Glob u) (ok:Ok u m0 S w) :
  Calls Tryz.prog 106 [vs s_0].toArray w fun e w'=>(e = .returned (.int .i64 r) ∧ Ok u m0 S w') ∧ InR .i64 r:=by
 unfold qd8 at hF
 refine en (qm0 u m0 S) r Tryz.func106 rfl rfl rfl (fun _ _ h=>rb h rfl) fun fin a E=>sg<|aw E rfl fun a E=>sg<|mv E rfl fun a E=>bd hF fun s1 e2 hF=>lw E (qel rfl rfl e2) fun a E=>bd hF fun r3 e4 hF=>qaf E qeP rfl (qba N s1 (qdC e2) e4 hG ok) rfl rfl ?_
 rintro _ w ⟨⟨rfl,ok⟩,r5⟩
 refine ⟨_,rfl,fun a E=>?_⟩
 refine mv E rfl fun a E=>lw E (qak rfl rfl) fun a E=>lw E (qak rfl rfl) fun a E=>av E rfl fun a E=>aw E rfl fun a E=>sg<|mv E rfl fun a E=>aw E rfl fun a E=>wp_ret ?_
 exact fin hF ⟨ok,E.d,rz E rfl,r5⟩
def ql5 (u:World) (m0:Mem) (S:Segs) (r:Int × Int) (a:Act) (w:World):Prop :=
 Ok u m0 S w ∧ a.defers = [] ∧ RVs Tryz.prog a w [.t 4 (.int .i64 r.1),.t 5 (.int .i64 r.2)] ∧ InR .i64 r.1 ∧ InR .i64 r.2
theorem qmc (N:Nat) (s_0:List UInt8) (ls_0:s_0.length ≤ LIMS) (operand_1:Int) (roperand_1:InR .i64 operand_1) {r:Int × Int} (hF:qft N s_0 operand_1 = some r) (hG:Glob u) (ok:Ok u m0 S w) :
  Calls Tryz.prog 75 [vs s_0,vi operand_1].toArray w fun e w'=>(e = .returned (.tuple [(.int .i64 r.1),(.int .i64 r.2)].toArray) ∧ Ok u m0 S w') ∧ InR .i64 r.1 ∧ InR .i64 r.2:=by
 have hb0:=ok.base
 have le_m0:=Mem.le.refl m0
 unfold qft at hF
 refine en (ql5 u m0 S) r Tryz.func75 rfl rfl rfl (by rintro a w ⟨ok,hd,hrv,h0,h1⟩; exact qaZ [.t 4 (.int .i64 r.1),.t 5 (.int .i64 r.2)] hd rfl hrv ⟨⟨rfl,ok⟩,h0,h1⟩) fun fin a E=>sg<|av E rfl fun a E=>aw E rfl fun a E=>sg<|mv E rfl fun a E=>bd hF fun r1 e2 hF=>qaf E qsy rfl (qjz N s_0 ls_0 e2 hG ok) rfl rfl ?_
 rintro _ w ⟨m3,vs4,rfl,hle,ok,h5⟩
 have le_m0:=le_m0.trans hle
 obtain ⟨rfl,l6,l7⟩:=h5
 refine ⟨_,rfl,fun a E=>?_⟩
 refine mv E rfl fun a E=>lw E (qak rfl rfl) fun a E=>lw E (qak rfl rfl) fun a E=>qaD E ok qkd rfl rfl fun b8 a w E ok=>qae E ok 0 rfl rfl rfl qct rfl rfl ⟨rfl,rfl,rfl,trivial⟩ rfl rfl fun w ok=>aw E rfl fun a E=>wp_seq<|sg<|mv E rfl fun a E=>lw E (qaU rfl) fun a E=>wn<|cf E rfl hF (fun c9 hF=>?_) fun c9 hF=>?_
 ·refine sg<|av E rfl fun a E=>aw E rfl fun a E=>wp_ret<|qai ?_
  exact fin hF ⟨(ok.drop).down hb0 le_m0,E.d,⟨rv_t E rfl,rv_t E rfl,trivial⟩,(ir 0),(ir 1)⟩
 refine wp_skip<|qaa<|sg<|fk E ok qlT qbY rfl 0 rfl rfl fun a E=>bd hF fun r10 e11 hF=>qaf E qt9 rfl (qk0 N r1.1.fraction l7 ([48]) (show ([48]:List UInt8).length ≤ LIMS by decide) e11 hG ok) rfl rfl ?_
 rintro _ w ⟨⟨rfl,ok⟩,l12⟩
 refine ⟨_,rfl,fun a E=>?_⟩
 refine aw E rfl fun a E=>wp_seq<|sg<|mv E rfl fun a E=>wn<|wp_block<|sg<|lw E (qaH rfl rfl) fun a E=>aw E rfl fun a E=>cf E rfl hF (fun c13 hF=>?_) fun c13 hF=>?_
 ·refine wp_seq<|sg<|mv E rfl fun a E=>lw E (qlA rfl rfl) fun a E=>wn<|cf E rfl hF (fun c14 hF=>?_) fun c14 hF=>?_
  ·refine sg<|av E rfl fun a E=>aw E rfl fun a E=>wp_ret<|qai<|qat<|qai ?_
   exact fin hF ⟨(ok.drop).down hb0 le_m0,E.d,⟨rv_t E rfl,rv_t E rfl,trivial⟩,(ir 0),(ir 8)⟩
  refine wp_skip<|qaa<|sg<|fk E ok qnX qbY rfl 0 rfl rfl fun a E=>bd hF fun r15 e16 hF=>qaf E qm6 rfl (qgH N r1.1.whole l6 e16 hG ok) rfl rfl ?_
  rintro _ w ⟨⟨rfl,ok⟩,r17⟩
  refine ⟨_,rfl,fun a E=>?_⟩
  refine av E rfl fun a E=>aw E rfl fun a E=>wp_ret<|qat<|qai ?_
  exact fin hF ⟨(ok.drop).down hb0 le_m0,E.d,⟨rv_t E rfl,rv_t E rfl,trivial⟩,r17,(ir 0)⟩
 refine sg<|lw E (qaH rfl rfl) fun a E=>aw E rfl fun a E=>cf E rfl hF (fun c18 hF=>?_) fun c18 hF=>?_
 ·refine sg<|fk E ok qnX qbY rfl 0 rfl rfl fun a E=>bd hF fun r19 e20 hF=>qaf E qm6 rfl (qgH N r1.1.whole l6 e20 hG ok) rfl rfl ?_
  rintro _ w ⟨⟨rfl,ok⟩,r21⟩
  refine ⟨_,rfl,fun a E=>?_⟩
  refine av E rfl fun a E=>aw E rfl fun a E=>wp_ret<|qat<|qai ?_
  exact fin hF ⟨(ok.drop).down hb0 le_m0,E.d,⟨rv_t E rfl,rv_t E rfl,trivial⟩,r21,(ir 0)⟩
 refine sg<|lw E (qaH rfl rfl) fun a E=>aw E rfl fun a E=>cf E rfl hF (fun c22 hF=>?_) fun c22 hF=>?_
 ·refine sg<|fk E ok qlT qbY rfl 0 rfl rfl fun a E=>lw E (qaL Tryz.underlying9 rfl) fun a E=>av E rfl fun a E=>av E rfl fun a E=>wn<|wp_ret<|qat<|qai ?_
  exact fin hF ⟨(ok.drop).down hb0 le_m0,E.d,⟨rv_t E rfl,rv_t E rfl,trivial⟩,(InR.len l7),(ir 0)⟩
 refine sg<|lw E (qaH rfl rfl) fun a E=>aw E rfl fun a E=>cf E rfl hF (fun c23 hF=>?_) fun c23 hF=>?_
 ·refine sg<|mv E rfl fun a E=>lw E (qaL Tryz.underlying9 rfl) fun a E=>av E rfl fun a E=>aw E rfl fun a E=>wp_ret<|qat<|qai ?_
  exact fin hF ⟨(ok.drop).down hb0 le_m0,E.d,⟨rv_t E rfl,rv_t E rfl,trivial⟩,(InR.len l12),(ir 0)⟩
 refine sg<|lw E (qaH rfl rfl) fun a E=>aw E rfl fun a E=>cf E rfl hF (fun c24 hF=>?_) fun c24 hF=>?_
 ·refine sg<|fk E ok qlT qbY rfl 0 rfl rfl fun a E=>bd hF fun r25 e26 hF=>qaf E qm6 rfl (qgH N r1.1.fraction l7 e26 hG ok) rfl rfl ?_
  rintro _ w ⟨⟨rfl,ok⟩,r27⟩
  refine ⟨_,rfl,fun a E=>?_⟩
  refine av E rfl fun a E=>aw E rfl fun a E=>wp_ret<|qat<|qai ?_
  exact fin hF ⟨(ok.drop).down hb0 le_m0,E.d,⟨rv_t E rfl,rv_t E rfl,trivial⟩,r27,(ir 0)⟩
 refine sg<|lw E (qaH rfl rfl) fun a E=>aw E rfl fun a E=>cg E rfl hF (fun c28 hF=>?_) fun c28 hF=>?_
 ·refine wp_skip<|qaq<|qaa<|sg<|av E rfl fun a E=>av E rfl fun a E=>wn<|wp_ret ?_
  exact fin hF ⟨(ok.drop).down hb0 le_m0,E.d,⟨rv_t E rfl,rv_t E rfl,trivial⟩,(ir 0),(ir 1)⟩
 refine sg<|mv E rfl fun a E=>bd hF fun r29 e30 hF=>qaf E qm6 rfl (qgH N r10 l12 e30 hG ok) rfl rfl ?_
 rintro _ w ⟨⟨rfl,ok⟩,r31⟩
 refine ⟨_,rfl,fun a E=>?_⟩
 refine av E rfl fun a E=>aw E rfl fun a E=>wp_ret<|qat<|qai ?_
 exact fin hF ⟨(ok.drop).down hb0 le_m0,E.d,⟨rv_t E rfl,rv_t E rfl,trivial⟩,r31,(ir 0)⟩
def qmL (u:World) (m0:Mem) (S:Segs) (pb0:Nat) (x0:Int) (r:Bool) (a:Act) (w:World):Prop :=
 Ok u m0 ([(pb0,oc 3 [vi x0])] :: S) w ∧ a.defers = [] ∧ RVs Tryz.prog a w [.t 3 (.bool r)]
theorem qmt (N:Nat) (vs_0:List Value) (s_0:Span) (hs_0:qd3 m0 vs_0 s_0) {pb0:Nat} (x0:Int) (r3:InR .i64 x0) {r:Bool} (hF:qg9 N s_0 x0 = some r) (hG:Glob u) (ok:Ok u m0 ([(pb0,oc 3 [vi x0])] :: S) w) :
  Calls Tryz.prog 108 [.agg vs_0.toArray,vp pb0].toArray w fun e w'=>(e = .returned (.bool r) ∧ Ok u m0 ([(pb0,oc 3 [vi x0])] :: S) w'):=by
 obtain ⟨rfl,r1,r2⟩:=hs_0
 unfold qg9 at hF
 refine en (qmL u m0 S pb0 x0) r Tryz.func108 rfl rfl rfl (fun _ _ h=>ra h rfl) fun fin a E=>sg<|qcp E ok rfl rfl rfl fun b4 a w E ok=>aw E rfl fun a E=>sg<|ld E ok qav 1 rfl rfl rfl fun a E=>fk E ok qhg qav rfl 0 rfl rfl fun a E=>lw E (qgq rfl rfl) fun a E=>mv E rfl fun a E=>bu E 8 hF (fun c5 hF E=>?_) fun c5 hF E=>?_
 ·refine ld E ok qav 1 rfl rfl rfl fun a E=>fk E ok qgB qav rfl 0 rfl rfl fun a E=>lw E (qik rfl rfl) fun a E=>pt E rfl rfl fun a E=>aw E rfl fun a E=>wp_ret ?_
  exact fin hF ⟨ok.drop,E.d,rz E rfl⟩
 refine lsz E fun a E=>pf E rfl rfl fun a E=>aw E rfl fun a E=>wp_ret ?_
 exact fin hF ⟨ok.drop,E.d,rz E rfl⟩
def qdR (u:World) (m0:Mem) (S:Segs) (pb0:Nat) (x0:Int) (r:Int) (a:Act) (w:World):Prop :=
 Ok u m0 ([(pb0,oc 3 [vi x0])] :: S) w ∧ a.defers = [] ∧ RVs Tryz.prog a w [.t 4 (.int .i64 r)] ∧ InR .i64 r
theorem qgc (N:Nat) (vs_0:Value) (s_0:List (Span)) (hs_0:(pL 2 qd3) m0 [vs_0] s_0) {pb0:Nat} (x0:Int) (r1:InR .i64 x0) {r:Int} (hF:qbK N s_0 x0 = some r) (hG:Glob u) (ok:Ok u m0 ([(pb0,oc 3 [vi x0])] :: S) w) :
  Calls Tryz.prog 139 [vs_0,Value.func (.func 108) #[] #[.pointer (some ⟨pb0,0,none⟩)]].toArray w fun e w'=>(e = .returned (.int .i64 r) ∧ Ok u m0 ([(pb0,oc 3 [vi x0])] :: S) w') ∧ InR .i64 r:=by
 unfold qbK at hF
 refine en (qdR u m0 S pb0 x0) r Tryz.func139 rfl rfl rfl (fun _ _ h=>rb h rfl) fun fin a E=>sg<|aw E rfl fun a E=>wp_seq<|sg<|mv E rfl fun a E=>lv E ok (qaz qdP hs_0 rfl) fun a E=>mv E rfl fun a E=>wn<|wp_block<|bd hF fun o3 hL hF=>qaE _ (fun (s:Int) a w=>Ok u m0 ([(pb0,oc 3 [vi x0])] :: S) w ∧ Env 19 a [(0,vs_0),(1,(Value.func (.func 108) #[] #[.pointer (some ⟨pb0,0,none⟩)])),(7,(vi (s_0.length:Int))),(8,vi s)] ∧ InR .i64 s) (fun (b:(Unit ⊕ Int)) e a w=>(Sum.elim (fun b22=>e = (.exit 0) ∧ Ok u m0 ([(pb0,oc 3 [vi x0])] :: S) w ∧ Env 19 a []) (fun b23=>e = .ret ∧ qdR u m0 S pb0 x0 b23 a w)) b) ?_ ?_ N _ a w hL ⟨ok,E.keep [0,1,7,8],(ir 0)⟩
 rotate_left
 ·intro e a w _ hO
  rcases o3 with o3 | o3
  rotate_left
  ·obtain ⟨rfl,hret⟩:=hO
   refine qat<|qai ?_
   exact fin hF hret
  have hF:=qcA hF
  obtain ⟨rfl,ok,E⟩:=hO
  refine qaK<|qaa<|sg<|aw E rfl fun a E=>wp_ret ?_
  exact fin hF ⟨ok,E.d,rz E rfl,(ir (-1))⟩
 rintro v5 a w r ⟨ok,E,r6⟩ hF
 replace hF:qa2 N s_0 x0 v5 = some r:=hF
 unfold qa2 at hF
 refine sg<|lw E (qaG rfl rfl) fun a E=>wn<|wp_seq<|cg E rfl hF (fun c7 hF=>?_) fun c7 hF=>?_
 ·refine wp_exit<|qay ?_
  cases hF
  exact so (sl ⟨rfl,⟨ok,E.keep []⟩⟩)
 refine wp_skip<|qaa<|wp_seq<|wp_block<|sg<|mv E rfl fun a E=>av E rfl fun a E=>wn<|sg<|mz E rfl rfl fun a E=>mv E rfl fun a E=>?_
 obtain ⟨x8,e9,hF⟩:=bnd hF
 obtain ⟨b10,o11,es12,hl13,rr14,at15,yy16⟩:=ia E 12 13 qdP hs_0 e9
 obtain ⟨rfl,r17,r18⟩:=rr14
 refine lv E ok (yy16 _ _) fun a E=>lv E ok (qaj (cs:=[vi x8.From,vi x8.To]) qhx rfl rfl (qac.ro at15)) fun a E=>bd hF fun r19 e20 hF=>qbJ E rfl qtQ rfl (qmt N _ x8 ⟨rfl,r17,r18⟩ x0 r1 e20 hG ok) rfl rfl ?_
 rintro _ w ⟨rfl,ok⟩
 refine ⟨_,rfl,fun a E=>?_⟩
 refine wn<|cg E rfl hF (fun c21 hF=>?_) fun c21 hF=>?_
 ·refine wp_skip<|qaq<|qaa<|qab<|lw E (qaA rfl rfl (InR.inc r6 (qan hs_0) c7)) fun a E=>mv E rfl fun a E=>wpList_nil ?_
  cases hF
  exact qaw ⟨ok,E.keep [0,1,7,8],(InR.inc r6 (qan hs_0) c7)⟩
 refine sg<|mv E rfl fun a E=>aw E rfl fun a E=>wp_ret<|qat<|qai ?_
 cases hF
 exact so (sr ⟨rfl,⟨ok,E.d,rz E rfl,r6⟩⟩)
def qfI (u:World) (m0:Mem) (S:Segs) (pb0:Nat) (x0:Int) (r:Bool) (a:Act) (w:World):Prop :=
 Ok u m0 ([(pb0,oc 3 [vi x0])] :: S) w ∧ a.defers = [] ∧ RVs Tryz.prog a w [.t 4 (.bool r)]
theorem qfH (N:Nat) (vs_0:Value) (s_0:List (Span)) (hs_0:(pL 2 qd3) m0 [vs_0] s_0) {pb0:Nat} (x0:Int) (r1:InR .i64 x0) {r:Bool} (hF:qbw N s_0 x0 = some r) (hG:Glob u) (ok:Ok u m0 ([(pb0,oc 3 [vi x0])] :: S) w) :
  Calls Tryz.prog 107 [vs_0,Value.func (.func 108) #[] #[.pointer (some ⟨pb0,0,none⟩)]].toArray w fun e w'=>(e = .returned (.bool r) ∧ Ok u m0 ([(pb0,oc 3 [vi x0])] :: S) w'):=by
 unfold qbw at hF
 refine en (qfI u m0 S pb0 x0) r Tryz.func107 rfl rfl rfl (fun _ _ h=>ra h rfl) fun fin a E=>sg<|aw E rfl fun a E=>sg<|mz E rfl rfl fun a E=>bd hF fun r2 e3 hF=>qaf E quG rfl (qgc N _ s_0 hs_0 x0 r1 e3 hG ok) rfl rfl ?_
 rintro _ w ⟨⟨rfl,ok⟩,r4⟩
 refine ⟨_,rfl,fun a E=>?_⟩
 refine lw E (qgq rfl rfl) fun a E=>aw E rfl fun a E=>wp_ret ?_
 exact fin hF ⟨ok,E.d,rz E rfl⟩
def qnL (u:World) (m0:Mem) (S:Segs) (r:Bool) (a:Act) (w:World):Prop :=
 Ok u m0 S w ∧ a.defers = [] ∧ RVs Tryz.prog a w [.t 4 (.bool r)]
theorem qnO (N:Nat) (vl_0:Value) (l_0:List (Span)) (hl_0:(pL 2 qd3) m0 [vl_0] l_0) (n_1:Int) (rn_1:InR .i64 n_1) {r:Bool} (hF:qgW N l_0 n_1 = some r) (hG:Glob u) (ok:Ok u m0 S w) :
  Calls Tryz.prog 76 [vl_0,vi n_1].toArray w fun e w'=>(e = .returned (.bool r) ∧ Ok u m0 S w'):=by
 unfold qgW at hF
 refine en (qnL u m0 S) r Tryz.func76 rfl rfl rfl (fun _ _ h=>ra h rfl) fun fin a E=>sg<|qcp E ok rfl rfl rfl fun b1 a w E ok=>aw E rfl fun a E=>sg<|mv E rfl fun a E=>lv E ok (qbn (caps:=[.tmp 3]) rfl) fun a E=>bd hF fun r2 e3 hF=>lc E qt5 rfl (qfH N _ l_0 hl_0 n_1 rn_1 e3 hG ok) fun w ok a E=>aw E rfl fun a E=>wp_ret ?_
 exact fin hF ⟨ok.drop,E.d,rz E rfl⟩
def ql1 (u:World) (m0:Mem) (S:Segs) (r:Bool) (a:Act) (w:World):Prop :=
 Ok u m0 S w ∧ a.defers = [] ∧ RVs Tryz.prog a w [.t 4 (.bool r)]
theorem ql0 (N:Nat) (vr_0:List Value) (r_0:Relation) (hr_0:qag m0 vr_0 r_0) (number_1:List UInt8) (lnumber_1:number_1.length ≤ LIMS) {r:Bool} (hF:qfu N r_0 number_1 = some r) (hG:Glob u) (ok:Ok u m0 S w) :
  Calls Tryz.prog 53 [.agg vr_0.toArray,vs number_1].toArray w fun e w'=>(e = .returned (.bool r) ∧ Ok u m0 S w'):=by
 obtain ⟨c3,rfl,r1,r2,h4⟩:=hr_0
 unfold qfu at hF
 refine en (ql1 u m0 S) r Tryz.func53 rfl rfl rfl (fun _ _ h=>ra h rfl) fun fin a E=>sg<|qcp E ok rfl rfl rfl fun b5 a w E ok=>aw E rfl fun a E=>sg<|mv E rfl fun a E=>fk E ok qeE qav rfl 0 rfl rfl fun a E=>bd hF fun r6 e7 hF=>qaf E qvo rfl (qmc N number_1 lnumber_1 r_0.Operand r1 e7 hG ok) rfl rfl ?_
 rintro _ w ⟨⟨rfl,ok⟩,r8,r9⟩
 refine ⟨_,rfl,fun a E=>?_⟩
 refine mv E rfl fun a E=>lw E (qak rfl rfl) fun a E=>lw E (qak rfl rfl) fun a E=>av E rfl fun a E=>aw E rfl fun a E=>wp_seq<|sg<|mv E rfl fun a E=>lw E (qa1 rfl rfl) fun a E=>wn<|cf E rfl hF (fun c10 hF=>?_) fun c10 hF=>?_
 ·refine sg<|fk E ok qgu qfY rfl 0 rfl rfl fun a E=>aw E rfl fun a E=>wp_ret<|qai ?_
  exact fin hF ⟨ok.drop,E.d,rz E rfl⟩
 refine wp_skip<|qaa<|wp_seq<|sg<|fk E ok qhI qav rfl 0 rfl rfl fun a E=>lw E (qa1 rfl rfl) fun a E=>wn<|bd hF fun o11 hJ hF=>qbm (Q':=fun e a w=>e = .normal ∧ Ok u m0 ([(b5,oc 52 [vi r_0.Operand,vi r_0.Mod,vb r_0.Not,c3])] :: S) w ∧ Env 32 a [(2,vp b5),(5,vi o11)] ∧ InR .i64 o11) ?_ ?_
 ·have hF:=hJ
  refine cg E rfl hF (fun c13 hF=>?_) fun c13 hF=>?_
  ·refine wp_skip ?_
   cases hF
   exact ⟨rfl,⟨ok,E.keep [2,5],r8⟩⟩
  refine qab<|mv E rfl fun a E=>fk E ok qhI qav rfl 0 rfl rfl fun a E=>bd hF fun q14 e15 hF=>lw E (y_rm rfl rfl e15) fun a E=>av E rfl fun a E=>wpList_nil ?_
  cases hF
  exact ⟨rfl,⟨ok,E.keep [2,5],(qrj e15 r8)⟩⟩
 intro e a w hO
 obtain ⟨rfl,ok,E,r16⟩:=hO
 refine qaa<|wp_seq<|qgZ (by kernel_rfl) (by kernel_rfl) ok<|qv E (qau qdM rfl) fun a E=>qv E (qas qfb rfl (qac.own 0 rfl rfl)) fun a E=>qv E (qal rfl) fun a E=>bd hF fun r17 e18 hF=>qiy E qu8 rfl (fun w ok=>(qnO N _ r_0.Spans h4 o11 r16 e18 hG ok).mono (fun _ _ h=>h)) rfl rfl fun a E=>qv E (qau qgu rfl) fun a E=>qv E (qas qfY rfl (qac.own 0 rfl rfl)) fun a E=>qv E (qrz Tryz.underlying4 rfl rfl) fun a E=>qv E (qax rfl) fun a E=>wpQuiet_nil ?_
 intro w ok
 refine qaa<|wp_ret ?_
 exact fin hF ⟨ok.drop,E.d,rz E rfl⟩
def qki (u:World) (m0:Mem) (S:Segs) (pb0:Nat) (x0:List UInt8) (r:Bool) (a:Act) (w:World):Prop :=
 Ok u m0 ([(pb0,oc 9 [vs x0])] :: S) w ∧ a.defers = [] ∧ RVs Tryz.prog a w [.t 3 (.bool r)]
theorem qjZ (N:Nat) (vr_0:List Value) (r_0:Relation) (hr_0:qag m0 vr_0 r_0) {pb0:Nat} (x0:List UInt8) (l5:x0.length ≤ LIMS) {r:Bool} (hF:qfn N r_0 x0 = some r) (hG:Glob u) (ok:Ok u m0 ([(pb0,oc 9 [vs x0])] :: S) w) :
  Calls Tryz.prog 52 [.agg vr_0.toArray,vp pb0].toArray w fun e w'=>(e = .returned (.bool r) ∧ Ok u m0 ([(pb0,oc 9 [vs x0])] :: S) w'):=by
 obtain ⟨c3,rfl,r1,r2,h4⟩:=hr_0
 unfold qfn at hF
 refine en (qki u m0 S pb0 x0) r Tryz.func52 rfl rfl rfl (fun _ _ h=>ra h rfl) fun fin a E=>sg<|qcp E ok rfl rfl rfl fun b6 a w E ok=>aw E rfl fun a E=>sg<|lv E ok (qaj (cs:=[vi r_0.Operand,vi r_0.Mod,vb r_0.Not,c3]) qcG rfl rfl (qac.own 0 rfl rfl)) fun a E=>ld E ok qbY 1 rfl rfl rfl fun a E=>bd hF fun r7 e8 hF=>lc E qvv rfl (ql0 N _ r_0 ⟨_,rfl,r1,r2,h4⟩ x0 l5 e8 hG ok) fun w ok a E=>lw E (qaU rfl) fun a E=>aw E rfl fun a E=>wp_ret ?_
 exact fin hF ⟨ok.drop,E.d,rz E rfl⟩
def qcM (u:World) (m0:Mem) (S:Segs) (pb0:Nat) (x0:List UInt8) (r:Int) (a:Act) (w:World):Prop :=
 Ok u m0 ([(pb0,oc 9 [vs x0])] :: S) w ∧ a.defers = [] ∧ RVs Tryz.prog a w [.t 4 (.int .i64 r)] ∧ InR .i64 r
theorem qfe (N:Nat) (vs_0:Value) (s_0:List (Relation)) (hs_0:(pL 4 qag) m0 [vs_0] s_0) {pb0:Nat} (x0:List UInt8) (l1:x0.length ≤ LIMS) {r:Int} (hF:qbg N s_0 x0 = some r) (hG:Glob u) (ok:Ok u m0 ([(pb0,oc 9 [vs x0])] :: S) w) :
  Calls Tryz.prog 74 [vs_0,Value.func (.func 52) #[] #[.pointer (some ⟨pb0,0,none⟩)]].toArray w fun e w'=>(e = .returned (.int .i64 r) ∧ Ok u m0 ([(pb0,oc 9 [vs x0])] :: S) w') ∧ InR .i64 r:=by
 unfold qbg at hF
 refine en (qcM u m0 S pb0 x0) r Tryz.func74 rfl rfl rfl (fun _ _ h=>rb h rfl) fun fin a E=>sg<|aw E rfl fun a E=>wp_seq<|sg<|mv E rfl fun a E=>lv E ok (qaz qcu hs_0 rfl) fun a E=>mv E rfl fun a E=>wn<|wp_block<|bd hF fun o3 hL hF=>qaE _ (fun (s:Int) a w=>Ok u m0 ([(pb0,oc 9 [vs x0])] :: S) w ∧ Env 19 a [(0,vs_0),(1,(Value.func (.func 52) #[] #[.pointer (some ⟨pb0,0,none⟩)])),(7,(vi (s_0.length:Int))),(8,vi s)] ∧ InR .i64 s) (fun (b:(Unit ⊕ Int)) e a w=>(Sum.elim (fun b24=>e = (.exit 0) ∧ Ok u m0 ([(pb0,oc 9 [vs x0])] :: S) w ∧ Env 19 a []) (fun b25=>e = .ret ∧ qcM u m0 S pb0 x0 b25 a w)) b) ?_ ?_ N _ a w hL ⟨ok,E.keep [0,1,7,8],(ir 0)⟩
 rotate_left
 ·intro e a w _ hO
  rcases o3 with o3 | o3
  rotate_left
  ·obtain ⟨rfl,hret⟩:=hO
   refine qat<|qai ?_
   exact fin hF hret
  have hF:=qcA hF
  obtain ⟨rfl,ok,E⟩:=hO
  refine qaK<|qaa<|sg<|aw E rfl fun a E=>wp_ret ?_
  exact fin hF ⟨ok,E.d,rz E rfl,(ir (-1))⟩
 rintro v5 a w r ⟨ok,E,r6⟩ hF
 replace hF:qaO N s_0 x0 v5 = some r:=hF
 unfold qaO at hF
 refine sg<|lw E (qaG rfl rfl) fun a E=>wn<|wp_seq<|cg E rfl hF (fun c7 hF=>?_) fun c7 hF=>?_
 ·refine wp_exit<|qay ?_
  cases hF
  exact so (sl ⟨rfl,⟨ok,E.keep []⟩⟩)
 refine wp_skip<|qaa<|wp_seq<|wp_block<|sg<|mv E rfl fun a E=>av E rfl fun a E=>wn<|sg<|mz E rfl rfl fun a E=>mv E rfl fun a E=>?_
 obtain ⟨x8,e9,hF⟩:=bnd hF
 obtain ⟨b10,o11,es12,hl13,rr14,at15,yy16⟩:=ia E 12 13 qcu hs_0 e9
 obtain ⟨c19,rfl,r17,r18,h20⟩:=rr14
 refine lv E ok (yy16 _ _) fun a E=>lv E ok (qaj (cs:=[vi x8.Operand,vi x8.Mod,vb x8.Not,c19]) qcG rfl rfl (qac.ro at15)) fun a E=>bd hF fun r21 e22 hF=>qbJ E rfl quZ rfl (qjZ N _ x8 ⟨_,rfl,r17,r18,h20⟩ x0 l1 e22 hG ok) rfl rfl ?_
 rintro _ w ⟨rfl,ok⟩
 refine ⟨_,rfl,fun a E=>?_⟩
 refine wn<|cg E rfl hF (fun c23 hF=>?_) fun c23 hF=>?_
 ·refine wp_skip<|qaq<|qaa<|qab<|lw E (qaA rfl rfl (InR.inc r6 (qan hs_0) c7)) fun a E=>mv E rfl fun a E=>wpList_nil ?_
  cases hF
  exact qaw ⟨ok,E.keep [0,1,7,8],(InR.inc r6 (qan hs_0) c7)⟩
 refine sg<|mv E rfl fun a E=>aw E rfl fun a E=>wp_ret<|qat<|qai ?_
 cases hF
 exact so (sr ⟨rfl,⟨ok,E.d,rz E rfl,r6⟩⟩)
def qeR (u:World) (m0:Mem) (S:Segs) (pb0:Nat) (x0:List UInt8) (r:Bool) (a:Act) (w:World):Prop :=
 Ok u m0 ([(pb0,oc 9 [vs x0])] :: S) w ∧ a.defers = [] ∧ RVs Tryz.prog a w [.t 4 (.bool r)]
theorem qeS (N:Nat) (vs_0:Value) (s_0:List (Relation)) (hs_0:(pL 4 qag) m0 [vs_0] s_0) {pb0:Nat} (x0:List UInt8) (l1:x0.length ≤ LIMS) {r:Bool} (hF:qa7 N s_0 x0 = some r) (hG:Glob u) (ok:Ok u m0 ([(pb0,oc 9 [vs x0])] :: S) w) :
  Calls Tryz.prog 51 [vs_0,Value.func (.func 52) #[] #[.pointer (some ⟨pb0,0,none⟩)]].toArray w fun e w'=>(e = .returned (.bool r) ∧ Ok u m0 ([(pb0,oc 9 [vs x0])] :: S) w'):=by
 unfold qa7 at hF
 refine en (qeR u m0 S pb0 x0) r Tryz.func51 rfl rfl rfl (fun _ _ h=>ra h rfl) fun fin a E=>sg<|aw E rfl fun a E=>sg<|mz E rfl rfl fun a E=>bd hF fun r2 e3 hF=>qaf E qsR rfl (qfe N _ s_0 hs_0 x0 l1 e3 hG ok) rfl rfl ?_
 rintro _ w ⟨⟨rfl,ok⟩,r4⟩
 refine ⟨_,rfl,fun a E=>?_⟩
 refine lw E (qgq rfl rfl) fun a E=>aw E rfl fun a E=>wp_ret ?_
 exact fin hF ⟨ok,E.d,rz E rfl⟩
def qk7 (u:World) (m0:Mem) (S:Segs) (pb0:Nat) (x0:List UInt8) (r:Bool) (a:Act) (w:World):Prop :=
 Ok u m0 ([(pb0,oc 9 [vs x0])] :: S) w ∧ a.defers = [] ∧ RVs Tryz.prog a w [.t 3 (.bool r)]
theorem qlc (N:Nat) (vlist_0:Value) (list_0:List (Relation)) (hlist_0:(pL 4 qag) m0 [vlist_0] list_0) {pb0:Nat} (x0:List UInt8) (l1:x0.length ≤ LIMS) {r:Bool} (hF:qfW N list_0 x0 = some r) (hG:Glob u) (ok:Ok u m0 ([(pb0,oc 9 [vs x0])] :: S) w) :
  Calls Tryz.prog 50 [vlist_0,vp pb0].toArray w fun e w'=>(e = .returned (.bool r) ∧ Ok u m0 ([(pb0,oc 9 [vs x0])] :: S) w'):=by
 unfold qfW at hF
 refine en (qk7 u m0 S pb0 x0) r Tryz.func50 rfl rfl rfl (fun _ _ h=>ra h rfl) fun fin a E=>sg<|aw E rfl fun a E=>sg<|mv E rfl fun a E=>lv E ok (qbn (caps:=[.tmp 1]) rfl) fun a E=>bd hF fun r2 e3 hF=>lc E qsA rfl (qeS N _ list_0 hlist_0 x0 l1 e3 hG ok) fun w ok a E=>lw E (qaU rfl) fun a E=>aw E rfl fun a E=>wp_ret ?_
 exact fin hF ⟨ok,E.d,rz E rfl⟩
def qds (u:World) (m0:Mem) (S:Segs) (pb0:Nat) (x0:List UInt8) (r:Int) (a:Act) (w:World):Prop :=
 Ok u m0 ([(pb0,oc 9 [vs x0])] :: S) w ∧ a.defers = [] ∧ RVs Tryz.prog a w [.t 4 (.int .i64 r)] ∧ InR .i64 r
theorem qfJ (N:Nat) (vs_0:Value) (s_0:List (List (Relation))) (hs_0:(pL 1 (pL 4 qag)) m0 [vs_0] s_0) {pb0:Nat} (x0:List UInt8) (l1:x0.length ≤ LIMS) {r:Int} (hF:qbv N s_0 x0 = some r) (hG:Glob u) (ok:Ok u m0 ([(pb0,oc 9 [vs x0])] :: S) w) :
  Calls Tryz.prog 73 [vs_0,Value.func (.func 50) #[] #[.pointer (some ⟨pb0,0,none⟩)]].toArray w fun e w'=>(e = .returned (.int .i64 r) ∧ Ok u m0 ([(pb0,oc 9 [vs x0])] :: S) w') ∧ InR .i64 r:=by
 unfold qbv at hF
 refine en (qds u m0 S pb0 x0) r Tryz.func73 rfl rfl rfl (fun _ _ h=>rb h rfl) fun fin a E=>sg<|aw E rfl fun a E=>wp_seq<|sg<|mv E rfl fun a E=>lv E ok (qaz qfR hs_0 rfl) fun a E=>mv E rfl fun a E=>wn<|wp_block<|bd hF fun o3 hL hF=>qaE _ (fun (s:Int) a w=>Ok u m0 ([(pb0,oc 9 [vs x0])] :: S) w ∧ Env 19 a [(0,vs_0),(1,(Value.func (.func 50) #[] #[.pointer (some ⟨pb0,0,none⟩)])),(7,(vi (s_0.length:Int))),(8,vi s)] ∧ InR .i64 s) (fun (b:(Unit ⊕ Int)) e a w=>(Sum.elim (fun b22=>e = (.exit 0) ∧ Ok u m0 ([(pb0,oc 9 [vs x0])] :: S) w ∧ Env 19 a []) (fun b23=>e = .ret ∧ qds u m0 S pb0 x0 b23 a w)) b) ?_ ?_ N _ a w hL ⟨ok,E.keep [0,1,7,8],(ir 0)⟩
 rotate_left
 ·intro e a w _ hO
  rcases o3 with o3 | o3
  rotate_left
  ·obtain ⟨rfl,hret⟩:=hO
   refine qat<|qai ?_
   exact fin hF hret
  have hF:=qcA hF
  obtain ⟨rfl,ok,E⟩:=hO
  refine qaK<|qaa<|sg<|aw E rfl fun a E=>wp_ret ?_
  exact fin hF ⟨ok,E.d,rz E rfl,(ir (-1))⟩
 rintro v5 a w r ⟨ok,E,r6⟩ hF
 replace hF:qaV N s_0 x0 v5 = some r:=hF
 unfold qaV at hF
 refine sg<|lw E (qaG rfl rfl) fun a E=>wn<|wp_seq<|cg E rfl hF (fun c7 hF=>?_) fun c7 hF=>?_
 ·refine wp_exit<|qay ?_
  cases hF
  exact so (sl ⟨rfl,⟨ok,E.keep []⟩⟩)
 refine wp_skip<|qaa<|wp_seq<|wp_block<|sg<|mv E rfl fun a E=>av E rfl fun a E=>wn<|sg<|mz E rfl rfl fun a E=>mv E rfl fun a E=>?_
 obtain ⟨x8,e9,hF⟩:=bnd hF
 obtain ⟨b10,o11,es12,hl13,rr14,at15,yy16⟩:=ia E 12 13 qfR hs_0 e9
 obtain ⟨c17,rfl,h18⟩:=qef rr14
 refine lv E ok (yy16 _ _) fun a E=>lv E ok (qas qgs rfl (qac.ro at15)) fun a E=>bd hF fun r19 e20 hF=>qbJ E rfl qvl rfl (qlc N _ x8 h18 x0 l1 e20 hG ok) rfl rfl ?_
 rintro _ w ⟨rfl,ok⟩
 refine ⟨_,rfl,fun a E=>?_⟩
 refine wn<|cg E rfl hF (fun c21 hF=>?_) fun c21 hF=>?_
 ·refine wp_skip<|qaq<|qaa<|qab<|lw E (qaA rfl rfl (InR.inc r6 (qan hs_0) c7)) fun a E=>mv E rfl fun a E=>wpList_nil ?_
  cases hF
  exact qaw ⟨ok,E.keep [0,1,7,8],(InR.inc r6 (qan hs_0) c7)⟩
 refine sg<|mv E rfl fun a E=>aw E rfl fun a E=>wp_ret<|qat<|qai ?_
 cases hF
 exact so (sr ⟨rfl,⟨ok,E.d,rz E rfl,r6⟩⟩)
def qfo (u:World) (m0:Mem) (S:Segs) (pb0:Nat) (x0:List UInt8) (r:Bool) (a:Act) (w:World):Prop :=
 Ok u m0 ([(pb0,oc 9 [vs x0])] :: S) w ∧ a.defers = [] ∧ RVs Tryz.prog a w [.t 4 (.bool r)]
theorem qfp (N:Nat) (vs_0:Value) (s_0:List (List (Relation))) (hs_0:(pL 1 (pL 4 qag)) m0 [vs_0] s_0) {pb0:Nat} (x0:List UInt8) (l1:x0.length ≤ LIMS) {r:Bool} (hF:qaT N s_0 x0 = some r) (hG:Glob u) (ok:Ok u m0 ([(pb0,oc 9 [vs x0])] :: S) w) :
  Calls Tryz.prog 49 [vs_0,Value.func (.func 50) #[] #[.pointer (some ⟨pb0,0,none⟩)]].toArray w fun e w'=>(e = .returned (.bool r) ∧ Ok u m0 ([(pb0,oc 9 [vs x0])] :: S) w'):=by
 unfold qaT at hF
 refine en (qfo u m0 S pb0 x0) r Tryz.func49 rfl rfl rfl (fun _ _ h=>ra h rfl) fun fin a E=>sg<|aw E rfl fun a E=>sg<|mz E rfl rfl fun a E=>bd hF fun r2 e3 hF=>qaf E quR rfl (qfJ N _ s_0 hs_0 x0 l1 e3 hG ok) rfl rfl ?_
 rintro _ w ⟨⟨rfl,ok⟩,r4⟩
 refine ⟨_,rfl,fun a E=>?_⟩
 refine lw E (qgq rfl rfl) fun a E=>aw E rfl fun a E=>wp_ret ?_
 exact fin hF ⟨ok,E.d,rz E rfl⟩
def ql7 (u:World) (m0:Mem) (S:Segs) (r:Bool × Int) (a:Act) (w:World):Prop :=
 Ok u m0 S w ∧ a.defers = [] ∧ RVs Tryz.prog a w [.t 4 (.bool r.1),.t 5 (.int .i64 r.2)] ∧ InR .i64 r.2
theorem qiI (N:Nat) (vc_0:Value) (c_0:List (List (Relation))) (hc_0:(pL 1 (pL 4 qag)) m0 [vc_0] c_0) (number_1:List UInt8) (lnumber_1:number_1.length ≤ LIMS) {r:Bool × Int} (hF:qdm N c_0 number_1 = some r) (hG:Glob u) (ok:Ok u m0 S w) :
  Calls Tryz.prog 27 [vc_0,vs number_1].toArray w fun e w'=>(e = .returned (.tuple [(.bool r.1),(.int .i64 r.2)].toArray) ∧ Ok u m0 S w') ∧ InR .i64 r.2:=by
 unfold qdm at hF
 refine en (ql7 u m0 S) r Tryz.func27 rfl rfl rfl (by rintro a w ⟨ok,hd,hrv,h0⟩; exact qaZ [.t 4 (.bool r.1),.t 5 (.int .i64 r.2)] hd rfl hrv ⟨⟨rfl,ok⟩,h0⟩) fun fin a E=>sg<|qcp E ok rfl rfl rfl fun b1 a w E ok=>av E rfl fun a E=>aw E rfl fun a E=>wp_seq<|sg<|mv E rfl fun a E=>bd hF fun r2 e3 hF=>lc E qoM rfl (qfT N _ c_0 hc_0 e3 hG ok) fun w ok a E=>lw E (qaU rfl) fun a E=>mv E rfl fun a E=>bu E 9 hF (fun c4 hF E=>?_) fun c4 hF E=>?_
 ·refine lsq E fun a E=>ls E fun a E=>pt E rfl rfl fun a E=>wn<|c_if E rfl (fun _=>?_) (fun h=>by cases h)
  refine sg<|av E rfl fun a E=>aw E rfl fun a E=>wp_ret<|qai ?_
  exact fin hF ⟨ok.drop,E.d,⟨rv_t E rfl,rv_t E rfl,trivial⟩,(ir 1)⟩
 refine ld E ok qbY 0 rfl rfl rfl fun a E=>bd hF fun r5 e6 hF=>lc E qu6 rfl (qm8 N number_1 lnumber_1 e6 hG ok) fun w ok a E=>lw E (qaU rfl) fun a E=>pf E rfl rfl fun a E=>wn<|cf E rfl hF (fun c7 hF=>?_) fun c7 hF=>?_
 ·refine sg<|av E rfl fun a E=>aw E rfl fun a E=>wp_ret<|qai ?_
  exact fin hF ⟨ok.drop,E.d,⟨rv_t E rfl,rv_t E rfl,trivial⟩,(ir 1)⟩
 refine wp_skip<|qaa<|sg<|mv E rfl fun a E=>lv E ok (qbn (caps:=[.tmp 3]) rfl) fun a E=>bd hF fun r8 e9 hF=>lc E qvC rfl (qfp N _ c_0 hc_0 number_1 lnumber_1 e9 hG ok) fun w ok a E=>av E rfl fun a E=>aw E rfl fun a E=>wp_ret ?_
 exact fin hF ⟨ok.drop,E.d,⟨rv_t E rfl,rv_t E rfl,trivial⟩,(ir 0)⟩
end Go.Proofs.YtboacfcnmhnbdaaGreatDoor
