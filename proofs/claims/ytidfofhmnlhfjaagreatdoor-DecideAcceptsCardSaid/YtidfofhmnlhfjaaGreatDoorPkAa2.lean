/- Texts of this proof, put together by pack.py: what its declarations name. -/
import Derived.Test.YtidfofhmnlhfjaaGreatDoorPkAa1
import Derived.Test.YtidfofhmnlhfjaaGreatDoorCards
import Derived.Test.YtidfofhmnlhfjaaGreatDoorChecked
import Derived.Test.YtidfofhmnlhfjaaGreatDoorProg
import Derived.Test.YtidfofhmnlhfjaaGreatDoorRows
import Derived.Test.YtidfofhmnlhfjaaGreatDoorTie
set_option linter.unusedVariables false
set_option linter.unusedSimpArgs false
namespace Go.Proofs.YtidfofhmnlhfjaaGreatDoor
open Go.X
def qei (_N:Nat) (o6:((List UInt8) × Number)) (k_26:Int):Option (Int ⊕ Int) :=
 bif (decide (k_26 < (o6.1.length:Int))) then
  (idx o6.1 k_26).bind fun c29 =>
  bif ((c29.toNat:Int) != 46) then
   some (.inl (k_26 + 1))
  else
   some (.inr k_26)
 else
  some (.inr k_26)
def qfz (_N:Nat) (s_0:List UInt8) (k_75:Int):Option (Int ⊕ Int) :=
 bif (decide (k_75 < (s_0.length:Int))) then
  (idx s_0 k_75).bind fun c78 =>
  bif ((c78.toNat:Int) != 46) then
   some (.inl (k_75 + 1))
  else
   some (.inr k_75)
 else
  some (.inr k_75)
def qea (N:Nat) (s_0:List UInt8):Option (Number × Bool) :=
 bif (decide ((s_0.length:Int) > 0)) then
  (idx s_0 0).bind fun c4 =>
  (show Option ((List UInt8) × Number) from
   bif ((c4.toNat:Int) == 45) then
    (show Option ((List UInt8) × Number) from
     (slc s_0 1 (s_0.length:Int)).bind fun s15 =>
     some (s15,(Number.mk true ([]) ([])))).bind fun o11 =>
    some (o11.1,o11.2)
   else
    some (s_0,(Number.mk false ([]) ([])))).bind fun o6 =>
  (iter (fun s=>qei N o6 s) N 0).bind fun o24 =>
  (slc o6.1 0 o24).bind fun s33 =>
  (show Option (Number ⊕ (Number × Bool)) from
   bif (decide (o24 < (o6.1.length:Int))) then
    (slc o6.1 (o24 + 1) (o6.1.length:Int)).bind fun s41 =>
    bif ((s41.length:Int) == 0) then
     some (.inr ((Number.mk false ([]) ([])),false))
    else
     some (.inl (Number.mk o6.2.Neg s33 s41))
   else
    some (.inl (Number.mk o6.2.Neg s33 o6.2.Frac))).bind fun o35 =>
  Sum.elim (fun o35 =>
   (cat o35.Whole o35.Frac).bind fun s46 =>
   (qdb N s46).bind fun r48 =>
   bif (!r48) then
    some ((Number.mk false ([]) ([])),false)
   else
    bif (decide ((o35.Whole.length:Int) < 1)) then
     some ((Number.mk false ([]) ([])),false)
    else
     bif (decide ((o35.Whole.length:Int) > 15)) then
      some ((Number.mk false ([]) ([])),false)
     else
      bif (decide ((o35.Whole.length:Int) > 1)) then
       (idx o35.Whole 0).bind fun c54 =>
       bif ((c54.toNat:Int) == 48) then
        some ((Number.mk false ([]) ([])),false)
       else
        bif (decide ((o35.Frac.length:Int) > 6)) then
         some ((Number.mk false ([]) ([])),false)
        else
         bif o35.Neg then
          (cat o35.Whole o35.Frac).bind fun s59 =>
          (qcH N s59).bind fun r61 =>
          bif r61 then
           some ((Number.mk false ([]) ([])),false)
          else
           some (o35,true)
         else
          some (o35,true)
      else
       bif (decide ((o35.Frac.length:Int) > 6)) then
        some ((Number.mk false ([]) ([])),false)
       else
        bif o35.Neg then
         (cat o35.Whole o35.Frac).bind fun s66 =>
         (qcH N s66).bind fun r68 =>
         bif r68 then
          some ((Number.mk false ([]) ([])),false)
         else
          some (o35,true)
        else
         some (o35,true))
  (fun o35 =>
   some o35) o35
 else
  (iter (fun s=>qfz N s_0 s) N 0).bind fun o73 =>
  (slc s_0 0 o73).bind fun s82 =>
  (show Option (Number ⊕ (Number × Bool)) from
   bif (decide (o73 < (s_0.length:Int))) then
    (slc s_0 (o73 + 1) (s_0.length:Int)).bind fun s90 =>
    bif ((s90.length:Int) == 0) then
     some (.inr ((Number.mk false ([]) ([])),false))
    else
     some (.inl (Number.mk false s82 s90))
   else
    some (.inl (Number.mk false s82 ([])))).bind fun o84 =>
  Sum.elim (fun o84 =>
   (cat o84.Whole o84.Frac).bind fun s95 =>
   (qdb N s95).bind fun r97 =>
   bif (!r97) then
    some ((Number.mk false ([]) ([])),false)
   else
    bif (decide ((o84.Whole.length:Int) < 1)) then
     some ((Number.mk false ([]) ([])),false)
    else
     bif (decide ((o84.Whole.length:Int) > 15)) then
      some ((Number.mk false ([]) ([])),false)
     else
      bif (decide ((o84.Whole.length:Int) > 1)) then
       (idx o84.Whole 0).bind fun c103 =>
       bif ((c103.toNat:Int) == 48) then
        some ((Number.mk false ([]) ([])),false)
       else
        bif (decide ((o84.Frac.length:Int) > 6)) then
         some ((Number.mk false ([]) ([])),false)
        else
         bif o84.Neg then
          (cat o84.Whole o84.Frac).bind fun s108 =>
          (qcH N s108).bind fun r110 =>
          bif r110 then
           some ((Number.mk false ([]) ([])),false)
          else
           some (o84,true)
         else
          some (o84,true)
      else
       bif (decide ((o84.Frac.length:Int) > 6)) then
        some ((Number.mk false ([]) ([])),false)
       else
        bif o84.Neg then
         (cat o84.Whole o84.Frac).bind fun s115 =>
         (qcH N s115).bind fun r117 =>
         bif r117 then
          some ((Number.mk false ([]) ([])),false)
         else
          some (o84,true)
        else
         some (o84,true))
  (fun o84 =>
   some o84) o84
def qd9 (N:Nat) (s_0:List UInt8):Option Bool :=
 (qea N s_0).bind fun r1 =>
 some r1.2
end Go.Proofs.YtidfofhmnlhfjaaGreatDoor
namespace Go.Proofs.YtidfofhmnlhfjaaGreatDoor
open Go.X
structure Number2 where
 negative:Bool
 whole:List UInt8
 fraction:List UInt8
 deriving DecidableEq
def qcJ (N:Nat) (s_0:List UInt8):Option Bool :=
 (qeu N s_0 ([48,49,50,51,52,53,54,55,56,57])).bind fun r1 =>
 some (r1 == ([]))
def qfn (N:Nat) (s_0:List UInt8):Option Bool :=
 (qeu N s_0 ([48])).bind fun r1 =>
 some (r1 == ([]))
def qct (N:Nat) (x_0:Number2):Option Bool :=
 (qfn N x_0.whole).bind fun r4 =>
 bif r4 then
  (qfn N x_0.fraction).bind fun r7 =>
  some r7
 else
  some false
def qeS (N:Nat) (s_0:List UInt8):Option (Number2 × Bool) :=
 (strings_CutPrefix N s_0 ([45])).bind fun r2 =>
 (strings_Cut N r2.1 ([46])).bind fun r5 =>
 bif (decide ((r5.1.length:Int) < 1)) then
  some ((Number2.mk r2.2 r5.1 r5.2.1),false)
 else
  bif (decide ((r5.1.length:Int) > 15)) then
   some ((Number2.mk r2.2 r5.1 r5.2.1),false)
  else
   (qcJ N r5.1).bind fun r12 =>
   bif (!r12) then
    some ((Number2.mk r2.2 r5.1 r5.2.1),false)
   else
    bif (decide ((r5.1.length:Int) > 1)) then
     (idx r5.1 0).bind fun c16 =>
     bif ((c16.toNat:Int) == 48) then
      some ((Number2.mk r2.2 r5.1 r5.2.1),false)
     else
      bif r5.2.2 then
       bif ((r5.2.1.length:Int) == 0) then
        some ((Number2.mk r2.2 r5.1 r5.2.1),false)
       else
        bif (decide ((r5.2.1.length:Int) > 6)) then
         some ((Number2.mk r2.2 r5.1 r5.2.1),false)
        else
         (qcJ N r5.2.1).bind fun r22 =>
         bif (!r22) then
          some ((Number2.mk r2.2 r5.1 r5.2.1),false)
         else
          (show Option (Bool × Number2) from
           bif (!r2.2) then
            some (true,(Number2.mk r2.2 r5.1 r5.2.1))
           else
            (qct N (Number2.mk r2.2 r5.1 r5.2.1)).bind fun r29 =>
            some ((!r29),(Number2.mk r2.2 r5.1 r5.2.1))).bind fun o25 =>
          some (o25.2,o25.1)
      else
       bif (decide ((r5.2.1.length:Int) > 6)) then
        some ((Number2.mk r2.2 r5.1 r5.2.1),false)
       else
        (qcJ N r5.2.1).bind fun r34 =>
        bif (!r34) then
         some ((Number2.mk r2.2 r5.1 r5.2.1),false)
        else
         (show Option (Bool × Number2) from
          bif (!r2.2) then
           some (true,(Number2.mk r2.2 r5.1 r5.2.1))
          else
           (qct N (Number2.mk r2.2 r5.1 r5.2.1)).bind fun r41 =>
           some ((!r41),(Number2.mk r2.2 r5.1 r5.2.1))).bind fun o37 =>
         some (o37.2,o37.1)
    else
     bif r5.2.2 then
      bif ((r5.2.1.length:Int) == 0) then
       some ((Number2.mk r2.2 r5.1 r5.2.1),false)
      else
       bif (decide ((r5.2.1.length:Int) > 6)) then
        some ((Number2.mk r2.2 r5.1 r5.2.1),false)
       else
        (qcJ N r5.2.1).bind fun r48 =>
        bif (!r48) then
         some ((Number2.mk r2.2 r5.1 r5.2.1),false)
        else
         (show Option (Bool × Number2) from
          bif (!r2.2) then
           some (true,(Number2.mk r2.2 r5.1 r5.2.1))
          else
           (qct N (Number2.mk r2.2 r5.1 r5.2.1)).bind fun r55 =>
           some ((!r55),(Number2.mk r2.2 r5.1 r5.2.1))).bind fun o51 =>
         some (o51.2,o51.1)
     else
      bif (decide ((r5.2.1.length:Int) > 6)) then
       some ((Number2.mk r2.2 r5.1 r5.2.1),false)
      else
       (qcJ N r5.2.1).bind fun r60 =>
       bif (!r60) then
        some ((Number2.mk r2.2 r5.1 r5.2.1),false)
       else
        (show Option (Bool × Number2) from
         bif (!r2.2) then
          some (true,(Number2.mk r2.2 r5.1 r5.2.1))
         else
          (qct N (Number2.mk r2.2 r5.1 r5.2.1)).bind fun r67 =>
          some ((!r67),(Number2.mk r2.2 r5.1 r5.2.1))).bind fun o63 =>
        some (o63.2,o63.1)
def qfF (N:Nat) (s_0:List UInt8):Option Bool :=
 (qeS N s_0).bind fun r1 =>
 some r1.2
def qdw (N:Nat) (s_0:List UInt8):Option Int :=
 (cat ([48]) s_0).bind fun s1 =>
 (strconv_Atoi N s1).bind fun r3 =>
 some r3.1
def qeV (N:Nat) (s_0:List UInt8) (operand_1:Int):Option (Int × Int) :=
 (qeS N s_0).bind fun r1 =>
 bif (!r1.2) then
  some (0,1)
 else
  (qdu N r1.1.fraction ([48])).bind fun r10 =>
  bif (operand_1 == 1) then
   bif (r10 != ([])) then
    some (0,8)
   else
    (qdw N r1.1.whole).bind fun r15 =>
    some (r15,0)
  else
   bif (operand_1 == 2) then
    (qdw N r1.1.whole).bind fun r19 =>
    some (r19,0)
   else
    bif (operand_1 == 3) then
     some ((r1.1.fraction.length:Int),0)
    else
     bif (operand_1 == 4) then
      some ((r10.length:Int),0)
     else
      bif (operand_1 == 5) then
       (qdw N r1.1.fraction).bind fun r25 =>
       some (r25,0)
      else
       bif (operand_1 == 6) then
        (qdw N r10).bind fun r29 =>
        some (r29,0)
       else
        some (0,1)
def qgb (_N:Nat) (s_0:Span) (x0:Int):Option Bool :=
 bif (decide (x0 ≥ s_0.From)) then
  some (decide (x0 ≤ s_0.To))
 else
  some false
def qbe (N:Nat) (s_0:List (Span)) (x0:Int) (x_5:Int):Option (Int ⊕ ((Unit ⊕ Int))) :=
 bif (decide (x_5 < (s_0.length:Int))) then
  (idx s_0 x_5).bind fun x8 =>
  (qgb N x8 x0).bind fun r19 =>
  bif r19 then
   some (.inr (.inr x_5))
  else
   some (.inl (x_5 + 1))
 else
  some (.inr (.inl ()))
def qbM (N:Nat) (s_0:List (Span)) (x0:Int):Option Int :=
 (iter (fun s=>qbe N s_0 x0 s) N 0).bind fun o3 =>
 Sum.elim (fun _o3 =>
  some (-1))
 (fun o3 =>
  some o3) o3
def qby (N:Nat) (s_0:List (Span)) (x0:Int):Option Bool :=
 (qbM N s_0 x0).bind fun r2 =>
 some (decide (r2 ≥ 0))
def qf2 (N:Nat) (l_0:List (Span)) (n_1:Int):Option Bool :=
 (qby N l_0 n_1).bind fun r2 =>
 some r2
def qeX (N:Nat) (r_0:Relation) (number_1:List UInt8):Option Bool :=
 (qeV N number_1 r_0.Operand).bind fun r6 =>
 bif (r6.2 != 0) then
  some r_0.Not
 else
  (show Option Int from
   bif (r_0.Mod != 0) then
    (rm r6.1 r_0.Mod).bind fun q14 =>
    some q14
   else
    some r6.1).bind fun o11 =>
  (qf2 N r_0.Spans o11).bind fun r17 =>
  some (r17 != r_0.Not)
def qeI (N:Nat) (r_0:Relation) (x0:List UInt8):Option Bool :=
 (qeX N r_0 x0).bind fun r7 =>
 some (!r7)
def qa5 (N:Nat) (s_0:List (Relation)) (x0:List UInt8) (x_5:Int):Option (Int ⊕ ((Unit ⊕ Int))) :=
 bif (decide (x_5 < (s_0.length:Int))) then
  (idx s_0 x_5).bind fun x8 =>
  (qeI N x8 x0).bind fun r21 =>
  bif r21 then
   some (.inr (.inr x_5))
  else
   some (.inl (x_5 + 1))
 else
  some (.inr (.inl ()))
def qbo (N:Nat) (s_0:List (Relation)) (x0:List UInt8):Option Int :=
 (iter (fun s=>qa5 N s_0 x0 s) N 0).bind fun o3 =>
 Sum.elim (fun _o3 =>
  some (-1))
 (fun o3 =>
  some o3) o3
def qbi (N:Nat) (s_0:List (Relation)) (x0:List UInt8):Option Bool :=
 (qbo N s_0 x0).bind fun r2 =>
 some (decide (r2 ≥ 0))
def qff (N:Nat) (list_0:List (Relation)) (x0:List UInt8):Option Bool :=
 (qbi N list_0 x0).bind fun r2 =>
 some (!r2)
def qbb (N:Nat) (s_0:List (List (Relation))) (x0:List UInt8) (x_5:Int):Option (Int ⊕ ((Unit ⊕ Int))) :=
 bif (decide (x_5 < (s_0.length:Int))) then
  (idx s_0 x_5).bind fun x8 =>
  (qff N x8 x0).bind fun r19 =>
  bif r19 then
   some (.inr (.inr x_5))
  else
   some (.inl (x_5 + 1))
 else
  some (.inr (.inl ()))
def qbw (N:Nat) (s_0:List (List (Relation))) (x0:List UInt8):Option Int :=
 (iter (fun s=>qbb N s_0 x0 s) N 0).bind fun o3 =>
 Sum.elim (fun _o3 =>
  some (-1))
 (fun o3 =>
  some o3) o3
def qba (N:Nat) (s_0:List (List (Relation))) (x0:List UInt8):Option Bool :=
 (qbw N s_0 x0).bind fun r2 =>
 some (decide (r2 ≥ 0))
def qe0 (N:Nat) (c_0:List (List (Relation))) (number_1:List UInt8):Option (Bool × Int) :=
 (qdq N c_0).bind fun r2 =>
 bif (!r2) then
  some (false,1)
 else
  (qfF N number_1).bind fun r5 =>
  bif (!r5) then
   some (false,1)
  else
   (qba N c_0 number_1).bind fun r8 =>
   some (r8,0)
end Go.Proofs.YtidfofhmnlhfjaaGreatDoor
namespace Go.Proofs.YtidfofhmnlhfjaaGreatDoor
open Go.X
def qcy (N:Nat) (r_0:Relation) (i_35:Int):Option (Int ⊕ ((Unit ⊕ Bool))) :=
 bif (decide (i_35 < (r_0.Spans.length:Int))) then
  (idx r_0.Spans i_35).bind fun x38 =>
  bif (decide (x38.From < 0)) then
   some (.inr (.inr false))
  else
   bif (decide (x38.From > x38.To)) then
    some (.inr (.inr false))
   else
    (qcp N r_0.Operand).bind fun r52 =>
    bif (decide (x38.To > r52)) then
     some (.inr (.inr false))
    else
     some (.inl (i_35 + 1))
 else
  some (.inr (.inl ()))
def qdU (N:Nat) (r_0:Relation):Option Bool :=
 (show Option Bool from
  bif (decide (r_0.Operand < 1)) then
   some true
  else
   bif (decide (r_0.Operand > 6)) then
    some true
   else
    bif (r_0.Mod != 0) then
     (qc5 N r_0.Operand).bind fun r11 =>
     (qcS N r11 r_0.Mod).bind fun r16 =>
     bif (!r16) then
      some true
     else
      bif (decide ((r_0.Spans.length:Int) < 1)) then
       some true
      else
       some (decide ((r_0.Spans.length:Int) > 4))
    else
     bif (decide ((r_0.Spans.length:Int) < 1)) then
      some true
     else
      some (decide ((r_0.Spans.length:Int) > 4))).bind fun o6 =>
 bif o6 then
  some false
 else
  (iter (fun s=>qcy N r_0 s) N 0).bind fun o33 =>
  Sum.elim (fun _o33 =>
   some true)
  (fun o33 =>
   some o33) o33
def qbF (N:Nat) (c_0:List (List (Relation))) (i_7:Int) (n_28:Int) (k_29:Int):Option ((Int × Int) ⊕ ((Int ⊕ Bool))) :=
 (idx c_0 i_7).bind fun x32 =>
 bif (decide (k_29 < (x32.length:Int))) then
  (idx c_0 i_7).bind fun x44 =>
  (idx x44 k_29).bind fun x55 =>
  (qdU N x55).bind fun r68 =>
  bif (!r68) then
   some (.inr (.inr false))
  else
   some (.inl ((IntKind.wrap .i64 (n_28 + 1)),(k_29 + 1)))
 else
  some (.inr (.inl n_28))
def qbY (N:Nat) (c_0:List (List (Relation))) (n_6:Int) (i_7:Int):Option ((Int × Int) ⊕ ((Int ⊕ Bool))) :=
 bif (decide (i_7 < (c_0.length:Int))) then
  (idx c_0 i_7).bind fun x11 =>
  bif ((x11.length:Int) == 0) then
   some (.inr (.inr false))
  else
   (iter (fun s=>qbF N c_0 i_7 s.1 s.2) N (n_6,0)).bind fun o25 =>
   Sum.elim (fun o25 =>
    some (.inl (o25,(i_7 + 1))))
   (fun o25 =>
    some (.inr (.inr o25))) o25
 else
  some (.inr (.inl n_6))
def qds (N:Nat) (c_0:List (List (Relation))):Option Bool :=
 (iter (fun s=>qbY N c_0 s.1 s.2) N (0,0)).bind fun o3 =>
 Sum.elim (fun o3 =>
  bif (decide ((c_0.length:Int) > 0)) then
   some (decide (o3 ≤ 6))
  else
   some false)
 (fun o3 =>
  some o3) o3
end Go.Proofs.YtidfofhmnlhfjaaGreatDoor
namespace Go.Proofs.YtidfofhmnlhfjaaGreatDoor
open Go.X
structure DFA where
 Start:Int
 Next:List (List (Int))
 Accept:List (Bool)
structure Arr6_Tracker where
 e0:Tracker
 e1:Tracker
 e2:Tracker
 e3:Tracker
 e4:Tracker
 e5:Tracker
 deriving DecidableEq
def Arr6_Tracker.list (a:Arr6_Tracker):List (Tracker):=[a.e0,a.e1,a.e2,a.e3,a.e4,a.e5]
def Arr6_Tracker.of:List (Tracker) → Option Arr6_Tracker
 | [x0,x1,x2,x3,x4,x5]=>some ⟨x0,x1,x2,x3,x4,x5⟩
 | _=>none
def Arr6_Tracker.get (a:Arr6_Tracker) (i:Int):Option (Tracker):=idx a.list i
def Arr6_Tracker.set (a:Arr6_Tracker) (i:Int) (x:Tracker):Option Arr6_Tracker:=(setI a.list i x).bind Arr6_Tracker.of
structure Reading where
 phase:Int
 trackers:Arr6_Tracker
 deriving DecidableEq
structure Arr11_Int where
 e0:Int
 e1:Int
 e2:Int
 e3:Int
 e4:Int
 e5:Int
 e6:Int
 e7:Int
 e8:Int
 e9:Int
 e10:Int
 deriving DecidableEq
def Arr11_Int.list (a:Arr11_Int):List (Int):=[a.e0,a.e1,a.e2,a.e3,a.e4,a.e5,a.e6,a.e7,a.e8,a.e9,a.e10]
def Arr11_Int.of:List (Int) → Option Arr11_Int
 | [x0,x1,x2,x3,x4,x5,x6,x7,x8,x9,x10]=>some ⟨x0,x1,x2,x3,x4,x5,x6,x7,x8,x9,x10⟩
 | _=>none
def Arr11_Int.get (a:Arr11_Int) (i:Int):Option (Int):=idx a.list i
def Arr11_Int.set (a:Arr11_Int) (i:Int) (x:Int):Option Arr11_Int:=(setI a.list i x).bind Arr11_Int.of
structure Table where
 next:List (Arr11_Int)
 accept:List (Bool)
structure Key where
 class_:Int
 next:Arr11_Int
 deriving DecidableEq
def qcw (_N:Nat) (c_0:Int) (symbol_1:Int) (x0:List (Int)) (x1:Table) (x2:List (Int)):Option Int :=
 (idx x2 c_0).bind fun x11 =>
 (idx x1.next x11).bind fun x22 =>
 (Arr11_Int.get x22 symbol_1).bind fun x42 =>
 (idx x0 x42).bind fun x44 =>
 some x44
def qdd (_N:Nat) (c_0:Int) (x0:Table) (x1:List (Int)):Option Bool :=
 (idx x1 c_0).bind fun x8 =>
 (idx x0.accept x8).bind fun x19 =>
 some x19
def qbm (N:Nat) (x0:List (Int)) (x1:Table) (x2:List (Int)) (i_59:Int) (states_118:List (Int)) (x_119:Int) (x_120:Arr11_Int) (number_121:List (Int × Int)):Option (((List (Int)) × Int × Arr11_Int × (List (Int × Int))) ⊕ ((Arr11_Int × (List (Int × Int)) × (List (Int))))) :=
 bif (decide (x_119 < 11)) then
  (idx states_118 i_59).bind fun x141 =>
  (qcw N x141 x_119 x0 x1 x2).bind fun r152 =>
  bif (!((mget number_121 r152).isSome)) then
   (mset number_121 r152 (states_118.length:Int)).bind fun l161 =>
   (app states_118 ([r152]:List (Int))).bind fun l168 =>
   (Arr11_Int.get x_120 x_119).bind fun _x173 =>
   (Arr11_Int.set x_120 x_119 (states_118.length:Int)).bind fun z175 =>
   some (.inl (l168,(x_119 + 1),z175,l161))
  else
   (Arr11_Int.get x_120 x_119).bind fun _x179 =>
   (Arr11_Int.set x_120 x_119 ((mget number_121 r152).getD 0)).bind fun z181 =>
   some (.inl (states_118,(x_119 + 1),z181,number_121))
 else
  some (.inr (x_120,number_121,states_118))
def qbD (N:Nat) (x0:List (Int)) (x1:Table) (x2:List (Int)) (states_58:List (Int)) (i_59:Int) (x_60:Table) (number_61:List (Int × Int)):Option (((List (Int)) × Int × Table × (List (Int × Int))) ⊕ Table) :=
 bif (decide (i_59 < (states_58.length:Int))) then
  (iter (fun s=>qbm N x0 x1 x2 i_59 s.1 s.2.1 s.2.2.1 s.2.2.2) N (states_58,0,(Arr11_Int.mk 0 0 0 0 0 0 0 0 0 0 0),number_61)).bind fun o99 =>
  (app x_60.next ([o99.1]:List (Arr11_Int))).bind fun l205 =>
  (show Option Table from
   (idx o99.2.2 i_59).bind fun x217 =>
   (qdd N x217 x1 x2).bind fun r228 =>
   (app x_60.accept ([r228]:List (Bool))).bind fun l233 =>
   some (Table.mk l205 l233)).bind fun o210 =>
  some (.inl (o99.2.2,(i_59 + 1),o210,o99.2.1))
 else
  some (.inr x_60)
def qcl (N:Nat) (start_0:Int) (x0:List (Int)) (x1:Table) (x2:List (Int)):Option Table :=
 (mset ([]:List (Int × Int)) start_0 0).bind fun l15 =>
 (iter (fun s=>qbD N x0 x1 x2 s.1 s.2.1 s.2.2.1 s.2.2.2) N (([start_0]:List (Int)),0,(Table.mk ([]) ([])),l15)).bind fun o44 =>
 some o44
def qb2 (_N:Nat) (t_0:Table) (x_23:Int) (x_24:List (Int)):Option ((Int × (List (Int))) ⊕ (((List (Int))))) :=
 bif (decide (x_23 < (t_0.accept.length:Int))) then
  (idx t_0.accept x_23).bind fun x30 =>
  bif x30 then
   (idx x_24 x_23).bind fun _x40 =>
   (setI x_24 x_23 1).bind fun l46 =>
   some (.inl ((x_23 + 1),l46))
  else
   some (.inl ((x_23 + 1),x_24))
 else
  some (.inr x_24)
def qbH (_N:Nat) (x_64:List (Int)) (x104:Arr11_Int) (x_165:Int) (x_166:Key):Option ((Int × Key) ⊕ Key) :=
 bif (decide (x_165 < 11)) then
  (idx [(x104.e0:Int),(x104.e1:Int),(x104.e2:Int),(x104.e3:Int),(x104.e4:Int),(x104.e5:Int),(x104.e6:Int),(x104.e7:Int),(x104.e8:Int),(x104.e9:Int),(x104.e10:Int)] x_165).bind fun z181 =>
  (idx x_64 z181).bind fun x183 =>
  (Arr11_Int.get x_166.next x_165).bind fun _x194 =>
  (Arr11_Int.set x_166.next x_165 x183).bind fun z196 =>
  some (.inl ((x_165 + 1),(Key.mk x_166.class_ z196)))
 else
  some (.inr x_166)
def qco (N:Nat) (t_0:Table) (x_64:List (Int)) (x_93:Int) (known_94:List (Key × Int)) (finer_95:List (Int)):Option ((Int × (List (Key × Int)) × (List (Int))) ⊕ (((List (Key × Int)) × (List (Int))))) :=
 bif (decide (x_93 < (t_0.next.length:Int))) then
  (idx t_0.next x_93).bind fun x104 =>
  (idx x_64 x_93).bind fun x125 =>
  (iter (fun s=>qbH N x_64 x104 s.1 s.2) N (0,(Key.mk x125 (Arr11_Int.mk 0 0 0 0 0 0 0 0 0 0 0)))).bind fun o151 =>
  (show Option ((List (Key × Int)) × Int) from
   bif (!((mget known_94 o151).isSome)) then
    (mset known_94 o151 (known_94.length:Int)).bind fun l223 =>
    some (l223,(known_94.length:Int))
   else
    some (known_94,((mget known_94 o151).getD 0))).bind fun o217 =>
  (idx finer_95 x_93).bind fun _x231 =>
  (setI finer_95 x_93 o217.2).bind fun l237 =>
  some (.inl ((x_93 + 1),o217.1,l237))
 else
  some (.inr (known_94,finer_95))
def qbJ (N:Nat) (t_0:Table) (count_63:Int) (x_64:List (Int)):Option ((Int × (List (Int))) ⊕ (((List (Int)) × Int))) :=
 (mk (x_64.length:Int) (0:Int)).bind fun l72 =>
 (iter (fun s=>qco N t_0 x_64 s.1 s.2.1 s.2.2) N (0,([]:List (Key × Int)),l72)).bind fun o85 =>
 bif ((o85.1.length:Int) == count_63) then
  some (.inr (o85.2,count_63))
 else
  some (.inl ((o85.1.length:Int),o85.2))
def qb1 (_N:Nat) (o58:((List (Int)) × Int)) (i_286:Int) (x_287:List (Int)):Option ((Int × (List (Int))) ⊕ (((List (Int))))) :=
 bif (decide (i_286 ≥ 0)) then
  (show Option ((List (Int))) from
   (idx o58.1 i_286).bind fun x297 =>
   (idx x_287 x297).bind fun _x308 =>
   (setI x_287 x297 i_286).bind fun l314 =>
   some l314).bind fun o293 =>
  some (.inl ((IntKind.wrap .i64 (i_286 - 1)),o293))
 else
  some (.inr x_287)
def qdy (N:Nat) (t_0:Table):Option Table :=
 (mk (t_0.next.length:Int) (0:Int)).bind fun l7 =>
 (iter (fun s=>qb2 N t_0 s.1 s.2) N (0,l7)).bind fun o18 =>
 (iter (fun s=>qbJ N t_0 s.1 s.2) N (0,o18)).bind fun o58 =>
 (mk o58.2 (0:Int)).bind fun l270 =>
 (iter (fun s=>qb1 N o58 s.1 s.2) N ((IntKind.wrap .i64 ((o58.1.length:Int) - 1)),l270)).bind fun o281 =>
 (idx o58.1 0).bind fun x339 =>
 (qcl N x339 o58.1 t_0 o281).bind fun r350 =>
 some r350
def qcu (_N:Nat) (t_0:Table) (x_27:Int) (x_28:DFA):Option ((Int × DFA) ⊕ DFA) :=
 bif (decide (x_27 < (t_0.next.length:Int))) then
  (idx t_0.next x_27).bind fun x38 =>
  (show Option DFA from
   (app x_28.Next ([([x38.e0,x38.e1,x38.e2,x38.e3,x38.e4,x38.e5,x38.e6,x38.e7,x38.e8,x38.e9,x38.e10]:List (Int))]:List (List (Int)))).bind fun l71 =>
   some (DFA.mk x_28.Start l71 x_28.Accept)).bind fun o61 =>
  some (.inl ((x_27 + 1),o61))
 else
  some (.inr x_28)
def qeD (N:Nat) (t_0:Table):Option DFA :=
 (iter (fun s=>qcu N t_0 s.1 s.2) N (0,(DFA.mk 0 ([]) t_0.accept))).bind fun o18 =>
 some o18
end Go.Proofs.YtidfofhmnlhfjaaGreatDoor
namespace Go.Proofs.YtidfofhmnlhfjaaGreatDoor
open Go.X
def qa8 (N:Nat) (l_1:List (Relation)) (symbol_2:Int) (x_52:Int) (x_53:Reading):Option ((Int × Reading) ⊕ Reading) :=
 bif (decide (x_52 < (l_1.length:Int))) then
  (idx l_1 x_52).bind fun x70 =>
  (show Option Reading from
   (Arr6_Tracker.get x_53.trackers x_52).bind fun x99 =>
   (qa0 N x99 x70 (x_53.phase == 3) symbol_2).bind fun r101 =>
   (Arr6_Tracker.get x_53.trackers x_52).bind fun _x108 =>
   (Arr6_Tracker.set x_53.trackers x_52 r101).bind fun z110 =>
   some (Reading.mk x_53.phase z110)).bind fun o84 =>
  some (.inl ((x_52 + 1),o84))
 else
  some (.inr x_53)
def qdP (N:Nat) (l_1:List (Relation)) (symbol_2:Int) (x_222:Int) (x_223:Reading):Option ((Int × Reading) ⊕ Reading) :=
 bif (decide (x_222 < (l_1.length:Int))) then
  (idx l_1 x_222).bind fun x240 =>
  (show Option Reading from
   (Arr6_Tracker.get x_223.trackers x_222).bind fun x269 =>
   (qa0 N x269 x240 (x_223.phase == 3) symbol_2).bind fun r271 =>
   (Arr6_Tracker.get x_223.trackers x_222).bind fun _x278 =>
   (Arr6_Tracker.set x_223.trackers x_222 r271).bind fun z280 =>
   some (Reading.mk x_223.phase z280)).bind fun o254 =>
  some (.inl ((x_222 + 1),o254))
 else
  some (.inr x_223)
def qdM (N:Nat) (l_1:List (Relation)) (symbol_2:Int) (x_367:Int) (x_368:Reading):Option ((Int × Reading) ⊕ Reading) :=
 bif (decide (x_367 < (l_1.length:Int))) then
  (idx l_1 x_367).bind fun x385 =>
  (show Option Reading from
   (Arr6_Tracker.get x_368.trackers x_367).bind fun x414 =>
   (qa0 N x414 x385 (x_368.phase == 3) symbol_2).bind fun r416 =>
   (Arr6_Tracker.get x_368.trackers x_367).bind fun _x423 =>
   (Arr6_Tracker.set x_368.trackers x_367 r416).bind fun z425 =>
   some (Reading.mk x_368.phase z425)).bind fun o399 =>
  some (.inl ((x_367 + 1),o399))
 else
  some (.inr x_368)
def qdN (N:Nat) (l_1:List (Relation)) (symbol_2:Int) (x_537:Int) (x_538:Reading):Option ((Int × Reading) ⊕ Reading) :=
 bif (decide (x_537 < (l_1.length:Int))) then
  (idx l_1 x_537).bind fun x555 =>
  (show Option Reading from
   (Arr6_Tracker.get x_538.trackers x_537).bind fun x584 =>
   (qa0 N x584 x555 (x_538.phase == 3) symbol_2).bind fun r586 =>
   (Arr6_Tracker.get x_538.trackers x_537).bind fun _x593 =>
   (Arr6_Tracker.set x_538.trackers x_537 r586).bind fun z595 =>
   some (Reading.mk x_538.phase z595)).bind fun o569 =>
  some (.inl ((x_537 + 1),o569))
 else
  some (.inr x_538)
def qeJ (N:Nat) (s_0:Reading) (l_1:List (Relation)) (symbol_2:Int):Option Reading :=
 bif (symbol_2 == 10) then
  bif (s_0.phase == 1) then
   some (Reading.mk 2 s_0.trackers)
  else
   bif (symbol_2 == 10) then
    some (Reading.mk 4 (Arr6_Tracker.mk (Tracker.mk 0 0) (Tracker.mk 0 0) (Tracker.mk 0 0) (Tracker.mk 0 0) (Tracker.mk 0 0) (Tracker.mk 0 0)))
   else
    bif (s_0.phase == 4) then
     some (Reading.mk 4 (Arr6_Tracker.mk (Tracker.mk 0 0) (Tracker.mk 0 0) (Tracker.mk 0 0) (Tracker.mk 0 0) (Tracker.mk 0 0) (Tracker.mk 0 0)))
    else
     bif (s_0.phase == 0) then
      (iter (fun s=>qa8 N l_1 symbol_2 s.1 s.2) N (0,(Reading.mk 1 s_0.trackers))).bind fun o36 =>
      some o36
     else
      (show Option Reading from
       bif (s_0.phase == 1) then
        some (Reading.mk 1 s_0.trackers)
       else
        some (Reading.mk 3 s_0.trackers)).bind fun o163 =>
      (iter (fun s=>qdP N l_1 symbol_2 s.1 s.2) N (0,o163)).bind fun o206 =>
      some o206
 else
  bif (symbol_2 == 10) then
   some (Reading.mk 4 (Arr6_Tracker.mk (Tracker.mk 0 0) (Tracker.mk 0 0) (Tracker.mk 0 0) (Tracker.mk 0 0) (Tracker.mk 0 0) (Tracker.mk 0 0)))
  else
   bif (s_0.phase == 4) then
    some (Reading.mk 4 (Arr6_Tracker.mk (Tracker.mk 0 0) (Tracker.mk 0 0) (Tracker.mk 0 0) (Tracker.mk 0 0) (Tracker.mk 0 0) (Tracker.mk 0 0)))
   else
    bif (s_0.phase == 0) then
     (iter (fun s=>qdM N l_1 symbol_2 s.1 s.2) N (0,(Reading.mk 1 s_0.trackers))).bind fun o351 =>
     some o351
    else
     (show Option Reading from
      bif (s_0.phase == 1) then
       some (Reading.mk 1 s_0.trackers)
      else
       some (Reading.mk 3 s_0.trackers)).bind fun o478 =>
     (iter (fun s=>qdN N l_1 symbol_2 s.1 s.2) N (0,o478)).bind fun o521 =>
     some o521
def qbW (N:Nat) (s_0:Reading) (symbol_1:Int) (x0:List (Relation)):Option Reading :=
 (qeJ N s_0 x0 symbol_1).bind fun r18 =>
 some r18
def qdn (N:Nat) (i_0:Int) (x0:Reading) (x1:List (Relation)):Option Bool :=
 (Arr6_Tracker.get x0.trackers i_0).bind fun x16 =>
 (idx x1 i_0).bind fun x18 =>
 (qbZ N x16 x18).bind fun r31 =>
 some r31
def qcq (N:Nat) (x0:Reading) (x1:List (Relation)) (x27:List (Relation)) (at_43:Int) (all_44:Bool) (x_45:Int):Option ((Int × Bool × Int) ⊕ ((Int × Bool))) :=
 bif (decide (x_45 < (x27.length:Int))) then
  bif all_44 then
   (qdn N at_43 x0 x1).bind fun r50 =>
   some (.inl ((IntKind.wrap .i64 (at_43 + 1)),r50,(x_45 + 1)))
  else
   some (.inl ((IntKind.wrap .i64 (at_43 + 1)),false,(x_45 + 1)))
 else
  some (.inr (at_43,all_44))
def qcs (N:Nat) (c_0:List (List (Relation))) (x0:Reading) (x1:List (Relation)) (at_21:Int) (found_22:Bool) (x_23:Int):Option ((Int × Bool × Int) ⊕ Bool) :=
 bif (decide (x_23 < (c_0.length:Int))) then
  (idx c_0 x_23).bind fun x27 =>
  (iter (fun s=>qcq N x0 x1 x27 s.1 s.2.1 s.2.2) N (at_21,true,0)).bind fun o40 =>
  bif found_22 then
   some (.inl (o40.1,true,(x_23 + 1)))
  else
   some (.inl (o40.1,o40.2,(x_23 + 1)))
 else
  some (.inr found_22)
def qdH (N:Nat) (c_0:List (List (Relation))) (x0:Reading) (x1:List (Relation)):Option Bool :=
 (iter (fun s=>qcs N c_0 x0 x1 s.1 s.2.1 s.2.2) N (0,false,0)).bind fun o18 =>
 some o18
def qcd (N:Nat) (s_0:Reading) (x0:List (List (Relation))) (x1:List (Relation)):Option Bool :=
 bif (s_0.phase == 1) then
  (qdH N x0 s_0 x1).bind fun r20 =>
  some r20
 else
  bif (s_0.phase == 3) then
   (qdH N x0 s_0 x1).bind fun r23 =>
   some r23
  else
   some false
end Go.Proofs.YtidfofhmnlhfjaaGreatDoor
namespace Go.Proofs.YtidfofhmnlhfjaaGreatDoor
open Go.X
def qaV (N:Nat) (x0:List (Relation)) (i_68:Int) (states_129:List (Reading)) (x_130:Int) (x_131:Arr11_Int) (number_132:List (Reading × Int)):Option (((List (Reading)) × Int × Arr11_Int × (List (Reading × Int))) ⊕ ((Arr11_Int × (List (Reading × Int)) × (List (Reading))))) :=
 bif (decide (x_130 < 11)) then
  (idx states_129 i_68).bind fun x153 =>
  (qbW N x153 x_130 x0).bind fun r176 =>
  bif (!((mget number_132 r176).isSome)) then
   (mset number_132 r176 (states_129.length:Int)).bind fun l201 =>
   (app states_129 ([r176]:List (Reading))).bind fun l208 =>
   (Arr11_Int.get x_131 x_130).bind fun _x213 =>
   (Arr11_Int.set x_131 x_130 (states_129.length:Int)).bind fun z215 =>
   some (.inl (l208,(x_130 + 1),z215,l201))
  else
   (Arr11_Int.get x_131 x_130).bind fun _x219 =>
   (Arr11_Int.set x_131 x_130 ((mget number_132 r176).getD 0)).bind fun z221 =>
   some (.inl (states_129,(x_130 + 1),z221,number_132))
 else
  some (.inr (x_131,number_132,states_129))
def qa9 (N:Nat) (x0:List (Relation)) (x1:List (List (Relation))) (states_67:List (Reading)) (i_68:Int) (x_69:Table) (number_70:List (Reading × Int)):Option (((List (Reading)) × Int × Table × (List (Reading × Int))) ⊕ Table) :=
 bif (decide (i_68 < (states_67.length:Int))) then
  (iter (fun s=>qaV N x0 i_68 s.1 s.2.1 s.2.2.1 s.2.2.2) N (states_67,0,(Arr11_Int.mk 0 0 0 0 0 0 0 0 0 0 0),number_70)).bind fun o109 =>
  (app x_69.next ([o109.1]:List (Arr11_Int))).bind fun l246 =>
  (show Option Table from
   (idx o109.2.2 i_68).bind fun x258 =>
   (qcd N x258 x1 x0).bind fun r281 =>
   (app x_69.accept ([r281]:List (Bool))).bind fun l286 =>
   some (Table.mk l246 l286)).bind fun o251 =>
  some (.inl (o109.2.2,(i_68 + 1),o251,o109.2.1))
 else
  some (.inr x_69)
def qbu (N:Nat) (start_0:Reading) (x0:List (Relation)) (x1:List (List (Relation))):Option Table :=
 (mset ([]:List (Reading × Int)) start_0 0).bind fun l23 =>
 (iter (fun s=>qa9 N x0 x1 s.1 s.2.1 s.2.2.1 s.2.2.2) N (([start_0]:List (Reading)),0,(Table.mk ([]) ([])),l23)).bind fun o52 =>
 some o52
def qeB (N:Nat) (c_0:List (List (Relation))):Option (DFA × Int) :=
 (qeQ N c_0).bind fun r3 =>
 bif (r3.2 != 0) then
  some ((DFA.mk 0 ([]) ([])),r3.2)
 else
  bif (decide (r3.1 > 4000)) then
   some ((DFA.mk 0 ([]) ([])),6)
  else
   (qdL N c_0).bind fun r9 =>
   (qbu N (Reading.mk 0 (Arr6_Tracker.mk (Tracker.mk 0 0) (Tracker.mk 0 0) (Tracker.mk 0 0) (Tracker.mk 0 0) (Tracker.mk 0 0) (Tracker.mk 0 0))) r9 c_0).bind fun r15 =>
   (qdy N r15).bind fun r24 =>
   bif (decide ((r24.next.length:Int) > 2000)) then
    some ((DFA.mk 0 ([]) ([])),6)
   else
    (qeD N r24).bind fun r35 =>
    some (r35,0)
end Go.Proofs.YtidfofhmnlhfjaaGreatDoor
namespace Go.Proofs.YtidfofhmnlhfjaaGreatDoor
open Go.X
structure Arr7_Bool where
 e0:Bool
 e1:Bool
 e2:Bool
 e3:Bool
 e4:Bool
 e5:Bool
 e6:Bool
 deriving DecidableEq
def Arr7_Bool.list (a:Arr7_Bool):List (Bool):=[a.e0,a.e1,a.e2,a.e3,a.e4,a.e5,a.e6]
def Arr7_Bool.of:List (Bool) → Option Arr7_Bool
 | [x0,x1,x2,x3,x4,x5,x6]=>some ⟨x0,x1,x2,x3,x4,x5,x6⟩
 | _=>none
def Arr7_Bool.get (a:Arr7_Bool) (i:Int):Option (Bool):=idx a.list i
def Arr7_Bool.set (a:Arr7_Bool) (i:Int) (x:Bool):Option Arr7_Bool:=(setI a.list i x).bind Arr7_Bool.of
def qfR (_N:Nat) (c_0:List (List (Relation))) (out_13:List (Relation)) (i_14:Int):Option (((List (Relation)) × Int) ⊕ (((List (Relation))))) :=
 bif (decide (i_14 < (c_0.length:Int))) then
  (idx c_0 i_14).bind fun x20 =>
  (app out_13 x20).bind fun l31 =>
  some (.inl (l31,(i_14 + 1)))
 else
  some (.inr out_13)
def qfO (N:Nat) (c_0:List (List (Relation))):Option (List (Relation)) :=
 (iter (fun s=>qfR N c_0 s.1 s.2) N ([],0)).bind fun o8 =>
 some o8
def qfJ (_N:Nat) (r_0:Relation) (n_11:Int) (i_12:Int):Option ((Int × Int) ⊕ Int) :=
 bif (decide (i_12 < (r_0.Spans.length:Int))) then
  (idx r_0.Spans i_12).bind fun x16 =>
  some (.inl ((max n_11 x16.To),(i_12 + 1)))
 else
  some (.inr n_11)
def qer (N:Nat) (r_0:Relation):Option Int :=
 (iter (fun s=>qfJ N r_0 s.1 s.2) N (0,0)).bind fun o8 =>
 some o8
def qb9 (N:Nat) (r4:(List (Relation))) (n_14:Int) (i_15:Int):Option ((Int × Int) ⊕ Int) :=
 bif (decide (i_15 < (r4.length:Int))) then
  (idx r4 i_15).bind fun x19 =>
  (show Option Int from
   bif (x19.Mod == 0) then
    (idx r4 i_15).bind fun x35 =>
    (qer N x35).bind fun r48 =>
    some (IntKind.wrap .i64 (r48 + 2))
   else
    some x19.Mod).bind fun o32 =>
  (idx r4 i_15).bind fun x52 =>
  (show Option Int from
   bif (x52.Operand == 6) then
    some (IntKind.wrap .i64 (o32 * o32))
   else
    some o32).bind fun o65 =>
  some (.inl ((min 1000000 (IntKind.wrap .i64 (n_14 * o65))),(i_15 + 1)))
 else
  some (.inr n_14)
def qdY (N:Nat) (c_0:List (List (Relation))):Option (Int × Int) :=
 (qds N c_0).bind fun r1 =>
 bif (!r1) then
  some (0,1)
 else
  (qfO N c_0).bind fun r4 =>
  (iter (fun s=>qb9 N r4 s.1 s.2) N (1,0)).bind fun o11 =>
  some (o11,0)
end Go.Proofs.YtidfofhmnlhfjaaGreatDoor
namespace Go.Proofs.YtidfofhmnlhfjaaGreatDoor
open Go.X
end Go.Proofs.YtidfofhmnlhfjaaGreatDoor
namespace Go.Proofs.YtidfofhmnlhfjaaGreatDoor
open Go.X
end Go.Proofs.YtidfofhmnlhfjaaGreatDoor
namespace Go.Proofs.YtidfofhmnlhfjaaGreatDoor
open Go.X
end Go.Proofs.YtidfofhmnlhfjaaGreatDoor
namespace Go.Proofs.YtidfofhmnlhfjaaGreatDoor
open Go.X
def qcG (_N:Nat) (d_0:DFA) (x18:List (Int)) (x_33:Int):Option (Int ⊕ ((Unit ⊕ Bool))) :=
 bif (decide (x_33 < (x18.length:Int))) then
  (idx x18 x_33).bind fun x36 =>
  bif (decide (x36 < 0)) then
   some (.inr (.inr false))
  else
   bif (decide (x36 ≥ (d_0.Next.length:Int))) then
    some (.inr (.inr false))
   else
    some (.inl (x_33 + 1))
 else
  some (.inr (.inl ()))
def qcF (N:Nat) (d_0:DFA) (x_15:Int):Option (Int ⊕ ((Unit ⊕ Bool))) :=
 bif (decide (x_15 < (d_0.Next.length:Int))) then
  (idx d_0.Next x_15).bind fun x18 =>
  bif ((x18.length:Int) != 11) then
   some (.inr (.inr false))
  else
   (iter (fun s=>qcG N d_0 x18 s) N 0).bind fun o31 =>
   Sum.elim (fun _o31 =>
    some (.inl (x_15 + 1)))
   (fun o31 =>
    some (.inr (.inr o31))) o31
 else
  some (.inr (.inl ()))
def qeY (N:Nat) (d_0:DFA):Option Bool :=
 bif (decide ((d_0.Next.length:Int) < 1)) then
  some false
 else
  bif (decide ((d_0.Next.length:Int) > 2000)) then
   some false
  else
   bif ((d_0.Accept.length:Int) != (d_0.Next.length:Int)) then
    some false
   else
    bif (decide (d_0.Start < 0)) then
     some false
    else
     bif (decide (d_0.Start ≥ (d_0.Next.length:Int))) then
      some false
     else
      (iter (fun s=>qcF N d_0 s) N 0).bind fun o13 =>
      Sum.elim (fun _o13 =>
       some true)
      (fun o13 =>
       some o13) o13
def qev (_N:Nat) (c_0:Int):Option (Int × Bool) :=
 bif (c_0 == 46) then
  some (10,true)
 else
  bif (decide (c_0 ≥ 48)) then
   some ((IntKind.wrap .i64 (c_0 - 48)),(decide (c_0 ≤ 57)))
  else
   some ((IntKind.wrap .i64 (c_0 - 48)),false)
def qc3 (N:Nat) (d_0:DFA) (word_1:List UInt8) (state_15:Int) (x_16:Int):Option ((Int × Int) ⊕ ((Int ⊕ Bool))) :=
 bif (decide (x_16 < (word_1.length:Int))) then
  (idx word_1 x_16).bind fun c20 =>
  (qev N (c20.toNat:Int)).bind fun r22 =>
  bif (!r22.2) then
   some (.inr (.inr false))
  else
   (idx d_0.Next state_15).bind fun x26 =>
   (idx x26 r22.1).bind fun x37 =>
   some (.inl (x37,(x_16 + 1)))
 else
  some (.inr (.inl state_15))
def qdv (N:Nat) (d_0:DFA) (word_1:List UInt8):Option Bool :=
 (qeY N d_0).bind fun r7 =>
 bif (!r7) then
  some false
 else
  (iter (fun s=>qc3 N d_0 word_1 s.1 s.2) N (d_0.Start,0)).bind fun o12 =>
  Sum.elim (fun o12 =>
   (idx d_0.Accept o12).bind fun x48 =>
   some x48)
  (fun o12 =>
   some o12) o12
def qbs (_N:Nat) (zeros_2:Int) (word_57:List UInt8) (i_58:Int):Option (((List UInt8) × Int) ⊕ (((List UInt8)))) :=
 (rm zeros_2 4).bind fun q61 =>
 bif (decide (i_58 < q61)) then
  (cat ([48]) word_57).bind fun s64 =>
  some (.inl (s64,(i_58 + 1)))
 else
  some (.inr word_57)
def qbE (N:Nat) (c_0:List (List (Relation))) (number_1:List UInt8) (zeros_2:Int):Option Bool :=
 (qbR N ).bind fun r1 =>
 bif (!r1) then
  (qbR N ).bind fun r4 =>
  some r4
 else
  (qe1 N ([c_0]:List (List (List (Relation))))).bind fun r14 =>
  bif (!r14) then
   (qbR N ).bind fun r17 =>
   some r17
  else
   (qds N c_0).bind fun r19 =>
   bif (!r19) then
    (qbR N ).bind fun r22 =>
    some r22
   else
    (qd9 N number_1).bind fun r24 =>
    bif (!r24) then
     (qbR N ).bind fun r27 =>
     some r27
    else
     (idx number_1 0).bind fun c29 =>
     bif ((c29.toNat:Int) == 45) then
      (qbR N ).bind fun r32 =>
      some r32
     else
      (qdY N c_0).bind fun r34 =>
      bif (decide (r34.1 > 1000)) then
       some true
      else
       (qeB N c_0).bind fun r39 =>
       bif (r39.2 != 0) then
        some (r39.2 == 6)
       else
        (iter (fun s=>qbs N zeros_2 s.1 s.2) N (number_1,0)).bind fun o54 =>
        (qe0 N c_0 number_1).bind fun r67 =>
        bif (r67.2 == 0) then
         (qdv N r39.1 number_1).bind fun r71 =>
         bif (r71 == r67.1) then
          (qdv N r39.1 o54).bind fun r74 =>
          some (r74 == r67.1)
         else
          some false
        else
         some false
end Go.Proofs.YtidfofhmnlhfjaaGreatDoor
namespace Go.Proofs
open Go.Shelf
def Tryz.lays162_ren:Go.Shelf.Ren:=⟨fun | 162=>138 | 232=>157 | 227=>158 | 234=>159 | 236=>160 | 228=>173 | 271=>174 | 151=>175 | 120=>188 | 197=>187 | 152=>189 | 260=>202 | 137=>203 | 119=>204 | 224=>185 | 225=>184 | 217=>183 | 266=>200 | n=>n,fun | 9=>9 | 4=>4 | 3=>3 | 5=>5 | 117=>206 | 116=>205 | 0=>0 | 124=>209 | 21=>21 | 105=>219 | 46=>230 | 119=>252 | 139=>255 | 138=>254 | n=>n,fun | 3=>4 | 4=>5 | n=>n⟩
theorem Tryz.lays162:Go.Proofs.Lays.n162 Tryz.prog Tryz.lays162_ren:={
 mixed:=by kernel_rfl
 f119:=Tryz.func204.trans (congrArg some (by kernel_rfl))
 f120:=Tryz.func188.trans (congrArg some (by kernel_rfl))
 f137:=Tryz.func203.trans (congrArg some (by kernel_rfl))
 f151:=Tryz.func175.trans (congrArg some (by kernel_rfl))
 f152:=Tryz.func189.trans (congrArg some (by kernel_rfl))
 f162:=Tryz.func138.trans (congrArg some (by kernel_rfl))
 f197:=Tryz.func187.trans (congrArg some (by kernel_rfl))
 f217:=Tryz.func183.trans (congrArg some (by kernel_rfl))
 f224:=Tryz.func185.trans (congrArg some (by kernel_rfl))
 f225:=Tryz.func184.trans (congrArg some (by kernel_rfl))
 f227:=Tryz.func158.trans (congrArg some (by kernel_rfl))
 f228:=Tryz.func173.trans (congrArg some (by kernel_rfl))
 f232:=Tryz.func157.trans (congrArg some (by kernel_rfl))
 f234:=Tryz.func159.trans (congrArg some (by kernel_rfl))
 f236:=Tryz.func160.trans (congrArg some (by kernel_rfl))
 f260:=Tryz.func202.trans (congrArg some (by kernel_rfl))
 f266:=Tryz.func200.trans (congrArg some (by kernel_rfl))
 f271:=Tryz.func174.trans (congrArg some (by kernel_rfl))
 t0:=Tryz.underlying0
 a0:=Tryz.isAgg0
 z0:=Tryz.sizeOf0
 v0:=Tryz.zeroValue0
 t3:=Tryz.underlying3
 a3:=Tryz.isAgg3
 z3:=Tryz.sizeOf3
 v3:=Tryz.zeroValue3
 t4:=Tryz.underlying4
 a4:=Tryz.isAgg4
 z4:=Tryz.sizeOf4
 v4:=Tryz.zeroValue4
 t5:=Tryz.underlying5
 a5:=Tryz.isAgg5
 z5:=Tryz.sizeOf5
 v5:=Tryz.zeroValue5
 t9:=Tryz.underlying9
 a9:=Tryz.isAgg9
 z9:=Tryz.sizeOf9
 v9:=Tryz.zeroValue9
 t21:=Tryz.underlying21
 a21:=Tryz.isAgg21
 z21:=Tryz.sizeOf21
 v21:=Tryz.zeroValue21
 t46:=Tryz.underlying230
 a46:=Tryz.isAgg230
 z46:=Tryz.sizeOf230
 v46:=Tryz.zeroValue230
 t105:=Tryz.underlying219
 a105:=Tryz.isAgg219
 z105:=Tryz.sizeOf219
 v105:=Tryz.zeroValue219
 t116:=Tryz.underlying205
 a116:=Tryz.isAgg205
 z116:=Tryz.sizeOf205
 t117:=Tryz.underlying206
 a117:=Tryz.isAgg206
 z117:=Tryz.sizeOf206
 v117:=Tryz.zeroValue206
 t119:=Tryz.underlying252
 a119:=Tryz.isAgg252
 z119:=Tryz.sizeOf252
 t124:=Tryz.underlying209
 a124:=Tryz.isAgg209
 z124:=Tryz.sizeOf209
 v124:=Tryz.zeroValue209
 t138:=Tryz.underlying254
 a138:=Tryz.isAgg254
 z138:=Tryz.sizeOf254
 v138:=Tryz.zeroValue254
 t139:=Tryz.underlying255
 a139:=Tryz.isAgg255
 z139:=Tryz.sizeOf255
 v139:=Tryz.zeroValue255
 g3:=by kernel_rfl
 g4:=by kernel_rfl }
def Tryz.lays160_ren:Go.Shelf.Ren:=⟨fun | 160=>155 | 232=>157 | 231=>170 | 227=>158 | 234=>159 | 233=>171 | 236=>160 | 235=>172 | 228=>173 | 271=>174 | 151=>175 | 197=>187 | 120=>188 | 152=>189 | 260=>202 | 137=>203 | 119=>204 | 224=>185 | 225=>184 | 217=>183 | 266=>200 | n=>n,fun | 9=>9 | 4=>4 | 3=>3 | 5=>5 | 117=>206 | 116=>205 | 0=>0 | 124=>209 | 21=>21 | 105=>219 | 46=>230 | 119=>252 | 139=>255 | 138=>254 | n=>n,fun | 3=>4 | 4=>5 | n=>n⟩
theorem Tryz.lays160:Go.Proofs.Lays.n160 Tryz.prog Tryz.lays160_ren:={
 mixed:=by kernel_rfl
 f119:=Tryz.func204.trans (congrArg some (by kernel_rfl))
 f120:=Tryz.func188.trans (congrArg some (by kernel_rfl))
 f137:=Tryz.func203.trans (congrArg some (by kernel_rfl))
 f151:=Tryz.func175.trans (congrArg some (by kernel_rfl))
 f152:=Tryz.func189.trans (congrArg some (by kernel_rfl))
 f160:=Tryz.func155.trans (congrArg some (by kernel_rfl))
 f197:=Tryz.func187.trans (congrArg some (by kernel_rfl))
 f217:=Tryz.func183.trans (congrArg some (by kernel_rfl))
 f224:=Tryz.func185.trans (congrArg some (by kernel_rfl))
 f225:=Tryz.func184.trans (congrArg some (by kernel_rfl))
 f227:=Tryz.func158.trans (congrArg some (by kernel_rfl))
 f228:=Tryz.func173.trans (congrArg some (by kernel_rfl))
 f231:=Tryz.func170.trans (congrArg some (by kernel_rfl))
 f232:=Tryz.func157.trans (congrArg some (by kernel_rfl))
 f233:=Tryz.func171.trans (congrArg some (by kernel_rfl))
 f234:=Tryz.func159.trans (congrArg some (by kernel_rfl))
 f235:=Tryz.func172.trans (congrArg some (by kernel_rfl))
 f236:=Tryz.func160.trans (congrArg some (by kernel_rfl))
 f260:=Tryz.func202.trans (congrArg some (by kernel_rfl))
 f266:=Tryz.func200.trans (congrArg some (by kernel_rfl))
 f271:=Tryz.func174.trans (congrArg some (by kernel_rfl))
 t0:=Tryz.underlying0
 a0:=Tryz.isAgg0
 z0:=Tryz.sizeOf0
 v0:=Tryz.zeroValue0
 t3:=Tryz.underlying3
 a3:=Tryz.isAgg3
 z3:=Tryz.sizeOf3
 v3:=Tryz.zeroValue3
 t4:=Tryz.underlying4
 a4:=Tryz.isAgg4
 z4:=Tryz.sizeOf4
 v4:=Tryz.zeroValue4
 t5:=Tryz.underlying5
 a5:=Tryz.isAgg5
 z5:=Tryz.sizeOf5
 v5:=Tryz.zeroValue5
 t9:=Tryz.underlying9
 a9:=Tryz.isAgg9
 z9:=Tryz.sizeOf9
 v9:=Tryz.zeroValue9
 t21:=Tryz.underlying21
 a21:=Tryz.isAgg21
 z21:=Tryz.sizeOf21
 v21:=Tryz.zeroValue21
 t46:=Tryz.underlying230
 a46:=Tryz.isAgg230
 z46:=Tryz.sizeOf230
 v46:=Tryz.zeroValue230
 t105:=Tryz.underlying219
 a105:=Tryz.isAgg219
 z105:=Tryz.sizeOf219
 v105:=Tryz.zeroValue219
 t116:=Tryz.underlying205
 a116:=Tryz.isAgg205
 z116:=Tryz.sizeOf205
 t117:=Tryz.underlying206
 a117:=Tryz.isAgg206
 z117:=Tryz.sizeOf206
 v117:=Tryz.zeroValue206
 t119:=Tryz.underlying252
 a119:=Tryz.isAgg252
 z119:=Tryz.sizeOf252
 t124:=Tryz.underlying209
 a124:=Tryz.isAgg209
 z124:=Tryz.sizeOf209
 v124:=Tryz.zeroValue209
 t138:=Tryz.underlying254
 a138:=Tryz.isAgg254
 z138:=Tryz.sizeOf254
 v138:=Tryz.zeroValue254
 t139:=Tryz.underlying255
 a139:=Tryz.isAgg255
 z139:=Tryz.sizeOf255
 v139:=Tryz.zeroValue255
 g3:=by kernel_rfl
 g4:=by kernel_rfl }
def Tryz.lays103_ren:Go.Shelf.Ren:=⟨fun | 103=>134 | 210=>153 | 206=>168 | n=>n,fun | 9=>9 | 4=>4 | 24=>107 | 3=>3 | n=>n,fun | n=>n⟩
theorem Tryz.lays103:Go.Proofs.Lays.n103 Tryz.prog Tryz.lays103_ren:={
 mixed:=by kernel_rfl
 f103:=Tryz.func134.trans (congrArg some (by kernel_rfl))
 f206:=Tryz.func168.trans (congrArg some (by kernel_rfl))
 f210:=Tryz.func153.trans (congrArg some (by kernel_rfl))
 t3:=Tryz.underlying3
 a3:=Tryz.isAgg3
 z3:=Tryz.sizeOf3
 v3:=Tryz.zeroValue3
 t4:=Tryz.underlying4
 a4:=Tryz.isAgg4
 z4:=Tryz.sizeOf4
 v4:=Tryz.zeroValue4
 t9:=Tryz.underlying9
 a9:=Tryz.isAgg9
 z9:=Tryz.sizeOf9
 v9:=Tryz.zeroValue9
 t24:=Tryz.underlying107
 a24:=Tryz.isAgg107
 z24:=Tryz.sizeOf107
 v24:=Tryz.zeroValue107 }
def Tryz.lays172_ren:Go.Shelf.Ren:=⟨fun | 172=>161 | 244=>176 | 245=>177 | 247=>190 | 279=>191 | 280=>192 | 281=>193 | 282=>194 | 287=>205 | 316=>206 | 171=>122 | 205=>207 | 321=>210 | 322=>211 | 243=>149 | 246=>165 | 283=>178 | 284=>179 | 285=>180 | 286=>181 | 129=>196 | 317=>195 | 318=>197 | 319=>198 | 320=>199 | 337=>208 | 338=>209 | n=>n,fun | 9=>9 | 3=>3 | 75=>211 | 76=>212 | 4=>4 | 5=>5 | 167=>232 | 37=>160 | 0=>0 | 85=>233 | 2=>2 | 168=>235 | 53=>178 | 175=>246 | 46=>230 | 210=>249 | 127=>257 | 145=>260 | 143=>258 | 21=>21 | 171=>223 | 173=>226 | 212=>239 | 51=>240 | 20=>20 | 213=>241 | 232=>261 | 233=>262 | 80=>263 | n=>n,fun | 15=>2 | 16=>3 | 17=>1 | 18=>6 | 19=>7 | n=>n⟩
theorem Tryz.lays172:Go.Proofs.Lays.n172 Tryz.prog Tryz.lays172_ren:={
 mixed:=by kernel_rfl
 f129:=Tryz.func196.trans (congrArg some (by kernel_rfl))
 f171:=Tryz.func122.trans (congrArg some (by kernel_rfl))
 f172:=Tryz.func161.trans (congrArg some (by kernel_rfl))
 f205:=Tryz.func207.trans (congrArg some (by kernel_rfl))
 f243:=Tryz.func149.trans (congrArg some (by kernel_rfl))
 f244:=Tryz.func176.trans (congrArg some (by kernel_rfl))
 f245:=Tryz.func177.trans (congrArg some (by kernel_rfl))
 f246:=Tryz.func165.trans (congrArg some (by kernel_rfl))
 f247:=Tryz.func190.trans (congrArg some (by kernel_rfl))
 f279:=Tryz.func191.trans (congrArg some (by kernel_rfl))
 f280:=Tryz.func192.trans (congrArg some (by kernel_rfl))
 f281:=Tryz.func193.trans (congrArg some (by kernel_rfl))
 f282:=Tryz.func194.trans (congrArg some (by kernel_rfl))
 f283:=Tryz.func178.trans (congrArg some (by kernel_rfl))
 f284:=Tryz.func179.trans (congrArg some (by kernel_rfl))
 f285:=Tryz.func180.trans (congrArg some (by kernel_rfl))
 f286:=Tryz.func181.trans (congrArg some (by kernel_rfl))
 f287:=Tryz.func205.trans (congrArg some (by kernel_rfl))
 f316:=Tryz.func206.trans (congrArg some (by kernel_rfl))
 f317:=Tryz.func195.trans (congrArg some (by kernel_rfl))
 f318:=Tryz.func197.trans (congrArg some (by kernel_rfl))
 f319:=Tryz.func198.trans (congrArg some (by kernel_rfl))
 f320:=Tryz.func199.trans (congrArg some (by kernel_rfl))
 f321:=Tryz.func210.trans (congrArg some (by kernel_rfl))
 f322:=Tryz.func211.trans (congrArg some (by kernel_rfl))
 f337:=Tryz.func208.trans (congrArg some (by kernel_rfl))
 f338:=Tryz.func209.trans (congrArg some (by kernel_rfl))
 t0:=Tryz.underlying0
 a0:=Tryz.isAgg0
 z0:=Tryz.sizeOf0
 v0:=Tryz.zeroValue0
 t2:=Tryz.underlying2
 a2:=Tryz.isAgg2
 z2:=Tryz.sizeOf2
 v2:=Tryz.zeroValue2
 t3:=Tryz.underlying3
 a3:=Tryz.isAgg3
 z3:=Tryz.sizeOf3
 v3:=Tryz.zeroValue3
 t4:=Tryz.underlying4
 a4:=Tryz.isAgg4
 z4:=Tryz.sizeOf4
 v4:=Tryz.zeroValue4
 t5:=Tryz.underlying5
 a5:=Tryz.isAgg5
 z5:=Tryz.sizeOf5
 v5:=Tryz.zeroValue5
 t9:=Tryz.underlying9
 a9:=Tryz.isAgg9
 z9:=Tryz.sizeOf9
 v9:=Tryz.zeroValue9
 t20:=Tryz.underlying20
 a20:=Tryz.isAgg20
 z20:=Tryz.sizeOf20
 v20:=Tryz.zeroValue20
 t21:=Tryz.underlying21
 a21:=Tryz.isAgg21
 z21:=Tryz.sizeOf21
 v21:=Tryz.zeroValue21
 t37:=Tryz.underlying160
 a37:=Tryz.isAgg160
 z37:=Tryz.sizeOf160
 v37:=Tryz.zeroValue160
 t46:=Tryz.underlying230
 a46:=Tryz.isAgg230
 z46:=Tryz.sizeOf230
 v46:=Tryz.zeroValue230
 t51:=Tryz.underlying240
 a51:=Tryz.isAgg240
 z51:=Tryz.sizeOf240
 v51:=Tryz.zeroValue240
 t53:=Tryz.underlying178
 a53:=Tryz.isAgg178
 z53:=Tryz.sizeOf178
 v53:=Tryz.zeroValue178
 t75:=Tryz.underlying211
 a75:=Tryz.isAgg211
 z75:=Tryz.sizeOf211
 v75:=Tryz.zeroValue211
 t76:=Tryz.underlying212
 a76:=Tryz.isAgg212
 z76:=Tryz.sizeOf212
 v76:=Tryz.zeroValue212
 t85:=Tryz.underlying233
 a85:=Tryz.isAgg233
 z85:=Tryz.sizeOf233
 v85:=Tryz.zeroValue233
 t127:=Tryz.underlying257
 a127:=Tryz.isAgg257
 z127:=Tryz.sizeOf257
 v127:=Tryz.zeroValue257
 t143:=Tryz.underlying258
 a143:=Tryz.isAgg258
 z143:=Tryz.sizeOf258
 v143:=Tryz.zeroValue258
 t145:=Tryz.underlying260
 a145:=Tryz.isAgg260
 z145:=Tryz.sizeOf260
 v145:=Tryz.zeroValue260
 t167:=Tryz.underlying232
 a167:=Tryz.isAgg232
 z167:=Tryz.sizeOf232
 v167:=Tryz.zeroValue232
 t168:=Tryz.underlying235
 a168:=Tryz.isAgg235
 z168:=Tryz.sizeOf235
 v168:=Tryz.zeroValue235
 t171:=Tryz.underlying223
 a171:=Tryz.isAgg223
 z171:=Tryz.sizeOf223
 v171:=Tryz.zeroValue223
 t173:=Tryz.underlying226
 a173:=Tryz.isAgg226
 z173:=Tryz.sizeOf226
 v173:=Tryz.zeroValue226
 t175:=Tryz.underlying246
 a175:=Tryz.isAgg246
 z175:=Tryz.sizeOf246
 v175:=Tryz.zeroValue246
 t210:=Tryz.underlying249
 a210:=Tryz.isAgg249
 z210:=Tryz.sizeOf249
 v210:=Tryz.zeroValue249
 t212:=Tryz.underlying239
 a212:=Tryz.isAgg239
 z212:=Tryz.sizeOf239
 v212:=Tryz.zeroValue239
 t213:=Tryz.underlying241
 a213:=Tryz.isAgg241
 z213:=Tryz.sizeOf241
 t232:=Tryz.underlying261
 a232:=Tryz.isAgg261
 z232:=Tryz.sizeOf261
 v232:=Tryz.zeroValue261
 t233:=Tryz.underlying262
 a233:=Tryz.isAgg262
 z233:=Tryz.sizeOf262
 v233:=Tryz.zeroValue262
 g15:=by kernel_rfl
 g16:=by kernel_rfl
 g17:=by kernel_rfl
 g18:=by kernel_rfl
 g19:=by kernel_rfl }
def Tryz.laysM171_ren:Go.Shelf.Ren:=⟨fun | 171=>122 | 243=>149 | 246=>165 | 283=>178 | 284=>179 | 285=>180 | 286=>181 | 129=>196 | 317=>195 | 318=>197 | 319=>198 | 320=>199 | 337=>208 | 338=>209 | n=>n,fun | 3=>3 | 9=>9 | 2=>2 | 4=>4 | 171=>223 | 0=>0 | 53=>178 | 37=>160 | 5=>5 | 173=>226 | 212=>239 | 51=>240 | 20=>20 | 213=>241 | 46=>230 | 232=>261 | 233=>262 | n=>n,fun | 17=>1 | 18=>6 | 19=>7 | n=>n⟩
theorem Tryz.laysM171:Go.Proofs.LaysM.n171 Tryz.prog Tryz.laysM171_ren:={
 mixed:=by kernel_rfl
 f129:=Tryz.func196.trans (congrArg some (by kernel_rfl))
 f171:=Tryz.func122.trans (congrArg some (by kernel_rfl))
 f243:=Tryz.func149.trans (congrArg some (by kernel_rfl))
 f246:=Tryz.func165.trans (congrArg some (by kernel_rfl))
 f283:=Tryz.func178.trans (congrArg some (by kernel_rfl))
 f284:=Tryz.func179.trans (congrArg some (by kernel_rfl))
 f285:=Tryz.func180.trans (congrArg some (by kernel_rfl))
 f286:=Tryz.func181.trans (congrArg some (by kernel_rfl))
 f317:=Tryz.func195.trans (congrArg some (by kernel_rfl))
 f318:=Tryz.func197.trans (congrArg some (by kernel_rfl))
 f319:=Tryz.func198.trans (congrArg some (by kernel_rfl))
 f320:=Tryz.func199.trans (congrArg some (by kernel_rfl))
 f337:=Tryz.func208.trans (congrArg some (by kernel_rfl))
 f338:=Tryz.func209.trans (congrArg some (by kernel_rfl))
 t0:=Tryz.underlying0
 a0:=Tryz.isAgg0
 z0:=Tryz.sizeOf0
 v0:=Tryz.zeroValue0
 t2:=Tryz.underlying2
 a2:=Tryz.isAgg2
 z2:=Tryz.sizeOf2
 v2:=Tryz.zeroValue2
 t3:=Tryz.underlying3
 a3:=Tryz.isAgg3
 z3:=Tryz.sizeOf3
 v3:=Tryz.zeroValue3
 t4:=Tryz.underlying4
 a4:=Tryz.isAgg4
 z4:=Tryz.sizeOf4
 v4:=Tryz.zeroValue4
 t5:=Tryz.underlying5
 a5:=Tryz.isAgg5
 z5:=Tryz.sizeOf5
 v5:=Tryz.zeroValue5
 t9:=Tryz.underlying9
 a9:=Tryz.isAgg9
 z9:=Tryz.sizeOf9
 v9:=Tryz.zeroValue9
 t20:=Tryz.underlying20
 a20:=Tryz.isAgg20
 z20:=Tryz.sizeOf20
 v20:=Tryz.zeroValue20
 t37:=Tryz.underlying160
 a37:=Tryz.isAgg160
 z37:=Tryz.sizeOf160
 v37:=Tryz.zeroValue160
 t46:=Tryz.underlying230
 a46:=Tryz.isAgg230
 z46:=Tryz.sizeOf230
 v46:=Tryz.zeroValue230
 t51:=Tryz.underlying240
 a51:=Tryz.isAgg240
 z51:=Tryz.sizeOf240
 v51:=Tryz.zeroValue240
 t53:=Tryz.underlying178
 a53:=Tryz.isAgg178
 z53:=Tryz.sizeOf178
 v53:=Tryz.zeroValue178
 t171:=Tryz.underlying223
 a171:=Tryz.isAgg223
 z171:=Tryz.sizeOf223
 v171:=Tryz.zeroValue223
 t173:=Tryz.underlying226
 a173:=Tryz.isAgg226
 z173:=Tryz.sizeOf226
 v173:=Tryz.zeroValue226
 t212:=Tryz.underlying239
 a212:=Tryz.isAgg239
 z212:=Tryz.sizeOf239
 v212:=Tryz.zeroValue239
 t213:=Tryz.underlying241
 a213:=Tryz.isAgg241
 z213:=Tryz.sizeOf241
 t232:=Tryz.underlying261
 a232:=Tryz.isAgg261
 z232:=Tryz.sizeOf261
 v232:=Tryz.zeroValue261
 t233:=Tryz.underlying262
 a233:=Tryz.isAgg262
 z233:=Tryz.sizeOf262
 v233:=Tryz.zeroValue262
 g17:=by kernel_rfl
 g18:=by kernel_rfl
 g19:=by kernel_rfl
 i0:=by kernel_rfl
 i2:=by kernel_rfl
 i3:=by kernel_rfl
 i4:=by kernel_rfl
 i5:=by kernel_rfl
 i9:=by kernel_rfl
 i20:=by kernel_rfl
 i37:=by kernel_rfl
 i46:=by kernel_rfl
 i51:=by kernel_rfl
 i53:=by kernel_rfl
 i171:=by kernel_rfl
 i173:=by kernel_rfl
 i212:=by kernel_rfl
 i232:=by kernel_rfl
 i233:=by kernel_rfl
 m17:=by kernel_rfl
 m18:=by kernel_rfl
 m19:=by kernel_rfl }
def Tryz.lays145_ren:Go.Shelf.Ren:=⟨fun | 145=>135 | 220=>154 | 219=>169 | 217=>183 | 225=>184 | 224=>185 | 267=>186 | 266=>200 | 314=>201 | n=>n,fun | 9=>9 | 4=>4 | 59=>187 | 3=>3 | 5=>5 | 46=>230 | 146=>243 | 51=>240 | n=>n,fun | 1=>0 | n=>n⟩
theorem Tryz.lays145:Go.Proofs.Lays.n145 Tryz.prog Tryz.lays145_ren:={
 mixed:=by kernel_rfl
 f145:=Tryz.func135.trans (congrArg some (by kernel_rfl))
 f217:=Tryz.func183.trans (congrArg some (by kernel_rfl))
 f219:=Tryz.func169.trans (congrArg some (by kernel_rfl))
 f220:=Tryz.func154.trans (congrArg some (by kernel_rfl))
 f224:=Tryz.func185.trans (congrArg some (by kernel_rfl))
 f225:=Tryz.func184.trans (congrArg some (by kernel_rfl))
 f266:=Tryz.func200.trans (congrArg some (by kernel_rfl))
 f267:=Tryz.func186.trans (congrArg some (by kernel_rfl))
 f314:=Tryz.func201.trans (congrArg some (by kernel_rfl))
 t3:=Tryz.underlying3
 a3:=Tryz.isAgg3
 z3:=Tryz.sizeOf3
 v3:=Tryz.zeroValue3
 t4:=Tryz.underlying4
 a4:=Tryz.isAgg4
 z4:=Tryz.sizeOf4
 v4:=Tryz.zeroValue4
 t5:=Tryz.underlying5
 a5:=Tryz.isAgg5
 z5:=Tryz.sizeOf5
 v5:=Tryz.zeroValue5
 t9:=Tryz.underlying9
 a9:=Tryz.isAgg9
 z9:=Tryz.sizeOf9
 v9:=Tryz.zeroValue9
 t46:=Tryz.underlying230
 a46:=Tryz.isAgg230
 z46:=Tryz.sizeOf230
 v46:=Tryz.zeroValue230
 t51:=Tryz.underlying240
 a51:=Tryz.isAgg240
 z51:=Tryz.sizeOf240
 v51:=Tryz.zeroValue240
 t59:=Tryz.underlying187
 a59:=Tryz.isAgg187
 z59:=Tryz.sizeOf187
 v59:=Tryz.zeroValue187
 t146:=Tryz.underlying243
 a146:=Tryz.isAgg243
 z146:=Tryz.sizeOf243
 v146:=Tryz.zeroValue243
 g1:=by kernel_rfl }
end Go.Proofs
namespace Go.Proofs.YtidfofhmnlhfjaaGreatDoor
open Go.X
variable {u:World} {m0:Mem} {S:Segs} {w:World}
set_option maxHeartbeats 4000000
set_option maxRecDepth 100000
def Glob (u:World):Prop:=∃ mx,u.cell? ⟨0,0,none⟩ = some (.int .i64 mx)
def Tab (u:World):Prop:=Lib.TabIs Tryz.prog u "internal/strconv.uint64pow10" .u64 Lib.pow10Tab
def qcA:Rp Span:=fun _ cs x=>cs = [.int .i64 x.From,.int .i64 x.To] ∧ InR .i64 x.From ∧ InR .i64 x.To
theorem qc2:Mono qcA:=⟨fun _ h=>by
 obtain ⟨e,h0,h1⟩:=h
 exact ⟨e,h0,h1⟩,fun h=>by
 obtain ⟨rfl,h0,h1⟩:=h
 exact ⟨rfl,rfl,trivial⟩⟩
def qak:Rp Relation:=fun m cs x=>∃ c3,cs = [.int .i64 x.Operand,.int .i64 x.Mod,.bool x.Not,c3] ∧ InR .i64 x.Operand ∧ InR .i64 x.Mod ∧ (pL 2 qcA) m [c3] x.Spans
theorem qaf:Mono qak:=⟨fun hm h=>by
 obtain ⟨c3,e,h0,h1,h3⟩:=h
 exact ⟨c3,e,h0,h1,(mL qc2).up hm h3⟩,fun h=>by
 obtain ⟨c3,rfl,h0,h1,h3⟩:=h
 exact ⟨rfl,rfl,rfl,((mL qc2).one h3).1,trivial⟩⟩
def qoc:Rp Rule:=fun m cs x=>∃ c1,cs = [.string (bs x.Class),c1] ∧ x.Class.length ≤ LIMS ∧ (pL 1 (pL 4 qak)) m [c1] x.Cond
theorem qpI:Mono qoc:=⟨fun hm h=>by
 obtain ⟨c1,e,h0,h1⟩:=h
 exact ⟨c1,e,h0,(mL (mL qaf)).up hm h1⟩,fun h=>by
 obtain ⟨c1,rfl,h0,h1⟩:=h
 exact ⟨rfl,((mL (mL qaf)).one h1).1,trivial⟩⟩
def qbP:Rp Part:=fun _ cs x=>cs = [.int .u64 x.bits,.string (bs x.text)] ∧ InR .u64 x.bits ∧ x.text.length ≤ LIMS
theorem qb6:Mono qbP:=⟨fun _ h=>by
 obtain ⟨e,h0,h1⟩:=h
 exact ⟨e,h0,h1⟩,fun h=>by
 obtain ⟨rfl,h0,h1⟩:=h
 exact ⟨rfl,rfl,trivial⟩⟩
def qe6:Rp qaG:=fun m cs x=>∃ c0 c1 c2,cs = [c0,c1,c2] ∧ (pL 4 qak) m [c0] x.l ∧ (pL 2 qbP) m [c1] x.wholes ∧ (pL 2 qbP) m [c2] x.fraction
theorem qk2:Mono qe6:=⟨fun hm h=>by
 obtain ⟨c0,c1,c2,e,h0,h1,h2⟩:=h
 exact ⟨c0,c1,c2,e,(mL qaf).up hm h0,(mL qb6).up hm h1,(mL qb6).up hm h2⟩,fun h=>by
 obtain ⟨c0,c1,c2,rfl,h0,h1,h2⟩:=h
 exact ⟨((mL qaf).one h0).1,((mL qb6).one h1).1,((mL qb6).one h2).1,trivial⟩⟩
def qbn:Rp Tracker:=fun _ cs x=>cs = [.int .i64 x.a,.int .i64 x.b] ∧ InR .i64 x.a ∧ InR .i64 x.b
theorem qbd:Mono qbn:=⟨fun _ h=>by
 obtain ⟨e,h0,h1⟩:=h
 exact ⟨e,h0,h1⟩,fun h=>by
 obtain ⟨rfl,h0,h1⟩:=h
 exact ⟨rfl,rfl,trivial⟩⟩
def qgp:Rp State:=fun m cs x=>∃ c1,cs = [.string (bs x.s),c1,.bool x.integer] ∧ x.s.length ≤ LIMS ∧ (pL 2 qbn) m [c1] x.trackers
theorem qc9:Mono qgp:=⟨fun hm h=>by
 obtain ⟨c1,e,h0,h1⟩:=h
 exact ⟨c1,e,h0,(mL qbd).up hm h1⟩,fun h=>by
 obtain ⟨c1,rfl,h0,h1⟩:=h
 exact ⟨rfl,((mL qbd).one h1).1,rfl,trivial⟩⟩
def qpJ:Rp Word:=fun _ cs x=>cs = [.string (bs x.text),.int .i64 x.at_] ∧ x.text.length ≤ LIMS ∧ InR .i64 x.at_
def qnR:Rp Number:=fun _ cs x=>cs = [.bool x.Neg,.string (bs x.Whole),.string (bs x.Frac)] ∧ x.Whole.length ≤ LIMS ∧ x.Frac.length ≤ LIMS
theorem qbh:aggB Tryz.prog 117 3 = true:=by kernel_rfl
theorem qdJ:aggB Tryz.prog 126 2 = true:=by kernel_rfl
theorem qlZ:aggB Tryz.prog 163 2 = true:=by kernel_rfl
theorem qhG:aggB Tryz.prog 181 2 = true:=by kernel_rfl
theorem qn4:aggB Tryz.prog 199 3 = true:=by kernel_rfl
theorem qqP:aggB Tryz.prog 45 2 = true:=by kernel_rfl
theorem qbr:aggB Tryz.prog 69 4 = true:=by kernel_rfl
theorem qbC:aggB Tryz.prog 86 2 = true:=by kernel_rfl
theorem qhM:qaO Tryz.prog 117 0 0 = true:=by kernel_rfl
theorem qcQ:qaO Tryz.prog 117 1 1 = true:=by kernel_rfl
theorem qdk:qaO Tryz.prog 117 2 2 = true:=by kernel_rfl
theorem qd6:qaO Tryz.prog 126 0 0 = true:=by kernel_rfl
theorem qc6:qaO Tryz.prog 126 1 1 = true:=by kernel_rfl
theorem qiS:qaO Tryz.prog 163 0 0 = true:=by kernel_rfl
theorem qlb:qaO Tryz.prog 163 1 1 = true:=by kernel_rfl
theorem qm4:qaO Tryz.prog 165 0 0 = true:=by kernel_rfl
theorem qng:qaO Tryz.prog 165 1 1 = true:=by kernel_rfl
theorem qft:qaO Tryz.prog 165 2 2 = true:=by kernel_rfl
theorem qmZ:qaO Tryz.prog 165 3 4 = true:=by kernel_rfl
theorem qgt:qaO Tryz.prog 165 4 5 = true:=by kernel_rfl
theorem qgW:qaO Tryz.prog 175 0 0 = true:=by kernel_rfl
theorem qkX:qaO Tryz.prog 175 1 1 = true:=by kernel_rfl
theorem qk1:qaO Tryz.prog 175 2 2 = true:=by kernel_rfl
theorem qgw:qaO Tryz.prog 181 0 0 = true:=by kernel_rfl
theorem qh1:qaO Tryz.prog 181 1 1 = true:=by kernel_rfl
theorem qk9:qaO Tryz.prog 199 0 0 = true:=by kernel_rfl
theorem qhW:qaO Tryz.prog 199 1 1 = true:=by kernel_rfl
theorem qi9:qaO Tryz.prog 199 2 2 = true:=by kernel_rfl
theorem qql:qaO Tryz.prog 45 1 1 = true:=by kernel_rfl
theorem qa1:qaO Tryz.prog 69 0 0 = true:=by kernel_rfl
theorem qcZ:qaO Tryz.prog 69 1 1 = true:=by kernel_rfl
theorem qfI:qaO Tryz.prog 69 2 2 = true:=by kernel_rfl
theorem qbf:qaO Tryz.prog 69 3 3 = true:=by kernel_rfl
theorem qeT:qaO Tryz.prog 86 0 0 = true:=by kernel_rfl
theorem qfm:qaO Tryz.prog 86 1 1 = true:=by kernel_rfl
theorem qlP:goB Tryz.prog 101 = true:=by kernel_rfl
theorem qlI:goB Tryz.prog 102 = true:=by kernel_rfl
theorem qj5:goB Tryz.prog 103 = true:=by kernel_rfl
theorem qo3:goB Tryz.prog 106 = true:=by kernel_rfl
theorem qoq:goB Tryz.prog 109 = true:=by kernel_rfl
theorem qlH:goB Tryz.prog 110 = true:=by kernel_rfl
theorem qcL:goB Tryz.prog 111 = true:=by kernel_rfl
theorem qrw:goB Tryz.prog 112 = true:=by kernel_rfl
theorem qdG:goB Tryz.prog 113 = true:=by kernel_rfl
theorem qoU:goB Tryz.prog 114 = true:=by kernel_rfl
theorem qdC:goB Tryz.prog 115 = true:=by kernel_rfl
theorem qqU:goB Tryz.prog 116 = true:=by kernel_rfl
theorem qoo:goB Tryz.prog 117 = true:=by kernel_rfl
theorem qpG:goB Tryz.prog 12 = true:=by kernel_rfl
theorem qlf:goB Tryz.prog 120 = true:=by kernel_rfl
theorem qfh:goB Tryz.prog 122 = true:=by kernel_rfl
theorem qjZ:goB Tryz.prog 123 = true:=by kernel_rfl
theorem qo4:goB Tryz.prog 124 = true:=by kernel_rfl
theorem qoP:goB Tryz.prog 125 = true:=by kernel_rfl
theorem qqF:goB Tryz.prog 126 = true:=by kernel_rfl
theorem qrF:goB Tryz.prog 127 = true:=by kernel_rfl
theorem qrr:goB Tryz.prog 128 = true:=by kernel_rfl
theorem qqM:goB Tryz.prog 129 = true:=by kernel_rfl
theorem qrI:goB Tryz.prog 142 = true:=by kernel_rfl
theorem qle:goB Tryz.prog 143 = true:=by kernel_rfl
theorem qlq:goB Tryz.prog 144 = true:=by kernel_rfl
theorem qlM:goB Tryz.prog 145 = true:=by kernel_rfl
theorem qlQ:goB Tryz.prog 146 = true:=by kernel_rfl
theorem qqK:goB Tryz.prog 147 = true:=by kernel_rfl
theorem qqL:goB Tryz.prog 150 = true:=by kernel_rfl
theorem qoY:goB Tryz.prog 163 = true:=by kernel_rfl
theorem qrx:goB Tryz.prog 164 = true:=by kernel_rfl
theorem qrq:goB Tryz.prog 166 = true:=by kernel_rfl
theorem qr2:goB Tryz.prog 19 = true:=by kernel_rfl
theorem qsA:goB Tryz.prog 33 = true:=by kernel_rfl
theorem qoh:goB Tryz.prog 35 = true:=by kernel_rfl
theorem qsb:goB Tryz.prog 36 = true:=by kernel_rfl
theorem qn6:goB Tryz.prog 37 = true:=by kernel_rfl
theorem qpV:goB Tryz.prog 38 = true:=by kernel_rfl
theorem qpS:goB Tryz.prog 47 = true:=by kernel_rfl
theorem qn7:goB Tryz.prog 52 = true:=by kernel_rfl
theorem qpL:goB Tryz.prog 54 = true:=by kernel_rfl
theorem qsB:goB Tryz.prog 60 = true:=by kernel_rfl
theorem qsj:goB Tryz.prog 61 = true:=by kernel_rfl
theorem qrX:goB Tryz.prog 62 = true:=by kernel_rfl
theorem qpM:goB Tryz.prog 69 = true:=by kernel_rfl
theorem qsm:goB Tryz.prog 77 = true:=by kernel_rfl
theorem qr4:goB Tryz.prog 80 = true:=by kernel_rfl
theorem qrP:goB Tryz.prog 81 = true:=by kernel_rfl
theorem qsc:goB Tryz.prog 82 = true:=by kernel_rfl
theorem qlN:goB Tryz.prog 88 = true:=by kernel_rfl
theorem qse:goB Tryz.prog 94 = true:=by kernel_rfl
theorem qsa:goB Tryz.prog 95 = true:=by kernel_rfl
theorem qpN:goB Tryz.prog 96 = true:=by kernel_rfl
theorem qsx:goB Tryz.prog 97 = true:=by kernel_rfl
theorem qbL:∃ i,Tryz.prog.info? 117 = some i ∧ i.size = 3:=⟨_,rfl,by kernel_rfl⟩
theorem qfi:∃ i,Tryz.prog.info? 126 = some i ∧ i.size = 2:=⟨_,rfl,by kernel_rfl⟩
theorem ql3:∃ i,Tryz.prog.info? 163 = some i ∧ i.size = 2:=⟨_,rfl,by kernel_rfl⟩
theorem qqb:∃ i,Tryz.prog.info? 165 = some i ∧ i.size = 6:=⟨_,rfl,by kernel_rfl⟩
theorem qn2:∃ i,Tryz.prog.info? 173 = some i ∧ i.size = 1:=⟨_,rfl,by kernel_rfl⟩
theorem ql6:∃ i,Tryz.prog.info? 181 = some i ∧ i.size = 2:=⟨_,rfl,by kernel_rfl⟩
theorem qem:∃ i,Tryz.prog.info? 199 = some i ∧ i.size = 3:=⟨_,rfl,by kernel_rfl⟩
theorem qrC:∃ i,Tryz.prog.info? 27 = some i ∧ i.size = 1:=⟨_,rfl,by kernel_rfl⟩
theorem qb4:∃ i,Tryz.prog.info? 3 = some i ∧ i.size = 1:=⟨_,rfl,by kernel_rfl⟩
theorem qof:∃ i,Tryz.prog.info? 4 = some i ∧ i.size = 1:=⟨_,rfl,by kernel_rfl⟩
theorem qqG:∃ i,Tryz.prog.info? 45 = some i ∧ i.size = 2:=⟨_,rfl,by kernel_rfl⟩
theorem qm7:∃ i,Tryz.prog.info? 66 = some i ∧ i.size = 1:=⟨_,rfl,by kernel_rfl⟩
theorem qll:∃ i,Tryz.prog.info? 67 = some i ∧ i.size = 1:=⟨_,rfl,by kernel_rfl⟩
theorem qf3:∃ i,Tryz.prog.info? 69 = some i ∧ i.size = 4:=⟨_,rfl,by kernel_rfl⟩
theorem qlT:∃ i,Tryz.prog.info? 72 = some i ∧ i.size = 1:=⟨_,rfl,by kernel_rfl⟩
theorem qdA:∃ i,Tryz.prog.info? 86 = some i ∧ i.size = 2:=⟨_,rfl,by kernel_rfl⟩
theorem qmM:∃ i,Tryz.prog.info? 9 = some i ∧ i.size = 1:=⟨_,rfl,by kernel_rfl⟩
theorem qqv:oneB Tryz.prog 109 = true:=by kernel_rfl
theorem qmj:oneB Tryz.prog 143 = true:=by kernel_rfl
theorem qkj:oneB Tryz.prog 173 = true:=by kernel_rfl
theorem qiM:oneB Tryz.prog 176 = true:=by kernel_rfl
theorem qgX:oneB Tryz.prog 178 = true:=by kernel_rfl
theorem qfS:oneB Tryz.prog 23 = true:=by kernel_rfl
theorem qlG:oneB Tryz.prog 26 = true:=by kernel_rfl
theorem qis:oneB Tryz.prog 27 = true:=by kernel_rfl
theorem qaq:oneB Tryz.prog 3 = true:=by kernel_rfl
theorem qdx:oneB Tryz.prog 4 = true:=by kernel_rfl
theorem qcN:oneB Tryz.prog 66 = true:=by kernel_rfl
theorem qbO:oneB Tryz.prog 67 = true:=by kernel_rfl
theorem qeC:oneB Tryz.prog 72 = true:=by kernel_rfl
theorem qbg:oneB Tryz.prog 9 = true:=by kernel_rfl
theorem qqX:oneB Tryz.prog 94 = true:=by kernel_rfl
theorem qbQ:qd3 Tryz.prog 117 = some [(0,1),(1,1),(2,1)]:=by kernel_rfl
theorem qog:qd3 Tryz.prog 126 = some [(0,1),(1,1)]:=by kernel_rfl
theorem qlu:qd3 Tryz.prog 163 = some [(0,1),(1,1)]:=by kernel_rfl
theorem qlz:qd3 Tryz.prog 165 = some [(0,1),(1,1),(2,2),(4,1),(5,1)]:=by kernel_rfl
theorem qn9:qd3 Tryz.prog 175 = some [(0,1),(1,1),(2,1)]:=by kernel_rfl
theorem qli:qd3 Tryz.prog 181 = some [(0,1),(1,1)]:=by kernel_rfl
theorem qcK:qd3 Tryz.prog 199 = some [(0,1),(1,1),(2,1)]:=by kernel_rfl
theorem qmD:qd3 Tryz.prog 45 = some [(0,1),(1,1)]:=by kernel_rfl
theorem qhe:SlT Tryz.prog 173 181 2:=SlT.of (by kernel_rfl)
theorem qdD:SlT Tryz.prog 176 86 2:=SlT.of (by kernel_rfl)
theorem qj2:SlT Tryz.prog 200 199 3:=SlT.of (by kernel_rfl)
theorem qcv:SlT Tryz.prog 23 66 1:=SlT.of (by kernel_rfl)
theorem qeE:SlT Tryz.prog 26 23 1:=SlT.of (by kernel_rfl)
theorem qf8:SlT Tryz.prog 32 4 1:=SlT.of (by kernel_rfl)
theorem qlF:SlT Tryz.prog 43 45 2:=SlT.of (by kernel_rfl)
theorem qbk:SlT Tryz.prog 66 69 4:=SlT.of (by kernel_rfl)
theorem qbz:SlT Tryz.prog 67 126 2:=SlT.of (by kernel_rfl)
theorem qbU:SlT Tryz.prog 72 3 1:=SlT.of (by kernel_rfl)
theorem qqa:qlU Tryz.prog 4 = some (vb false):=by kernel_rfl
theorem qb0:qck Tryz.prog 117 = some [vb false,(vs ([])),(vs ([]))]:=by kernel_rfl
theorem qcE:qck Tryz.prog 126 = some [vi 0,vi 0]:=by kernel_rfl
theorem qk5:qck Tryz.prog 163 = some [(vs ([])),vi 0]:=by kernel_rfl
theorem qk0:qck Tryz.prog 165 = some [(vs ([])),vi 0,(vs ([])),vi 0,vi 0,vi 0]:=by kernel_rfl
theorem qpr:qck Tryz.prog 175 = some [(Value.slice none 0 0),(Value.slice none 0 0),(Value.slice none 0 0)]:=by kernel_rfl
theorem qgr:qck Tryz.prog 181 = some [vu 0,(vs ([]))]:=by kernel_rfl
theorem qbt:qck Tryz.prog 199 = some [(vs ([])),(Value.slice none 0 0),vb false]:=by kernel_rfl
theorem qku:qck Tryz.prog 23 = some [(Value.slice none 0 0)]:=by kernel_rfl
theorem qf1:qck Tryz.prog 3 = some [vi 0]:=by kernel_rfl
theorem qj6:qck Tryz.prog 4 = some [vb false]:=by kernel_rfl
theorem qkt:qck Tryz.prog 45 = some [(vs ([])),(Value.slice none 0 0)]:=by kernel_rfl
theorem qnM:qck Tryz.prog 66 = some [(Value.slice none 0 0)]:=by kernel_rfl
theorem qcW:qck Tryz.prog 69 = some [vi 0,vi 0,vb false,(Value.slice none 0 0)]:=by kernel_rfl
theorem qiL:qck Tryz.prog 72 = some [(Value.slice none 0 0)]:=by kernel_rfl
theorem qel:qck Tryz.prog 86 = some [vi 0,vi 0]:=by kernel_rfl
def qgo (u:World) (m0:Mem) (S:Segs) (r:Int) (a:Act) (w:World):Prop :=
 Ok u m0 S w ∧ a.defers = [] ∧ RVs Tryz.prog a w [.t 4 (.int .i64 r)] ∧ InR .i64 r
theorem qio (N:Nat) (vs_0:Value) (s_0:List (Int)) (hs_0:(pL 1 (pI .i64)) m0 [vs_0] s_0) (v_1:Int) (rv_1:InR .i64 v_1) {r:Int} (hF:qed N s_0 v_1 = some r) (hG:Glob u) (ok:Ok u m0 S w) :
  Calls Tryz.prog 164 [vs_0,vi v_1].toArray w fun e w'=>(e = .returned (.int .i64 r) ∧ Ok u m0 S w') ∧ InR .i64 r:=by
 unfold qed at hF
 refine en (qgo u m0 S) r Tryz.func164 rfl rfl rfl (fun _ _ h=>rb h rfl) fun fin a E=>sg<|aw E rfl fun a E=>wp_seq<|sg<|mv E rfl fun a E=>lv E ok (qaD qbU hs_0 rfl) fun a E=>mv E rfl fun a E=>wn<|wp_block<|bd hF fun o2 hL hF=>qaF _ (fun (s:Int) a w=>Ok u m0 (S) w ∧ Env 19 a [(0,vs_0),(1,vi v_1),(7,(vi (s_0.length:Int))),(8,vi s)] ∧ InR .i64 s) (fun (b:(Unit ⊕ Int)) e a w=>(Sum.elim (fun b18=>e = (.exit 0) ∧ Ok u m0 (S) w ∧ Env 19 a []) (fun b19=>e = .ret ∧ qgo u m0 S b19 a w)) b) ?_ ?_ N _ a w hL ⟨ok,E.keep [0,1,7,8],(ir 0)⟩
 rotate_left
 ·intro e a w _ hO
  rcases o2 with o2 | o2
  rotate_left
  ·obtain ⟨rfl,hret⟩:=hO
   refine qax<|qal ?_
   exact fin hF hret
  have hF:=qbT hF
  obtain ⟨rfl,ok,E⟩:=hO
  refine qaN<|qaa<|sg<|aw E rfl fun a E=>wp_ret ?_
  exact fin hF ⟨ok,E.d,rz E rfl,(ir (-1))⟩
 rintro v4 a w r ⟨ok,E,r5⟩ hF
 replace hF:qcM N s_0 v_1 v4 = some r:=hF
 unfold qcM at hF
 refine sg<|lw E (qay rfl rfl) fun a E=>wn<|wp_seq<|cg E rfl hF (fun c6 hF=>?_) fun c6 hF=>?_
 ·refine wp_exit<|qaA ?_
  cases hF
  exact so (sl ⟨rfl,⟨ok,E.keep []⟩⟩)
 refine wp_skip<|qaa<|wp_seq<|wp_block<|sg<|mv E rfl fun a E=>av E rfl fun a E=>wn<|sg<|mz E rfl rfl fun a E=>mv E rfl fun a E=>?_
 obtain ⟨x7,e8,hF⟩:=bnd hF
 obtain ⟨b9,o10,es11,hl12,rr13,at14,yy15⟩:=ia E 12 13 qbU hs_0 e8
 obtain ⟨rfl,r16⟩:=rr13
 refine lv E ok (yy15 _ _) fun a E=>lv E ok (qaj qaq rfl (qab.ro at14)) fun a E=>lw E (qau rfl rfl) fun a E=>wn<|cg E rfl hF (fun c17 hF=>?_) fun c17 hF=>?_
 ·refine wp_skip<|qap<|qaa<|qac<|lw E (qaE rfl rfl (InR.inc r5 (qao hs_0) c6)) fun a E=>mv E rfl fun a E=>wpList_nil ?_
  cases hF
  exact qas ⟨ok,E.keep [0,1,7,8],(InR.inc r5 (qao hs_0) c6)⟩
 refine sg<|mv E rfl fun a E=>aw E rfl fun a E=>wp_ret<|qax<|qal ?_
 cases hF
 exact so (sr ⟨rfl,⟨ok,E.d,rz E rfl,r5⟩⟩)
def qhB (u:World) (m0:Mem) (S:Segs) (r:Bool) (a:Act) (w:World):Prop :=
 Ok u m0 S w ∧ a.defers = [] ∧ RVs Tryz.prog a w [.t 4 (.bool r)]
theorem qhC (N:Nat) (vs_0:Value) (s_0:List (Int)) (hs_0:(pL 1 (pI .i64)) m0 [vs_0] s_0) (v_1:Int) (rv_1:InR .i64 v_1) {r:Bool} (hF:qcP N s_0 v_1 = some r) (hG:Glob u) (ok:Ok u m0 S w) :
  Calls Tryz.prog 147 [vs_0,vi v_1].toArray w fun e w'=>(e = .returned (.bool r) ∧ Ok u m0 S w'):=by
 unfold qcP at hF
 refine en (qhB u m0 S) r Tryz.func147 rfl rfl rfl (fun _ _ h=>ra h rfl) fun fin a E=>sg<|aw E rfl fun a E=>sg<|mz E rfl rfl fun a E=>bd hF fun r1 e2 hF=>qan E qrx rfl (qio N _ s_0 hs_0 v_1 rv_1 e2 hG ok) rfl rfl ?_
 rintro _ w ⟨⟨rfl,ok⟩,r3⟩
 refine ⟨_,rfl,fun a E=>?_⟩
 refine lw E (qgd rfl rfl) fun a E=>aw E rfl fun a E=>wp_ret ?_
 exact fin hF ⟨ok,E.d,rz E rfl⟩
def qiP (u:World) (m0:Mem) (S:Segs) (r:Bool) (a:Act) (w:World):Prop :=
 Ok u m0 S w ∧ a.defers = [] ∧ RVs Tryz.prog a w [.t 4 (.bool r)]
theorem qiC (N:Nat) (operand_0:Int) (roperand_0:InR .i64 operand_0) (mod_1:Int) (rmod_1:InR .i64 mod_1) {r:Bool} (hF:qdE N operand_0 mod_1 = some r) (hG:Glob u) (ok:Ok u m0 S w) :
  Calls Tryz.prog 116 [vi operand_0,vi mod_1].toArray w fun e w'=>(e = .returned (.bool r) ∧ Ok u m0 S w'):=by
 unfold qdE at hF
 refine en (qiP u m0 S) r Tryz.func116 rfl rfl rfl (fun _ _ h=>ra h rfl) fun fin a E=>sg<|aw E rfl fun a E=>wp_seq<|sg<|mv E rfl fun a E=>wn<|wp_block<|wp_seq<|sg<|lw E (qau rfl rfl) fun a E=>aw E rfl fun a E=>bd hF fun o1 hJ hF=>qaL (Q':=fun e a w=>e = .normal ∧ Ok u m0 (S) w ∧ Env 21 a [(1,vi mod_1),(5,vi operand_0),(6,vb o1)]) ?_ ?_
 ·have hF:=hJ
  refine cf E rfl hF (fun c2 hF=>?_) fun c2 hF=>?_
  ·refine wp_skip ?_
   cases hF
   exact ⟨rfl,⟨ok,E.keep [1,5,6]⟩⟩
  refine qac<|lw E (qau rfl rfl) fun a E=>av E rfl fun a E=>wpList_nil ?_
  cases hF
  exact ⟨rfl,⟨ok,E.keep [1,5,6]⟩⟩
 intro e a w hO
 obtain ⟨rfl,ok,E⟩:=hO
 refine qaa<|cf E rfl hF (fun c3 hF=>?_) fun c3 hF=>?_
 ·refine sg<|qcn (R:=(pI .i64)) (xo:=[.const (vi 2),.const (vi 3),.const (vi 4),.const (vi 5),.const (vi 6),.const (vi 10),.const (vi 20),.const (vi 25),.const (vi 50),.const (vi 100)]) (xs:=([2,3,4,5,6,10,20,25,50,100]:List (Int))) E ok qbU qf1 rfl ⟨⟨_,rfl,rfl,(qbc (ir 2))⟩,⟨_,rfl,rfl,(qbc (ir 3))⟩,⟨_,rfl,rfl,(qbc (ir 4))⟩,⟨_,rfl,rfl,(qbc (ir 5))⟩,⟨_,rfl,rfl,(qbc (ir 6))⟩,⟨_,rfl,rfl,(qbc (ir 10))⟩,⟨_,rfl,rfl,(qbc (ir 20))⟩,⟨_,rfl,rfl,(qbc (ir 25))⟩,⟨_,rfl,rfl,(qbc (ir 50))⟩,⟨_,rfl,rfl,(qbc (ir 100))⟩,trivial⟩ rfl rfl rfl rfl fun c4 M5 a w E ok h6=>mv E rfl fun a E=>?_
  obtain ⟨r12,e13,hF⟩:=bnd hF
  obtain ⟨m7,hle9,ok8,hfz10⟩:=(ok.frs 0 rfl).freeze
  have h11:=ORow.froz (mI .i64) h6 hle9 hfz10 (by decide)
  refine qan E qqK rfl (qhC N _ ([2,3,4,5,6,10,20,25,50,100]:List (Int)) h11 mod_1 rmod_1 e13 hG ok8) rfl rfl ?_
  rintro _ w ⟨rfl,okz⟩
  replace ok:=(Ok.thawAt 0 rfl ok hle9 hfz10 okz)
  refine ⟨_,rfl,fun a E=>?_⟩
  refine aw E rfl fun a E=>wp_ret<|qax<|qal ?_
  exact fin hF ⟨ok.drop,E.d,rz E rfl⟩
 refine wp_seq<|sg<|lw E (qau rfl rfl) fun a E=>aw E rfl fun a E=>bd hF fun o14 hJ hF=>qaL (Q':=fun e a w=>e = .normal ∧ Ok u m0 (S) w ∧ Env 21 a [(1,vi mod_1),(12,vb o14)]) ?_ ?_
 ·have hF:=hJ
  refine cf E rfl hF (fun c15 hF=>?_) fun c15 hF=>?_
  ·refine wp_skip ?_
   cases hF
   exact ⟨rfl,⟨ok,E.keep [1,12]⟩⟩
  refine qac<|lw E (qau rfl rfl) fun a E=>av E rfl fun a E=>wpList_nil ?_
  cases hF
  exact ⟨rfl,⟨ok,E.keep [1,12]⟩⟩
 intro e a w hO
 obtain ⟨rfl,ok,E⟩:=hO
 refine qaa<|cg E rfl hF (fun c16 hF=>?_) fun c16 hF=>?_
 ·refine wp_skip<|qap<|qaa<|sg<|aw E rfl fun a E=>wp_ret ?_
  exact fin hF ⟨ok,E.d,rz E rfl⟩
 refine sg<|mv E rfl fun a E=>lw E (qau rfl rfl) fun a E=>mv E rfl fun a E=>bu E 17 hF (fun c17 hF E=>?_) fun c17 hF E=>?_
 ·refine lsq E fun a E=>pt E rfl rfl fun a E=>aw E rfl fun a E=>wp_ret<|qax<|qal ?_
  exact fin hF ⟨ok,E.d,rz E rfl⟩
 refine mv E rfl fun a E=>lw E (qau rfl rfl) fun a E=>pf E rfl rfl fun a E=>aw E rfl fun a E=>wp_ret<|qax<|qal ?_
 exact fin hF ⟨ok,E.d,rz E rfl⟩
def qiR (u:World) (m0:Mem) (S:Segs) (r:Int) (a:Act) (w:World):Prop :=
 Ok u m0 S w ∧ a.defers = [] ∧ RVs Tryz.prog a w [.t 2 (.int .i64 r)] ∧ InR .i64 r
theorem qeg (N:Nat) (operand_0:Int) (roperand_0:InR .i64 operand_0) {r:Int} (hF:qde N operand_0 = some r) (hG:Glob u) (ok:Ok u m0 S w) :
  Calls Tryz.prog 117 [vi operand_0].toArray w fun e w'=>(e = .returned (.int .i64 r) ∧ Ok u m0 S w') ∧ InR .i64 r:=by
 unfold qde at hF
 refine en (qiR u m0 S) r Tryz.func117 rfl rfl rfl (fun _ _ h=>rb h rfl) fun fin a E=>sg<|aw E rfl fun a E=>wp_seq<|sg<|mv E rfl fun a E=>lw E (qau rfl rfl) fun a E=>mv E rfl fun a E=>bu E 5 hF (fun c1 hF E=>?_) fun c1 hF E=>?_
 ·refine lsq E fun a E=>pt E rfl rfl fun a E=>wn<|c_if E rfl (fun _=>?_) (fun h=>by cases h)
  refine sg<|aw E rfl fun a E=>wp_ret<|qal ?_
  exact fin hF ⟨ok,E.d,rz E rfl,(ir 6)⟩
 refine mv E rfl fun a E=>lw E (qau rfl rfl) fun a E=>pf E rfl rfl fun a E=>wn<|cf E rfl hF (fun c2 hF=>?_) fun c2 hF=>?_
 ·refine sg<|aw E rfl fun a E=>wp_ret<|qal ?_
  exact fin hF ⟨ok,E.d,rz E rfl,(ir 6)⟩
 refine wp_skip<|qaa<|sg<|aw E rfl fun a E=>wp_ret ?_
 exact fin hF ⟨ok,E.d,rz E rfl,(ir 100)⟩
def qfV (u:World) (m0:Mem) (S:Segs) (r:Bool) (a:Act) (w:World):Prop :=
 Ok u m0 S w ∧ a.defers = [] ∧ RVs Tryz.prog a w [.t 2 (.bool r)]
theorem qj8 (N:Nat) (vr_0:List Value) (r_0:Relation) (hr_0:qak m0 vr_0 r_0) {r:Bool} (hF:qey N r_0 = some r) (hG:Glob u) (ok:Ok u m0 S w) :
  Calls Tryz.prog 82 [.agg vr_0.toArray].toArray w fun e w'=>(e = .returned (.bool r) ∧ Ok u m0 S w'):=by
 obtain ⟨c3,rfl,r1,r2,h4⟩:=hr_0
 unfold qey at hF
 refine en (qfV u m0 S) r Tryz.func82 rfl rfl rfl (fun _ _ h=>ra h rfl) fun fin a E=>sg<|qb8 E ok rfl rfl rfl fun b5 a w E ok=>aw E rfl fun a E=>wp_seq<|sg<|fk E ok qa1 qaq rfl 0 rfl rfl fun a E=>lw E (qay rfl rfl) fun a E=>mv E rfl fun a E=>bu E 8 hF (fun c6 hF E=>?_) fun c6 hF E=>?_
 ·refine lsq E fun a E=>ls E fun a E=>pt E rfl rfl fun a E=>mv E rfl fun a E=>lsz E fun a E=>lsz E fun a E=>lsq E fun a E=>ls E fun a E=>?_
  refine pt E rfl rfl fun a E=>mv E rfl fun a E=>lsz E fun a E=>pt E rfl rfl fun a E=>mv E rfl fun a E=>lsz E fun a E=>pt E rfl rfl fun a E=>wn<|c_if E rfl (fun _=>?_) (fun h=>by cases h)
  refine sg<|aw E rfl fun a E=>wp_ret<|qal ?_
  exact fin hF ⟨ok.drop,E.d,rz E rfl⟩
 refine fk E ok qa1 qaq rfl 0 rfl rfl fun a E=>lw E (qbp rfl rfl) fun a E=>pf E rfl rfl fun a E=>mv E rfl fun a E=>bu E 13 hF (fun c7 hF E=>?_) fun c7 hF E=>?_
 ·refine lsz E fun a E=>lsz E fun a E=>lsq E fun a E=>ls E fun a E=>pt E rfl rfl fun a E=>mv E rfl fun a E=>lsq E fun a E=>ls E fun a E=>?_
  refine ls E fun a E=>pt E rfl rfl fun a E=>mv E rfl fun a E=>lsz E fun a E=>pt E rfl rfl fun a E=>wn<|c_if E rfl (fun _=>?_) (fun h=>by cases h)
  refine sg<|aw E rfl fun a E=>wp_ret<|qal ?_
  exact fin hF ⟨ok.drop,E.d,rz E rfl⟩
 refine fk E ok qcZ qaq rfl 0 rfl rfl fun a E=>lw E (qdp rfl rfl) fun a E=>mv E rfl fun a E=>bw E 17 hF (fun c8 hF E=>?_) fun c8 hF E=>?_
 ·as_aux_lemma =>
   refine lsz E fun a E=>lsq E fun a E=>pf E rfl rfl fun a E=>pf E rfl rfl fun a E=>mv E rfl fun a E=>fk E ok qbf qbO rfl 0 rfl rfl fun a E=>lv E ok (qaD qbz h4 rfl) fun a E=>lw E (qay rfl rfl) fun a E=>pf E rfl rfl fun a E=>mv E rfl fun a E=>bu E 32 hF (fun c40 hF E=>?_) fun c40 hF E=>?_
   ·refine lsz E fun a E=>pt E rfl rfl fun a E=>wn<|c_if E rfl (fun _=>?_) (fun h=>by cases h)
    refine sg<|aw E rfl fun a E=>wp_ret<|qal ?_
    exact fin hF ⟨ok.drop,E.d,rz E rfl⟩
   refine fk E ok qbf qbO rfl 0 rfl rfl fun a E=>lv E ok (qaD qbz h4 rfl) fun a E=>lw E (qbp rfl rfl) fun a E=>pf E rfl rfl fun a E=>wn<|cf E rfl hF (fun c41 hF=>?_) fun c41 hF=>?_
   ·refine sg<|aw E rfl fun a E=>wp_ret<|qal ?_
    exact fin hF ⟨ok.drop,E.d,rz E rfl⟩
   refine wp_skip<|qaa<|wp_seq<|sg<|fk E ok qbf qbO rfl 0 rfl rfl fun a E=>lv E ok (qaD qbz h4 rfl) fun a E=>mv E rfl fun a E=>wn<|wp_block<|bd hF fun o43 hL hF=>qaF _ (fun (s:Int) a w=>Ok u m0 ([(b5,oc 69 [vi r_0.Operand,vi r_0.Mod,vb r_0.Not,c3])] :: S) w ∧ Env 64 a [(1,vp b5),(39,c3),(40,(vi (r_0.Spans.length:Int))),(41,vi s)] ∧ InR .i64 s) (fun (b:(Unit ⊕ Bool)) e a w=>(Sum.elim (fun b66=>e = (.exit 0) ∧ Ok u m0 ([(b5,oc 69 [vi r_0.Operand,vi r_0.Mod,vb r_0.Not,c3])] :: S) w ∧ Env 64 a []) (fun b67=>e = .ret ∧ qfV u m0 S b67 a w)) b) ?_ ?_ N _ a w hL ⟨ok,E.keep [1,39,40,41],(ir 0)⟩
   rotate_left
   ·intro e a w _ hO
    rcases o43 with o43 | o43
    rotate_left
    ·obtain ⟨rfl,hret⟩:=hO
     refine qax<|qal ?_
     exact fin hF hret
    have hF:=qbT hF
    obtain ⟨rfl,ok,E⟩:=hO
    refine qaN<|qaa<|sg<|aw E rfl fun a E=>wp_ret ?_
    exact fin hF ⟨ok.drop,E.d,rz E rfl⟩
   rintro v45 a w r ⟨ok,E,r46⟩ hF
   replace hF:qeF N r_0 v45 = some r:=hF
   unfold qeF at hF
   refine sg<|lw E (qay rfl rfl) fun a E=>wn<|wp_seq<|cg E rfl hF (fun c47 hF=>?_) fun c47 hF=>?_
   ·refine wp_exit<|qaA ?_
    cases hF
    exact so (sl ⟨rfl,⟨ok,E.keep []⟩⟩)
   refine wp_skip<|qaa<|wp_seq<|wp_block<|sg ?_
   obtain ⟨x48,e49,hF⟩:=bnd hF
   obtain ⟨b50,o51,es52,hl53,rr54,at55,yy56⟩:=ia E 39 41 qbz h4 e49
   obtain ⟨rfl,r57,r58⟩:=rr54
   refine lv E ok (yy56 _ _) fun a E=>lv E ok (qag (cs:=[vi x48.From,vi x48.To]) qdJ rfl rfl (qab.ro at55)) fun a E=>qaB E ok qcE rfl rfl fun b59 a w E ok=>qad E ok 0 rfl rfl rfl qfi rfl rfl ⟨rfl,rfl,trivial⟩ rfl rfl fun w ok=>wn<|wp_seq<|qeU (by kernel_rfl) (by kernel_rfl) ok<|qv E (qae qd6 rfl) fun a E=>qv E (qaj qaq rfl (qab.own 0 rfl rfl)) fun a E=>qv E (qay rfl rfl) fun a E=>qv E (qah rfl) fun a E=>bu E 48 hF (fun c60 hF E=>?_) fun c60 hF E=>?_
   ·refine qs E fun a E=>qs E fun a E=>qs E fun a E=>qs E fun a E=>qs E fun a E=>qv E (qaY rfl rfl) fun a E=>qv E (qah rfl) fun a E=>qs E fun a E=>qs E fun a E=>qs E fun a E=>qs E fun a E=>qs E fun a E=>qs E fun a E=>qv E (qaY rfl rfl) fun a E=>wpQuiet_nil ?_
    intro w ok
    refine qaa<|c_if E rfl (fun _=>?_) (fun h=>by cases h)
    refine sg<|aw E rfl fun a E=>wp_ret<|qax<|qal ?_
    cases hF
    exact so (sr ⟨rfl,⟨ok.drop.drop,E.d,rz E rfl⟩⟩)
   refine qv E (qae qd6 rfl) fun a E=>qv E (qaj qaq rfl (qab.own 0 rfl rfl)) fun a E=>qv E (qae qc6 rfl) fun a E=>qv E (qaj qaq rfl (qab.own 0 rfl rfl)) fun a E=>qv E (qbp rfl rfl) fun a E=>qv E (qaT rfl rfl) fun a E=>qv E (qah rfl) fun a E=>bu E 55 hF (fun c61 hF E=>?_) fun c61 hF E=>?_
   ·refine qs E fun a E=>qs E fun a E=>qs E fun a E=>qs E fun a E=>qs E fun a E=>qs E fun a E=>qv E (qaY rfl rfl) fun a E=>wpQuiet_nil ?_
    intro w ok
    refine qaa<|c_if E rfl (fun _=>?_) (fun h=>by cases h)
    refine sg<|aw E rfl fun a E=>wp_ret<|qax<|qal ?_
    cases hF
    exact so (sr ⟨rfl,⟨ok.drop.drop,E.d,rz E rfl⟩⟩)
   refine qv E (qae qc6 rfl) fun a E=>qv E (qaj qaq rfl (qab.own 0 rfl rfl)) fun a E=>qv E (qae qa1 rfl) fun a E=>qv E (qaj qaq rfl (qab.own 1 rfl rfl)) fun a E=>?_
   obtain ⟨r62,e63,hF⟩:=bnd hF
   obtain ⟨_,_,⟨_,_⟩,r64⟩:=Go.X.Calls.get (qeg N r_0.Operand r1 e63 hG ok)
   refine qfT E qoo rfl (fun w ok=>(qeg N r_0.Operand r1 e63 hG ok).mono (fun _ _ h=>h.1)) rfl rfl fun a E=>qv E (qbp rfl rfl) fun a E=>qv E (qaT rfl rfl) fun a E=>wpQuiet_nil ?_
   intro w ok
   refine qaa<|cg E rfl hF (fun c65 hF=>?_) fun c65 hF=>?_
   ·refine wp_skip<|qap<|qaa<|qac<|lw E (qaE rfl rfl (InR.inc r46 (qao h4) c47)) fun a E=>mv E rfl fun a E=>wpList_nil ?_
    cases hF
    exact qas ⟨(ok.pk 2 [1] rfl (by decide)),E.keep [1,39,40,41],(InR.inc r46 (qao h4) c47)⟩
   refine sg<|aw E rfl fun a E=>wp_ret<|qax<|qal ?_
   cases hF
   exact so (sr ⟨rfl,⟨ok.drop.drop,E.d,rz E rfl⟩⟩)
 refine fk E ok qa1 qaq rfl 0 rfl rfl fun a E=>fk E ok qcZ qaq rfl 0 rfl rfl fun a E=>bd hF fun r9 e10 hF=>lc E qqU rfl (qiC N r_0.Operand r1 r_0.Mod r2 e10 hG ok) fun w ok a E=>lw E (qa2 rfl) fun a E=>pt E rfl rfl fun a E=>pf E rfl rfl fun a E=>mv E rfl fun a E=>bu E 26 hF (fun c11 hF E=>?_) fun c11 hF E=>?_
 ·refine lsz E fun a E=>pt E rfl rfl fun a E=>mv E rfl fun a E=>lsz E fun a E=>pt E rfl rfl fun a E=>wn<|c_if E rfl (fun _=>?_) (fun h=>by cases h)
  refine sg<|aw E rfl fun a E=>wp_ret<|qal ?_
  exact fin hF ⟨ok.drop,E.d,rz E rfl⟩
 refine fk E ok qbf qbO rfl 0 rfl rfl fun a E=>lv E ok (qaD qbz h4 rfl) fun a E=>lw E (qay rfl rfl) fun a E=>pf E rfl rfl fun a E=>mv E rfl fun a E=>bu E 32 hF (fun c12 hF E=>?_) fun c12 hF E=>?_
 ·refine lsz E fun a E=>pt E rfl rfl fun a E=>wn<|c_if E rfl (fun _=>?_) (fun h=>by cases h)
  refine sg<|aw E rfl fun a E=>wp_ret<|qal ?_
  exact fin hF ⟨ok.drop,E.d,rz E rfl⟩
 refine fk E ok qbf qbO rfl 0 rfl rfl fun a E=>lv E ok (qaD qbz h4 rfl) fun a E=>lw E (qbp rfl rfl) fun a E=>pf E rfl rfl fun a E=>wn<|cf E rfl hF (fun c13 hF=>?_) fun c13 hF=>?_
 ·refine sg<|aw E rfl fun a E=>wp_ret<|qal ?_
  exact fin hF ⟨ok.drop,E.d,rz E rfl⟩
 refine wp_skip<|qaa<|wp_seq<|sg<|fk E ok qbf qbO rfl 0 rfl rfl fun a E=>lv E ok (qaD qbz h4 rfl) fun a E=>mv E rfl fun a E=>wn<|wp_block<|bd hF fun o15 hL hF=>qaF _ (fun (s:Int) a w=>Ok u m0 ([(b5,oc 69 [vi r_0.Operand,vi r_0.Mod,vb r_0.Not,c3])] :: S) w ∧ Env 64 a [(1,vp b5),(39,c3),(40,(vi (r_0.Spans.length:Int))),(41,vi s)] ∧ InR .i64 s) (fun (b:(Unit ⊕ Bool)) e a w=>(Sum.elim (fun b38=>e = (.exit 0) ∧ Ok u m0 ([(b5,oc 69 [vi r_0.Operand,vi r_0.Mod,vb r_0.Not,c3])] :: S) w ∧ Env 64 a []) (fun b39=>e = .ret ∧ qfV u m0 S b39 a w)) b) ?_ ?_ N _ a w hL ⟨ok,E.keep [1,39,40,41],(ir 0)⟩
 rotate_left
 ·intro e a w _ hO
  rcases o15 with o15 | o15
  rotate_left
  ·obtain ⟨rfl,hret⟩:=hO
   refine qax<|qal ?_
   exact fin hF hret
  have hF:=qbT hF
  obtain ⟨rfl,ok,E⟩:=hO
  refine qaN<|qaa<|sg<|aw E rfl fun a E=>wp_ret ?_
  exact fin hF ⟨ok.drop,E.d,rz E rfl⟩
 rintro v17 a w r ⟨ok,E,r18⟩ hF
 replace hF:qcX N r_0 v17 = some r:=hF
 unfold qcX at hF
 refine sg<|lw E (qay rfl rfl) fun a E=>wn<|wp_seq<|cg E rfl hF (fun c19 hF=>?_) fun c19 hF=>?_
 ·refine wp_exit<|qaA ?_
  cases hF
  exact so (sl ⟨rfl,⟨ok,E.keep []⟩⟩)
 refine wp_skip<|qaa<|wp_seq<|wp_block<|sg ?_
 obtain ⟨x20,e21,hF⟩:=bnd hF
 obtain ⟨b22,o23,es24,hl25,rr26,at27,yy28⟩:=ia E 39 41 qbz h4 e21
 obtain ⟨rfl,r29,r30⟩:=rr26
 refine lv E ok (yy28 _ _) fun a E=>lv E ok (qag (cs:=[vi x20.From,vi x20.To]) qdJ rfl rfl (qab.ro at27)) fun a E=>qaB E ok qcE rfl rfl fun b31 a w E ok=>qad E ok 0 rfl rfl rfl qfi rfl rfl ⟨rfl,rfl,trivial⟩ rfl rfl fun w ok=>wn<|wp_seq<|qeU (by kernel_rfl) (by kernel_rfl) ok<|qv E (qae qd6 rfl) fun a E=>qv E (qaj qaq rfl (qab.own 0 rfl rfl)) fun a E=>qv E (qay rfl rfl) fun a E=>qv E (qah rfl) fun a E=>bu E 48 hF (fun c32 hF E=>?_) fun c32 hF E=>?_
 ·refine qs E fun a E=>qs E fun a E=>qs E fun a E=>qs E fun a E=>qs E fun a E=>qv E (qaY rfl rfl) fun a E=>qv E (qah rfl) fun a E=>qs E fun a E=>qs E fun a E=>qs E fun a E=>qs E fun a E=>qs E fun a E=>qs E fun a E=>qv E (qaY rfl rfl) fun a E=>wpQuiet_nil ?_
  intro w ok
  refine qaa<|c_if E rfl (fun _=>?_) (fun h=>by cases h)
  refine sg<|aw E rfl fun a E=>wp_ret<|qax<|qal ?_
  cases hF
  exact so (sr ⟨rfl,⟨ok.drop.drop,E.d,rz E rfl⟩⟩)
 refine qv E (qae qd6 rfl) fun a E=>qv E (qaj qaq rfl (qab.own 0 rfl rfl)) fun a E=>qv E (qae qc6 rfl) fun a E=>qv E (qaj qaq rfl (qab.own 0 rfl rfl)) fun a E=>qv E (qbp rfl rfl) fun a E=>qv E (qaT rfl rfl) fun a E=>qv E (qah rfl) fun a E=>bu E 55 hF (fun c33 hF E=>?_) fun c33 hF E=>?_
 ·refine qs E fun a E=>qs E fun a E=>qs E fun a E=>qs E fun a E=>qs E fun a E=>qs E fun a E=>qv E (qaY rfl rfl) fun a E=>wpQuiet_nil ?_
  intro w ok
  refine qaa<|c_if E rfl (fun _=>?_) (fun h=>by cases h)
  refine sg<|aw E rfl fun a E=>wp_ret<|qax<|qal ?_
  cases hF
  exact so (sr ⟨rfl,⟨ok.drop.drop,E.d,rz E rfl⟩⟩)
 refine qv E (qae qc6 rfl) fun a E=>qv E (qaj qaq rfl (qab.own 0 rfl rfl)) fun a E=>qv E (qae qa1 rfl) fun a E=>qv E (qaj qaq rfl (qab.own 1 rfl rfl)) fun a E=>?_
 obtain ⟨r34,e35,hF⟩:=bnd hF
 obtain ⟨_,_,⟨_,_⟩,r36⟩:=Go.X.Calls.get (qeg N r_0.Operand r1 e35 hG ok)
 refine qfT E qoo rfl (fun w ok=>(qeg N r_0.Operand r1 e35 hG ok).mono (fun _ _ h=>h.1)) rfl rfl fun a E=>qv E (qbp rfl rfl) fun a E=>qv E (qaT rfl rfl) fun a E=>wpQuiet_nil ?_
 intro w ok
 refine qaa<|cg E rfl hF (fun c37 hF=>?_) fun c37 hF=>?_
 ·refine wp_skip<|qap<|qaa<|qac<|lw E (qaE rfl rfl (InR.inc r18 (qao h4) c19)) fun a E=>mv E rfl fun a E=>wpList_nil ?_
  cases hF
  exact qas ⟨(ok.pk 2 [1] rfl (by decide)),E.keep [1,39,40,41],(InR.inc r18 (qao h4) c19)⟩
 refine sg<|aw E rfl fun a E=>wp_ret<|qax<|qal ?_
 cases hF
 exact so (sr ⟨rfl,⟨ok.drop.drop,E.d,rz E rfl⟩⟩)
def qji (u:World) (m0:Mem) (S:Segs) (r:Bool) (a:Act) (w:World):Prop :=
 Ok u m0 S w ∧ a.defers = [] ∧ RVs Tryz.prog a w [.t 2 (.bool r)]
theorem qjB (N:Nat) (vr_0:List Value) (r_0:Relation) (hr_0:qak m0 vr_0 r_0) {r:Bool} (hF:qfg N r_0 = some r) (hG:Glob u) (ok:Ok u m0 S w) :
  Calls Tryz.prog 81 [.agg vr_0.toArray].toArray w fun e w'=>(e = .returned (.bool r) ∧ Ok u m0 S w'):=by
 obtain ⟨c3,rfl,r1,r2,h4⟩:=hr_0
 unfold qfg at hF
 refine en (qji u m0 S) r Tryz.func81 rfl rfl rfl (fun _ _ h=>ra h rfl) fun fin a E=>sg<|qb8 E ok rfl rfl rfl fun b5 a w E ok=>aw E rfl fun a E=>sg<|lv E ok (qag (cs:=[vi r_0.Operand,vi r_0.Mod,vb r_0.Not,c3]) qbr rfl rfl (qab.own 0 rfl rfl)) fun a E=>bd hF fun r6 e7 hF=>lc E qsc rfl (qj8 N _ r_0 ⟨_,rfl,r1,r2,h4⟩ e7 hG ok) fun w ok a E=>lw E (qa2 rfl) fun a E=>aw E rfl fun a E=>wp_ret ?_
 exact fin hF ⟨ok.drop,E.d,rz E rfl⟩
def qcD (u:World) (m0:Mem) (S:Segs) (r:Int) (a:Act) (w:World):Prop :=
 Ok u m0 S w ∧ a.defers = [] ∧ RVs Tryz.prog a w [.t 4 (.int .i64 r)] ∧ InR .i64 r
theorem qeA (N:Nat) (vs_0:Value) (s_0:List (Relation)) (hs_0:(pL 4 qak) m0 [vs_0] s_0) {r:Int} (hF:qbq N s_0 = some r) (hG:Glob u) (ok:Ok u m0 S w) :
  Calls Tryz.prog 106 [vs_0,.func (.func 81) #[] #[]].toArray w fun e w'=>(e = .returned (.int .i64 r) ∧ Ok u m0 S w') ∧ InR .i64 r:=by
 unfold qbq at hF
 refine en (qcD u m0 S) r Tryz.func106 rfl rfl rfl (fun _ _ h=>rb h rfl) fun fin a E=>sg<|aw E rfl fun a E=>wp_seq<|sg<|mv E rfl fun a E=>lv E ok (qaD qbk hs_0 rfl) fun a E=>mv E rfl fun a E=>wn<|wp_block<|bd hF fun o2 hL hF=>qaF _ (fun (s:Int) a w=>Ok u m0 (S) w ∧ Env 19 a [(0,vs_0),(1,(Value.func (.func 81) #[] #[])),(7,(vi (s_0.length:Int))),(8,vi s)] ∧ InR .i64 s) (fun (b:(Unit ⊕ Int)) e a w=>(Sum.elim (fun b23=>e = (.exit 0) ∧ Ok u m0 (S) w ∧ Env 19 a []) (fun b24=>e = .ret ∧ qcD u m0 S b24 a w)) b) ?_ ?_ N _ a w hL ⟨ok,E.keep [0,1,7,8],(ir 0)⟩
 rotate_left
 ·intro e a w _ hO
  rcases o2 with o2 | o2
  rotate_left
  ·obtain ⟨rfl,hret⟩:=hO
   refine qax<|qal ?_
   exact fin hF hret
  have hF:=qbT hF
  obtain ⟨rfl,ok,E⟩:=hO
  refine qaN<|qaa<|sg<|aw E rfl fun a E=>wp_ret ?_
  exact fin hF ⟨ok,E.d,rz E rfl,(ir (-1))⟩
 rintro v4 a w r ⟨ok,E,r5⟩ hF
 replace hF:qa3 N s_0 v4 = some r:=hF
 unfold qa3 at hF
 refine sg<|lw E (qay rfl rfl) fun a E=>wn<|wp_seq<|cg E rfl hF (fun c6 hF=>?_) fun c6 hF=>?_
 ·refine wp_exit<|qaA ?_
  cases hF
  exact so (sl ⟨rfl,⟨ok,E.keep []⟩⟩)
 refine wp_skip<|qaa<|wp_seq<|wp_block<|sg<|mv E rfl fun a E=>av E rfl fun a E=>wn<|sg<|mz E rfl rfl fun a E=>mv E rfl fun a E=>?_
 obtain ⟨x7,e8,hF⟩:=bnd hF
 obtain ⟨b9,o10,es11,hl12,rr13,at14,yy15⟩:=ia E 12 13 qbk hs_0 e8
 obtain ⟨c18,rfl,r16,r17,h19⟩:=rr13
 refine lv E ok (yy15 _ _) fun a E=>lv E ok (qag (cs:=[vi x7.Operand,vi x7.Mod,vb x7.Not,c18]) qbr rfl rfl (qab.ro at14)) fun a E=>bd hF fun r20 e21 hF=>qnP E rfl qrP rfl (qjB N _ x7 ⟨_,rfl,r16,r17,h19⟩ e21 hG ok) rfl rfl ?_
 rintro _ w ⟨rfl,ok⟩
 refine ⟨_,rfl,fun a E=>?_⟩
 refine wn<|cg E rfl hF (fun c22 hF=>?_) fun c22 hF=>?_
 ·refine wp_skip<|qap<|qaa<|qac<|lw E (qaE rfl rfl (InR.inc r5 (qao hs_0) c6)) fun a E=>mv E rfl fun a E=>wpList_nil ?_
  cases hF
  exact qas ⟨ok,E.keep [0,1,7,8],(InR.inc r5 (qao hs_0) c6)⟩
 refine sg<|mv E rfl fun a E=>aw E rfl fun a E=>wp_ret<|qax<|qal ?_
 cases hF
 exact so (sr ⟨rfl,⟨ok,E.d,rz E rfl,r5⟩⟩)
def qd8 (u:World) (m0:Mem) (S:Segs) (r:Bool) (a:Act) (w:World):Prop :=
 Ok u m0 S w ∧ a.defers = [] ∧ RVs Tryz.prog a w [.t 4 (.bool r)]
theorem qeb (N:Nat) (vs_0:Value) (s_0:List (Relation)) (hs_0:(pL 4 qak) m0 [vs_0] s_0) {r:Bool} (hF:qa4 N s_0 = some r) (hG:Glob u) (ok:Ok u m0 S w) :
  Calls Tryz.prog 69 [vs_0,.func (.func 81) #[] #[]].toArray w fun e w'=>(e = .returned (.bool r) ∧ Ok u m0 S w'):=by
 unfold qa4 at hF
 refine en (qd8 u m0 S) r Tryz.func69 rfl rfl rfl (fun _ _ h=>ra h rfl) fun fin a E=>sg<|aw E rfl fun a E=>sg<|mz E rfl rfl fun a E=>bd hF fun r1 e2 hF=>qan E qo3 rfl (qeA N _ s_0 hs_0 e2 hG ok) rfl rfl ?_
 rintro _ w ⟨⟨rfl,ok⟩,r3⟩
 refine ⟨_,rfl,fun a E=>?_⟩
 refine lw E (qgd rfl rfl) fun a E=>aw E rfl fun a E=>wp_ret ?_
 exact fin hF ⟨ok,E.d,rz E rfl⟩
def qht (u:World) (m0:Mem) (S:Segs) (r:Bool) (a:Act) (w:World):Prop :=
 Ok u m0 S w ∧ a.defers = [] ∧ RVs Tryz.prog a w [.t 2 (.bool r)]
theorem qgi (N:Nat) (vc_0:Value) (c_0:List (List (Relation))) (hc_0:(pL 1 (pL 4 qak)) m0 [vc_0] c_0) {r:Bool} (hF:qdq N c_0 = some r) (hG:Glob u) (ok:Ok u m0 S w) :
  Calls Tryz.prog 37 [vc_0].toArray w fun e w'=>(e = .returned (.bool r) ∧ Ok u m0 S w'):=by
 unfold qdq at hF
 refine en (qht u m0 S) r Tryz.func37 rfl rfl rfl (fun _ _ h=>ra h rfl) fun fin a E=>sg<|aw E rfl fun a E=>sg<|aw E rfl fun a E=>wp_seq<|sg<|mv E rfl fun a E=>lv E ok (qaD qcv hc_0 rfl) fun a E=>mv E rfl fun a E=>wn<|wp_block<|bd hF fun o3 hL hF=>qaF _ (fun (s:Int × Int) a w=>Ok u m0 (S) w ∧ Env 31 a [(0,vc_0),(3,vi s.1),(6,vc_0),(7,(vi (c_0.length:Int))),(8,vi s.2)] ∧ InR .i64 s.1 ∧ InR .i64 s.2) (fun (b:(Int ⊕ Bool)) e a w=>(Sum.elim (fun b28=>e = (.exit 0) ∧ Ok u m0 (S) w ∧ Env 31 a [(0,vc_0),(3,vi b28)] ∧ InR .i64 b28) (fun b30=>e = .ret ∧ qht u m0 S b30 a w)) b) ?_ ?_ N _ a w hL ⟨ok,E.keep [0,3,6,7,8],(ir 0),(ir 0)⟩
 rotate_left
 ·intro e a w _ hO
  rcases o3 with o3 | o3
  rotate_left
  ·obtain ⟨rfl,hret⟩:=hO
   refine qax<|qal ?_
   exact fin hF hret
  have hF:=qbT hF
  obtain ⟨rfl,ok,E,r26⟩:=hO
  refine qaN<|qaa<|sg<|mv E rfl fun a E=>lv E ok (qaD qcv hc_0 rfl) fun a E=>lw E (qbp rfl rfl) fun a E=>mv E rfl fun a E=>bu E 27 hF (fun c27 hF E=>?_) fun c27 hF E=>?_
  ·refine mv E rfl fun a E=>lw E (qf7 rfl rfl) fun a E=>pt E rfl rfl fun a E=>aw E rfl fun a E=>wp_ret ?_
   exact fin hF ⟨ok,E.d,rz E rfl⟩
  refine lsq E fun a E=>pf E rfl rfl fun a E=>aw E rfl fun a E=>wp_ret ?_
  exact fin hF ⟨ok,E.d,rz E rfl⟩
 rintro ⟨v6,v7⟩ a w r ⟨ok,E,r8,r9⟩ hF
 replace hF:qcf N c_0 v6 v7 = some r:=hF
 unfold qcf at hF
 refine sg<|lw E (qay rfl rfl) fun a E=>wn<|wp_seq<|cg E rfl hF (fun c10 hF=>?_) fun c10 hF=>?_
 ·refine wp_exit<|qaA ?_
  cases hF
  exact so (sl ⟨rfl,⟨ok,E.keep [0,3],r8⟩⟩)
 refine wp_skip<|qaa<|wp_seq<|wp_block<|sg ?_
 obtain ⟨x11,e12,hF⟩:=bnd hF
 obtain ⟨b13,o14,es15,hl16,rr17,at18,yy19⟩:=ia E 6 8 qcv hc_0 e12
 obtain ⟨c20,rfl,h21⟩:=qcz rr17
 refine lv E ok (yy19 _ _) fun a E=>lv E ok (qaj qcN rfl (qab.ro at18)) fun a E=>aw E rfl fun a E=>wp_seq<|sg<|mv E rfl fun a E=>lv E ok (qaD qbk h21 rfl) fun a E=>lw E (qau rfl rfl) fun a E=>mv E rfl fun a E=>bu E 15 hF (fun c22 hF E=>?_) fun c22 hF E=>?_
 ·refine lsq E fun a E=>pt E rfl rfl fun a E=>wn<|c_if E rfl (fun _=>?_) (fun h=>by cases h)
  refine sg<|aw E rfl fun a E=>wp_ret<|qal<|qax<|qal ?_
  cases hF
  exact so (sr ⟨rfl,⟨ok,E.d,rz E rfl⟩⟩)
 refine mv E rfl fun a E=>bd hF fun r23 e24 hF=>lc E qpM rfl (qeb N _ x11 h21 e24 hG ok) fun w ok a E=>pf E rfl rfl fun a E=>wn<|cf E rfl hF (fun c25 hF=>?_) fun c25 hF=>?_
 ·refine sg<|aw E rfl fun a E=>wp_ret<|qal<|qax<|qal ?_
  cases hF
  exact so (sr ⟨rfl,⟨ok,E.d,rz E rfl⟩⟩)
 refine wp_skip<|qaa<|qac<|mz E rfl rfl fun a E=>lv E ok (qaD qbk h21 rfl) fun a E=>lw E (qcc rfl rfl) fun a E=>av E rfl fun a E=>wpList_nil<|qap<|qaa<|qac<|lw E (qaE rfl rfl (InR.inc r9 (qao hc_0) c10)) fun a E=>mv E rfl fun a E=>wpList_nil ?_
 cases hF
 exact qas ⟨ok,E.keep [0,3,6,7,8],(InR.wrap _ _),(InR.inc r9 (qao hc_0) c10)⟩
def qkD (u:World) (m0:Mem) (S:Segs) (r:Int) (a:Act) (w:World):Prop :=
 Ok u m0 S w ∧ a.defers = [] ∧ RVs Tryz.prog a w [.t 2 (.int .i64 r)] ∧ InR .i64 r
theorem qhs (N:Nat) (vr_0:List Value) (r_0:Relation) (hr_0:qak m0 vr_0 r_0) {r:Int} (hF:qdl N r_0 = some r) (hG:Glob u) (ok:Ok u m0 S w) :
  Calls Tryz.prog 38 [.agg vr_0.toArray].toArray w fun e w'=>(e = .returned (.int .i64 r) ∧ Ok u m0 S w') ∧ InR .i64 r:=by
 obtain ⟨c3,rfl,r1,r2,h4⟩:=hr_0
 unfold qdl at hF
 refine en (qkD u m0 S) r Tryz.func38 rfl rfl rfl (fun _ _ h=>rb h rfl) fun fin a E=>sg<|qb8 E ok rfl rfl rfl fun b5 a w E ok=>aw E rfl fun a E=>sg<|aw E rfl fun a E=>wp_seq<|sg<|fv E qbf rfl fun a E=>ld E ok qbO 0 rfl rfl rfl fun a E=>lv E ok (qaD qbz h4 rfl) fun a E=>mv E rfl fun a E=>wn<|wp_block<|bd hF fun o8 hL hF=>qaF _ (fun (s:Int × Int) a w=>Ok u m0 ([(b5,oc 69 [vi r_0.Operand,vi r_0.Mod,vb r_0.Not,c3])] :: S) w ∧ Env 19 a [(3,vi s.1),(7,c3),(8,(vi (r_0.Spans.length:Int))),(9,vi s.2)] ∧ InR .i64 s.1 ∧ InR .i64 s.2) (fun (b:Int) e a w=>e = (.exit 0) ∧ Ok u m0 ([(b5,oc 69 [vi r_0.Operand,vi r_0.Mod,vb r_0.Not,c3])] :: S) w ∧ Env 19 a [(3,vi b)] ∧ InR .i64 b) ?_ ?_ N _ a w hL ⟨ok,E.keep [3,7,8,9],(ir 0),(ir 0)⟩
 rotate_left
 ·intro e a w _ hO
  obtain ⟨rfl,ok,E,r28⟩:=hO
  refine qaN<|qaa<|sg<|mv E rfl fun a E=>aw E rfl fun a E=>wp_ret ?_
  exact fin hF ⟨ok.drop,E.d,rz E rfl,r28⟩
 rintro ⟨v11,v12⟩ a w r ⟨ok,E,r13,r14⟩ hF
 replace hF:qce N r_0 v11 v12 = some r:=hF
 unfold qce at hF
 refine sg<|lw E (qay rfl rfl) fun a E=>wn<|wp_seq<|cg E rfl hF (fun c15 hF=>?_) fun c15 hF=>?_
 ·refine wp_exit<|qaA ?_
  cases hF
  exact so (⟨rfl,⟨ok,E.keep [3],r13⟩⟩)
 refine wp_skip<|qaa<|wp_seq<|wp_block<|sg ?_
 obtain ⟨x16,e17,hF⟩:=bnd hF
 obtain ⟨b18,o19,es20,hl21,rr22,at23,yy24⟩:=ia E 7 9 qbz h4 e17
 obtain ⟨rfl,r25,r26⟩:=rr22
 refine lv E ok (yy24 _ _) fun a E=>lv E ok (qag (cs:=[vi x16.From,vi x16.To]) qdJ rfl rfl (qab.ro at23)) fun a E=>qaB E ok qcE rfl rfl fun b27 a w E ok=>qad E ok 0 rfl rfl rfl qfi rfl rfl ⟨rfl,rfl,trivial⟩ rfl rfl fun w ok=>wn<|qac<|mv E rfl fun a E=>fk E ok qc6 qaq rfl 0 rfl rfl fun a E=>lw E (qpF rfl rfl) fun a E=>av E rfl fun a E=>wpList_nil<|qap<|qaa<|qac<|lw E (qaE rfl rfl (InR.inc r14 (qao h4) c15)) fun a E=>mv E rfl fun a E=>wpList_nil ?_
 cases hF
 exact qas ⟨(ok.pk 2 [1] rfl (by decide)),E.keep [3,7,8,9],(InR.max r13 r26),(InR.inc r14 (qao h4) c15)⟩
def qlK (u:World) (m0:Mem) (S:Segs) (r:Int × Int) (a:Act) (w:World):Prop :=
 Ok u m0 S w ∧ a.defers = [] ∧ RVs Tryz.prog a w [.t 2 (.int .i64 r.1),.t 3 (.int .i64 r.2)] ∧ InR .i64 r.1 ∧ InR .i64 r.2
theorem qh9 (N:Nat) (vc_0:Value) (c_0:List (List (Relation))) (hc_0:(pL 1 (pL 4 qak)) m0 [vc_0] c_0) {r:Int × Int} (hF:qeQ N c_0 = some r) (hG:Glob u) (ok:Ok u m0 S w) :
  Calls Tryz.prog 12 [vc_0].toArray w fun e w'=>(e = .returned (.tuple [(.int .i64 r.1),(.int .i64 r.2)].toArray) ∧ Ok u m0 S w') ∧ InR .i64 r.1 ∧ InR .i64 r.2:=by
 unfold qeQ at hF
 refine en (qlK u m0 S) r Tryz.func12 rfl rfl rfl (by rintro a w ⟨ok,hd,hrv,h0,h1⟩; exact qbS [.t 2 (.int .i64 r.1),.t 3 (.int .i64 r.2)] hd rfl hrv ⟨⟨rfl,ok⟩,h0,h1⟩) fun fin a E=>sg<|av E rfl fun a E=>aw E rfl fun a E=>wp_seq<|sg<|mv E rfl fun a E=>bd hF fun r1 e2 hF=>lc E qn6 rfl (qgi N _ c_0 hc_0 e2 hG ok) fun w ok a E=>lw E (qa2 rfl) fun a E=>wn<|cf E rfl hF (fun c3 hF=>?_) fun c3 hF=>?_
 ·refine sg<|av E rfl fun a E=>aw E rfl fun a E=>wp_ret<|qal ?_
  exact fin hF ⟨ok,E.d,⟨rv_t E rfl,rv_t E rfl,trivial⟩,(ir 0),(ir 1)⟩
 refine wp_skip<|qaa<|sg<|aw E rfl fun a E=>wp_seq<|sg<|mv E rfl fun a E=>lv E ok (qaD qcv hc_0 rfl) fun a E=>mv E rfl fun a E=>wn<|wp_block<|bd hF fun o6 hL hF=>qaF _ (fun (s:Int × Int) a w=>Ok u m0 (S) w ∧ Env 45 a [(4,vi s.1),(13,vc_0),(14,(vi (c_0.length:Int))),(15,vi s.2)] ∧ InR .i64 s.1 ∧ InR .i64 s.2) (fun (b:Int) e a w=>e = (.exit 0) ∧ Ok u m0 (S) w ∧ Env 45 a [(4,vi b)] ∧ InR .i64 b) ?_ ?_ N _ a w hL ⟨ok,E.keep [4,13,14,15],(ir 1),(ir 0)⟩
 rotate_left
 ·intro e a w _ hO
  obtain ⟨rfl,ok,E,r62⟩:=hO
  refine qaN<|qaa<|sg<|mv E rfl fun a E=>av E rfl fun a E=>av E rfl fun a E=>wn<|wp_ret ?_
  exact fin hF ⟨ok,E.d,⟨rv_t E rfl,rv_t E rfl,trivial⟩,r62,(ir 0)⟩
 rintro ⟨v9,v10⟩ a w r ⟨ok,E,r11,r12⟩ hF
 replace hF:qc7 N c_0 v9 v10 = some r:=hF
 unfold qc7 at hF
 refine sg<|lw E (qay rfl rfl) fun a E=>wn<|wp_seq<|cg E rfl hF (fun c13 hF=>?_) fun c13 hF=>?_
 ·refine wp_exit<|qaA ?_
  cases hF
  exact so (⟨rfl,⟨ok,E.keep [4],r11⟩⟩)
 refine wp_skip<|qaa<|wp_seq<|wp_block<|sg ?_
 obtain ⟨x14,e15,hF⟩:=bnd hF
 obtain ⟨b16,o17,es18,hl19,rr20,at21,yy22⟩:=ia E 13 15 qcv hc_0 e15
 obtain ⟨c23,rfl,h24⟩:=qcz rr20
 refine lv E ok (yy22 _ _) fun a E=>lv E ok (qaj qcN rfl (qab.ro at21)) fun a E=>aw E rfl fun a E=>sg<|mv E rfl fun a E=>lv E ok (qaD qbk h24 rfl) fun a E=>mv E rfl fun a E=>wn<|wp_block<|bd hF fun o27 hL hF=>qaF _ (fun (s:Int × Int) a w=>Ok u m0 (S) w ∧ Env 45 a [(4,vi s.1),(13,vc_0),(14,(vi (c_0.length:Int))),(15,vi v10),(19,c23),(20,(vi (x14.length:Int))),(21,vi s.2)] ∧ InR .i64 s.1 ∧ InR .i64 s.2) (fun (b:Int) e a w=>e = (.exit 2) ∧ Ok u m0 (S) w ∧ Env 45 a [(4,vi b),(13,vc_0),(14,(vi (c_0.length:Int))),(15,vi v10)] ∧ InR .i64 b) ?_ ?_ N _ a w hL ⟨ok,E.keep [4,13,14,15,19,20,21],r11,(ir 0)⟩
 rotate_left
 ·intro e a w _ hO
  obtain ⟨rfl,ok,E,r60⟩:=hO
  refine qaN<|qap<|qaa<|qac<|lw E (qaE rfl rfl (InR.inc r12 (qao hc_0) c13)) fun a E=>mv E rfl fun a E=>wpList_nil ?_
  cases hF
  exact qas ⟨ok,E.keep [4,13,14,15],r60,(InR.inc r12 (qao hc_0) c13)⟩
 rintro ⟨v30,v31⟩ a w r ⟨ok,E,r32,r33⟩ hF
 replace hF:qc4 N x14 v30 v31 = some r:=hF
 unfold qc4 at hF
 refine sg<|lw E (qay rfl rfl) fun a E=>wn<|wp_seq<|cg E rfl hF (fun c34 hF=>?_) fun c34 hF=>?_
 ·refine wp_exit<|qaA ?_
  cases hF
  exact so (⟨rfl,⟨ok,E.keep [4,13,14,15],r32⟩⟩)
 refine wp_skip<|qaa<|wp_seq<|wp_block<|sg ?_
 obtain ⟨x35,e36,hF⟩:=bnd hF
 obtain ⟨b37,o38,es39,hl40,rr41,at42,yy43⟩:=ia E 19 21 qbk h24 e36
 obtain ⟨c46,rfl,r44,r45,h47⟩:=rr41
 refine lv E ok (yy43 _ _) fun a E=>lv E ok (qag (cs:=[vi x35.Operand,vi x35.Mod,vb x35.Not,c46]) qbr rfl rfl (qab.ro at42)) fun a E=>qaB E ok qcW rfl rfl fun b48 a w E ok=>qad E ok 0 rfl rfl rfl qf3 rfl rfl ⟨rfl,rfl,rfl,(qcO h47),trivial⟩ rfl rfl fun w ok=>wn<|sg<|fk E ok qcZ qaq rfl 0 rfl rfl fun a E=>aw E rfl fun a E=>wp_seq<|sg<|mv E rfl fun a E=>lw E (qau rfl rfl) fun a E=>wn<|bd hF fun o49 hJ hF=>qaL (Q':=fun e a w=>e = .normal ∧ Ok u m0 ([(b48,oc 69 [vi x35.Operand,vi x35.Mod,vb x35.Not,c46])] :: S) w ∧ Env 45 a [(4,vi v30),(8,vp b48),(9,vi o49),(13,vc_0),(14,(vi (c_0.length:Int))),(15,vi v10),(19,c23),(20,(vi (x14.length:Int))),(21,vi v31)] ∧ InR .i64 o49) ?_ ?_
 ·have hF:=hJ
  refine cg E rfl hF (fun c51 hF=>?_) fun c51 hF=>?_
  ·refine wp_skip ?_
   cases hF
   exact ⟨rfl,⟨ok,E.keep [4,8,9,13,14,15,19,20,21],r45⟩⟩
  refine qac<|lv E ok (qag (cs:=[vi x35.Operand,vi x35.Mod,vb x35.Not,c46]) qbr rfl rfl (qab.own 0 rfl rfl)) fun a E=>bd hF fun r52 e53 hF=>qan E qpV rfl (qhs N _ x35 ⟨_,rfl,r44,r45,h47⟩ e53 hG ok) rfl rfl ?_
  rintro _ w ⟨⟨rfl,ok⟩,r54⟩
  refine ⟨_,rfl,fun a E=>?_⟩
  refine lw E (qcc rfl rfl) fun a E=>av E rfl fun a E=>wpList_nil ?_
  cases hF
  exact ⟨rfl,⟨ok,E.keep [4,8,9,13,14,15,19,20,21],(InR.wrap _ _)⟩⟩
 intro e a w hO
 obtain ⟨rfl,ok,E,r55⟩:=hO
 refine qaa<|wp_seq<|sg<|fk E ok qa1 qaq rfl 0 rfl rfl fun a E=>lw E (qau rfl rfl) fun a E=>wn<|bd hF fun o56 hJ hF=>qaL (Q':=fun e a w=>e = .normal ∧ Ok u m0 ([(b48,oc 69 [vi x35.Operand,vi x35.Mod,vb x35.Not,c46])] :: S) w ∧ Env 45 a [(4,vi v30),(9,vi o56),(13,vc_0),(14,(vi (c_0.length:Int))),(15,vi v10),(19,c23),(20,(vi (x14.length:Int))),(21,vi v31)] ∧ InR .i64 o56) ?_ ?_
 ·have hF:=hJ
  refine cg E rfl hF (fun c58 hF=>?_) fun c58 hF=>?_
  ·refine wp_skip ?_
   cases hF
   exact ⟨rfl,⟨ok,E.keep [4,9,13,14,15,19,20,21],r55⟩⟩
  refine qac<|mz E rfl rfl fun a E=>lw E (qhV rfl rfl) fun a E=>av E rfl fun a E=>wpList_nil ?_
  cases hF
  exact ⟨rfl,⟨ok,E.keep [4,9,13,14,15,19,20,21],(InR.wrap _ _)⟩⟩
 intro e a w hO
 obtain ⟨rfl,ok,E,r59⟩:=hO
 refine qaa<|qac<|mz E rfl rfl fun a E=>lw E (qhV rfl rfl) fun a E=>lw E (qoa rfl rfl) fun a E=>av E rfl fun a E=>wpList_nil<|qap<|qaa<|qac<|lw E (qaE rfl rfl (InR.inc r33 (qao h24) c34)) fun a E=>mv E rfl fun a E=>wpList_nil ?_
 cases hF
 exact qas ⟨(ok.pk 1 [] rfl (by decide)),E.keep [4,13,14,15,19,20,21],(InR.min (InR.wrap _ _) (ir 1000000)),(InR.inc r33 (qao h24) c34)⟩
def qiE (u:World) (m0:Mem) (S:Segs) (r:Bool) (a:Act) (w:World):Prop :=
 Ok u m0 S w ∧ a.defers = [] ∧ RVs Tryz.prog a w [.t 2 (.bool r)]
theorem qmh (N:Nat) (vl_0:Value) (l_0:List (List (List (Relation)))) (hl_0:(pL 1 (pL 1 (pL 4 qak))) m0 [vl_0] l_0) {r:Bool} (hF:qhP N l_0 = some r) (hG:Glob u) (ok:Ok u m0 S w) :
  Calls Tryz.prog 60 [vl_0].toArray w fun e w'=>(e = .returned (.bool r) ∧ Ok u m0 S w'):=by
 unfold qhP at hF
 refine en (qiE u m0 S) r Tryz.func60 rfl rfl rfl (fun _ _ h=>ra h rfl) fun fin a E=>sg<|aw E rfl fun a E=>wp_seq<|sg<|mv E rfl fun a E=>lv E ok (qaD qeE hl_0 rfl) fun a E=>mv E rfl fun a E=>wn<|wp_block<|bd hF fun o2 hL hF=>qaF _ (fun (s:Int) a w=>Ok u m0 (S) w ∧ Env 18 a [(0,vl_0),(5,vl_0),(6,(vi (l_0.length:Int))),(7,vi s)] ∧ InR .i64 s) (fun (b:(Unit ⊕ Bool)) e a w=>(Sum.elim (fun b21=>e = (.exit 0) ∧ Ok u m0 (S) w ∧ Env 18 a [(0,vl_0)]) (fun b22=>e = .ret ∧ qiE u m0 S b22 a w)) b) ?_ ?_ N _ a w hL ⟨ok,E.keep [0,5,6,7],(ir 0)⟩
 rotate_left
 ·intro e a w _ hO
  rcases o2 with o2 | o2
  rotate_left
  ·obtain ⟨rfl,hret⟩:=hO
   refine qax<|qal ?_
   exact fin hF hret
  have hF:=qbT hF
  obtain ⟨rfl,ok,E⟩:=hO
  refine qaN<|qaa<|sg<|mv E rfl fun a E=>lv E ok (qaD qeE hl_0 rfl) fun a E=>lw E (qf7 rfl rfl) fun a E=>av E rfl fun a E=>wn<|wp_ret ?_
  exact fin hF ⟨ok,E.d,rz E rfl⟩
 rintro v4 a w r ⟨ok,E,r5⟩ hF
 replace hF:qgH N l_0 v4 = some r:=hF
 unfold qgH at hF
 refine sg<|lw E (qay rfl rfl) fun a E=>wn<|wp_seq<|cg E rfl hF (fun c6 hF=>?_) fun c6 hF=>?_
 ·refine wp_exit<|qaA ?_
  cases hF
  exact so (sl ⟨rfl,⟨ok,E.keep [0]⟩⟩)
 refine wp_skip<|qaa<|wp_seq<|wp_block<|sg ?_
 obtain ⟨x7,e8,hF⟩:=bnd hF
 obtain ⟨b9,o10,es11,hl12,rr13,at14,yy15⟩:=ia E 5 7 qeE hl_0 e8
 obtain ⟨c16,rfl,h17⟩:=qcz rr13
 refine lv E ok (yy15 _ _) fun a E=>lv E ok (qaj qfS rfl (qab.ro at14)) fun a E=>aw E rfl fun a E=>sg<|mv E rfl fun a E=>bd hF fun r18 e19 hF=>lc E qn6 rfl (qgi N _ x7 h17 e19 hG ok) fun w ok a E=>lw E (qa2 rfl) fun a E=>wn<|cg E rfl hF (fun c20 hF=>?_) fun c20 hF=>?_
 ·refine wp_skip<|qap<|qaa<|qac<|lw E (qaE rfl rfl (InR.inc r5 (qao hl_0) c6)) fun a E=>mv E rfl fun a E=>wpList_nil ?_
  cases hF
  exact qas ⟨ok,E.keep [0,5,6,7],(InR.inc r5 (qao hl_0) c6)⟩
 refine sg<|aw E rfl fun a E=>wp_ret<|qax<|qal ?_
 cases hF
 exact so (sr ⟨rfl,⟨ok,E.d,rz E rfl⟩⟩)
def qjN (u:World) (m0:Mem) (S:Segs) (r:(List (Relation))) (a:Act) (w:World):Prop :=
 ∃ m1 v0,m0.le m1 ∧ Ok u m1 S w ∧ a.defers = [] ∧ RVs Tryz.prog a w [.t 2 v0] ∧ (pL 4 qak) m1 [v0] r
theorem qhi (N:Nat) (vc_0:Value) (c_0:List (List (Relation))) (hc_0:(pL 1 (pL 4 qak)) m0 [vc_0] c_0) {r:(List (Relation))} (hF:qdL N c_0 = some r) (hG:Glob u) (ok:Ok u m0 S w) :
  Calls Tryz.prog 47 [vc_0].toArray w fun e w'=>∃ m1 v0,e = .returned v0 ∧ m0.le m1 ∧ Ok u m1 S w' ∧ (pL 4 qak) m1 [v0] r:=by
 have le_m0:=Mem.le.refl m0
 unfold qdL at hF
 refine en (qjN u m0 S) r Tryz.func47 rfl rfl rfl (fun _ _ h=>rc h fun _=>rfl) fun fin a E=>sg<|aw E rfl fun a E=>sg<|aw E rfl fun a E=>wp_seq<|sg<|mv E rfl fun a E=>lv E ok (qaD qcv hc_0 rfl) fun a E=>mv E rfl fun a E=>wn<|wp_block ?_
 obtain ⟨M6,ok,h7⟩:=qes (e:=69) (k:=4) (R:=qak) ok
 refine bd hF fun o8 hL hF=>qaF _ (fun (s:(List (Relation)) × Int) a w=>∃ c9 M10,Ok u m0 (M10 :: S) w ∧ Env 17 a [(3,c9),(6,vc_0),(7,(vi (c_0.length:Int))),(8,vi s.2)] ∧ ORow 69 4 qak m0 c9 s.1 M10 ∧ InR .i64 s.2) (fun (b:((List (Relation)))) e a w=>e = (.exit 0) ∧ ∃ c41 M42,Ok u m0 (M42 :: S) w ∧ Env 17 a [(3,c41)] ∧ ORow 69 4 qak m0 c41 b M42) ?_ ?_ N _ a w hL ⟨(Value.slice none 0 0),M6,ok,E.keep [3,6,7,8],h7,(ir 0)⟩
 rotate_left
 ·intro e a w _ hO
  obtain ⟨rfl,c36,M37,ok,E,h38⟩:=hO
  refine qaN<|qaa<|sg<|mv E rfl fun a E=>aw E rfl fun a E=>wp_ret ?_
  obtain ⟨m39,hle,ok,hfz⟩:=(ok.frs 0 rfl).freeze
  have h40:=ORow.froz qaf h38 hle hfz (by decide)
  have le_m0:=le_m0.trans hle
  have hc_0:=(mL (mL qaf)).up hle hc_0
  exact fin hF ⟨m39,c36,le_m0,ok,E.d,rz E rfl,h40⟩
 rintro ⟨v13,v14⟩ a w r ⟨c15,M16,ok,E,h17,r18⟩ hF
 replace hF:qcr N c_0 v13 v14 = some r:=hF
 unfold qcr at hF
 refine sg<|lw E (qay rfl rfl) fun a E=>wn<|wp_seq<|cg E rfl hF (fun c19 hF=>?_) fun c19 hF=>?_
 ·refine wp_exit<|qaA ?_
  cases hF
  exact so (⟨rfl,⟨c15,M16,ok,E.keep [3],h17⟩⟩)
 refine wp_skip<|qaa<|wp_seq<|wp_block<|sg ?_
 obtain ⟨x20,e21,hF⟩:=bnd hF
 obtain ⟨b22,o23,es24,hl25,rr26,at27,yy28⟩:=ia E 6 8 qcv hc_0 e21
 obtain ⟨c29,rfl,h30⟩:=qcz rr26
 refine lv E ok (yy28 _ _) fun a E=>lv E ok (qaj qcN rfl (qab.ro at27)) fun a E=>aw E rfl fun a E=>qac<|mz E rfl rfl fun a E=>bd hF fun l31 e32 hF=>qee (R:=qak) E ok 0 qaf qbk Tryz.underlying66 rfl h17 (qb7.ofL h30 ok) e32 ⟨_,qcW,rfl⟩ rfl rfl rfl rfl fun c33 M34 a w E ok h35=>av E rfl fun a E=>wpList_nil<|qap<|qaa<|qac<|lw E (qaE rfl rfl (InR.inc r18 (qao hc_0) c19)) fun a E=>mv E rfl fun a E=>wpList_nil ?_
 cases hF
 exact qas ⟨c33,M34,ok,E.keep [3,6,7,8],h35,(InR.inc r18 (qao hc_0) c19)⟩
def qkT (u:World) (m0:Mem) (S:Segs) (r:Int) (a:Act) (w:World):Prop :=
 Ok u m0 S w ∧ a.defers = [] ∧ RVs Tryz.prog a w [.t 4 (.int .i64 r)] ∧ InR .i64 r
theorem qfv (N:Nat) (vr_0:List Value) (r_0:Relation) (hr_0:qak m0 vr_0 r_0) (n_1:Int) (rn_1:InR .i64 n_1) {r:Int} (hF:qc8 N r_0 n_1 = some r) (hG:Glob u) (ok:Ok u m0 S w) :
  Calls Tryz.prog 120 [.agg vr_0.toArray,vi n_1].toArray w fun e w'=>(e = .returned (.int .i64 r) ∧ Ok u m0 S w') ∧ InR .i64 r:=by
 obtain ⟨c3,rfl,r1,r2,h4⟩:=hr_0
 unfold qc8 at hF
 refine en (qkT u m0 S) r Tryz.func120 rfl rfl rfl (fun _ _ h=>rb h rfl) fun fin a E=>sg<|qb8 E ok rfl rfl rfl fun b5 a w E ok=>aw E rfl fun a E=>wp_seq<|sg<|fk E ok qcZ qaq rfl 0 rfl rfl fun a E=>lw E (qdp rfl rfl) fun a E=>wn<|cf E rfl hF (fun c6 hF=>?_) fun c6 hF=>?_
 ·refine sg<|mv E rfl fun a E=>fk E ok qcZ qaq rfl 0 rfl rfl fun a E=>bd hF fun q7 e8 hF=>lw E (y_rm rfl rfl e8) fun a E=>aw E rfl fun a E=>wp_ret<|qal ?_
  exact fin hF ⟨ok.drop,E.d,rz E rfl,(qke e8 rn_1)⟩
 refine wp_skip<|qaa<|sg<|mv E rfl fun a E=>lv E ok (qag (cs:=[vi r_0.Operand,vi r_0.Mod,vb r_0.Not,c3]) qbr rfl rfl (qab.own 0 rfl rfl)) fun a E=>bd hF fun r9 e10 hF=>qan E qpV rfl (qhs N _ r_0 ⟨_,rfl,r1,r2,h4⟩ e10 hG ok) rfl rfl ?_
 rintro _ w ⟨⟨rfl,ok⟩,r11⟩
 refine ⟨_,rfl,fun a E=>?_⟩
 refine lw E (qcc rfl rfl) fun a E=>lw E (qoa rfl rfl) fun a E=>aw E rfl fun a E=>wp_ret ?_
 exact fin hF ⟨ok.drop,E.d,rz E rfl,(InR.min rn_1 (InR.wrap _ _))⟩
theorem qbj {u:World} {m0:Mem} {S:Segs} {w:World} (N:Nat) (p0_0:Int) (rp0_0:InR .i64 p0_0) {r:(List UInt8)} (hF:qd4 N p0_0 = some r) (hG:Glob u) (hTb:Tab u) (ok:Ok u m0 S w) :
 Calls Tryz.prog 122 [vi p0_0].toArray w fun e w'=>(e = .returned (.string (bs r)) ∧ Ok u m0 S w') ∧ r.length ≤ LIMS:=qoT Tryz.laysM171 hTb p0_0 rp0_0 hF ok
def qkW (u:World) (m0:Mem) (S:Segs) (r:Bool) (a:Act) (w:World):Prop :=
 Ok u m0 S w ∧ a.defers = [] ∧ RVs Tryz.prog a w [.t 2 (.bool r)]
theorem qet (N:Nat) (vr_0:List Value) (r_0:Relation) (hr_0:qak m0 vr_0 r_0) {r:Bool} (hF:qdK N r_0 = some r) (hG:Glob u) (ok:Ok u m0 S w) :
  Calls Tryz.prog 123 [.agg vr_0.toArray].toArray w fun e w'=>(e = .returned (.bool r) ∧ Ok u m0 S w'):=by
 obtain ⟨c3,rfl,r1,r2,h4⟩:=hr_0
 unfold qdK at hF
 refine en (qkW u m0 S) r Tryz.func123 rfl rfl rfl (fun _ _ h=>ra h rfl) fun fin a E=>sg<|qb8 E ok rfl rfl rfl fun b5 a w E ok=>aw E rfl fun a E=>sg<|fk E ok qa1 qaq rfl 0 rfl rfl fun a E=>lw E (qau rfl rfl) fun a E=>mv E rfl fun a E=>bu E 6 hF (fun c6 hF E=>?_) fun c6 hF E=>?_
 ·refine lsq E fun a E=>ls E fun a E=>pt E rfl rfl fun a E=>aw E rfl fun a E=>wp_ret ?_
  exact fin hF ⟨ok.drop,E.d,rz E rfl⟩
 refine fk E ok qa1 qaq rfl 0 rfl rfl fun a E=>lw E (qau rfl rfl) fun a E=>pf E rfl rfl fun a E=>aw E rfl fun a E=>wp_ret ?_
 exact fin hF ⟨ok.drop,E.d,rz E rfl⟩
def qjg (u:World) (m0:Mem) (S:Segs) (r:(List (Part))) (a:Act) (w:World):Prop :=
 ∃ m1 v0 M0,m0.le m1 ∧ Ok u m1 (M0 :: S) w ∧ a.defers = [] ∧ RVs Tryz.prog a w [.t 4 v0] ∧ ORow 181 2 qbP m1 v0 r M0
theorem qjf (N:Nat) (vl_0:Value) (l_0:List (Part)) {Ml_0:List (Nat × Obj)} (hl_0:ORow 181 2 qbP m0 vl_0 l_0 Ml_0) (vp_1:List Value) (p_1:Part) (hp_1:qbP m0 vp_1 p_1) {r:(List (Part))} (hF:qg2 N l_0 p_1 = some r) (hG:Glob u) (ok:Ok u m0 (Ml_0 :: S) w) :
  Calls Tryz.prog 124 [vl_0,.agg vp_1.toArray].toArray w fun e w'=>∃ m1 v0 M0,e = .returned v0 ∧ m0.le m1 ∧ Ok u m1 (M0 :: S) w' ∧ ORow 181 2 qbP m1 v0 r M0:=by
 obtain ⟨rfl,r1,l2⟩:=hp_1
 have le_m0:=Mem.le.refl m0
 unfold qg2 at hF
 refine en (qjg u m0 S) r Tryz.func124 rfl rfl rfl (by rintro a w ⟨m1,v0,M0,hle,ok,hd,hrv,h0⟩; exact qbS [.t 4 v0] hd rfl hrv ⟨m1,v0,M0,rfl,hle,ok,h0⟩) fun fin a E=>sg<|qb8 E ok rfl rfl rfl fun b3 a w E ok=>aw E rfl fun a E=>wp_seq<|sg<|mv E rfl fun a E=>lv E ok (qep qhe hl_0 rfl) fun a E=>mv E rfl fun a E=>wn<|wp_block<|bd hF fun o5 hL hF=>qaF _ (fun (s:Int) a w=>Ok u m0 ([(b3,oc 181 [vu p_1.bits,vs p_1.text])] :: Ml_0 :: S) w ∧ Env 33 a [(0,vl_0),(3,vp b3),(7,vl_0),(8,(vi (l_0.length:Int))),(9,vi s)] ∧ InR .i64 s) (fun (b:(Unit ⊕ ((List (Part))))) e a w=>(Sum.elim (fun b33=>e = (.exit 0) ∧ Ok u m0 ([(b3,oc 181 [vu p_1.bits,vs p_1.text])] :: Ml_0 :: S) w ∧ Env 33 a [(0,vl_0),(3,vp b3)]) (fun b34=>e = .ret ∧ qjg u m0 S b34 a w)) b) ?_ ?_ N _ a w hL ⟨ok,E.keep [0,3,7,8,9],(ir 0)⟩
 rotate_left
 ·intro e a w _ hO
  rcases o5 with o5 | o5
  rotate_left
  ·obtain ⟨rfl,hret⟩:=hO
   refine qax<|qal ?_
   exact fin hF hret
  have hF:=qbT hF
  obtain ⟨rfl,ok,E⟩:=hO
  refine qaN<|qaa<|sg<|mv E rfl fun a E=>lv E ok (qag (cs:=[vu p_1.bits,vs p_1.text]) qhG rfl rfl (qab.own 0 rfl rfl)) fun a E=>qcn (R:=qbP) (xo:=[.tmp 30]) (xs:=([p_1]:List (Part))) E ok qhe qgr rfl ⟨⟨_,rfl,rfl,⟨rfl,r1,l2⟩⟩,trivial⟩ rfl rfl rfl rfl fun c25 M26 a w E ok h27=>bd hF fun l28 e29 hF=>qee (R:=qbP) E ok 2 qb6 qhe Tryz.underlying173 rfl hl_0 (qb7.ofRow h27 0 rfl ok) e29 ⟨_,qgr,rfl⟩ rfl rfl rfl rfl fun c30 M31 a w E ok h32=>aw E rfl fun a E=>wp_ret ?_
  exact fin hF ⟨m0,c30,M31,le_m0,ok.drop.drop,E.d,rz E rfl,h32⟩
 rintro v7 a w r ⟨ok,E,r8⟩ hF
 replace hF:qgU N l_0 p_1 v7 = some r:=hF
 unfold qgU at hF
 refine sg<|lw E (qay rfl rfl) fun a E=>wn<|wp_seq<|cg E rfl hF (fun c9 hF=>?_) fun c9 hF=>?_
 ·refine wp_exit<|qaA ?_
  cases hF
  exact so (sl ⟨rfl,⟨ok,E.keep [0,3]⟩⟩)
 refine wp_skip<|qaa<|wp_seq<|wp_block<|sg ?_
 obtain ⟨x10,e11,hF⟩:=bnd hF
 obtain ⟨b12,o13,hp14,yy15⟩:=qcm qhe hl_0 e11 (P:=Tryz.prog) (X:=.tmp 7) (I:=.tmp 9) (kd:=.i64) (qaU E rfl) (qaU E rfl)
 refine lv E ok (yy15 _ _) fun a E=>?_
 obtain ⟨es16,hl17,rr18,hh19⟩:=qcY hl_0 e11 hp14 (by decide)
 obtain ⟨rfl,r20,l21⟩:=rr18
 refine lv E ok (qag (cs:=[vu x10.bits,vs x10.text]) qhG rfl rfl (hh19 _ _ _ 1 rfl)) fun a E=>qaB E ok qgr rfl rfl fun b22 a w E ok=>qad E ok 0 rfl rfl rfl ql6 rfl rfl ⟨rfl,rfl,trivial⟩ rfl rfl fun w ok=>wn<|sg<|fv E qgw rfl fun a E=>ld E ok qgX 0 rfl rfl rfl fun a E=>fk E ok qgw qgX rfl 1 rfl rfl fun a E=>lw E (qau rfl rfl) fun a E=>mv E rfl fun a E=>bw E 18 hF (fun c23 hF E=>?_) fun c23 hF E=>?_
 ·refine lsz E fun a E=>lsq E fun a E=>ls E fun a E=>pf E rfl rfl fun a E=>wn<|c_if E rfl (fun h=>by cases h) (fun _=>?_)
  refine wp_skip<|qap<|qaa<|qac<|lw E (qaE rfl rfl (InR.inc r8 (ORow.InR hl_0) c9)) fun a E=>mv E rfl fun a E=>wpList_nil ?_
  cases hF
  exact qas ⟨(ok.pk 3 [1,2] rfl (by decide)),E.keep [0,3,7,8,9],(InR.inc r8 (ORow.InR hl_0) c9)⟩
 refine fk E ok qh1 qbg rfl 0 rfl rfl fun a E=>lw E (qa7 Tryz.underlying9 rfl) fun a E=>fk E ok qh1 qbg rfl 1 rfl rfl fun a E=>lw E (qa7 Tryz.underlying9 rfl) fun a E=>lw E (qau rfl rfl) fun a E=>pt E rfl rfl fun a E=>wn<|cg E rfl hF (fun c24 hF=>?_) fun c24 hF=>?_
 ·refine wp_skip<|qap<|qaa<|qac<|lw E (qaE rfl rfl (InR.inc r8 (ORow.InR hl_0) c9)) fun a E=>mv E rfl fun a E=>wpList_nil ?_
  cases hF
  exact qas ⟨(ok.pk 3 [1,2] rfl (by decide)),E.keep [0,3,7,8,9],(InR.inc r8 (ORow.InR hl_0) c9)⟩
 refine sg<|mv E rfl fun a E=>aw E rfl fun a E=>wp_ret<|qax<|qal ?_
 cases hF
 exact so (sr ⟨rfl,⟨m0,vl_0,Ml_0,le_m0,ok.drop.drop,E.d,rz E rfl,hl_0⟩⟩)
def qe8 (u:World) (m0:Mem) (S:Segs) (r:Bool) (a:Act) (w:World):Prop :=
 Ok u m0 S w ∧ a.defers = [] ∧ RVs Tryz.prog a w [.t 4 (.bool r)]
theorem qgm (N:Nat) (vt_0:List Value) (t_0:Tracker) (ht_0:qbn m0 vt_0 t_0) (vr_1:List Value) (r_1:Relation) (hr_1:qak m0 vr_1 r_1) {r:Bool} (hF:qbZ N t_0 r_1 = some r) (hG:Glob u) (ok:Ok u m0 S w) :
  Calls Tryz.prog 54 [.agg vt_0.toArray,.agg vr_1.toArray].toArray w fun e w'=>(e = .returned (.bool r) ∧ Ok u m0 S w'):=by
 obtain ⟨rfl,r1,r2⟩:=ht_0
 obtain ⟨c5,rfl,r3,r4,h6⟩:=hr_1
 unfold qbZ at hF
 refine en (qe8 u m0 S) r Tryz.func54 rfl rfl rfl (fun _ _ h=>ra h rfl) fun fin a E=>sg<|qb8 E ok rfl rfl rfl fun b7 a w E ok=>qb8 E ok rfl rfl rfl fun b8 a w E ok=>aw E rfl fun a E=>wp_seq<|sg<|fk E ok qa1 qaq rfl 0 rfl rfl fun a E=>lw E (qau rfl rfl) fun a E=>mv E rfl fun a E=>bw E 10 hF (fun c9 hF E=>?_) fun c9 hF E=>?_
 ·as_aux_lemma =>
   refine lsq E fun a E=>ls E fun a E=>pf E rfl rfl fun a E=>wn<|c_if E rfl (fun h=>by cases h) (fun _=>?_)
   refine wp_skip<|qaa<|wp_seq<|sg<|fk E ok qbf qbO rfl 0 rfl rfl fun a E=>lv E ok (qaD qbz h6 rfl) fun a E=>mv E rfl fun a E=>wn<|wp_block<|bd hF fun o34 hL hF=>qaF _ (fun (s:Int) a w=>Ok u m0 ([(b8,oc 69 [vi r_1.Operand,vi r_1.Mod,vb r_1.Not,c5])] :: [(b7,oc 86 [vi t_0.a,vi t_0.b])] :: S) w ∧ Env 42 a [(2,vp b7),(3,vp b8),(18,c5),(19,(vi (r_1.Spans.length:Int))),(20,vi s)] ∧ InR .i64 s) (fun (b:(Unit ⊕ Bool)) e a w=>(Sum.elim (fun b53=>e = (.exit 0) ∧ Ok u m0 ([(b8,oc 69 [vi r_1.Operand,vi r_1.Mod,vb r_1.Not,c5])] :: [(b7,oc 86 [vi t_0.a,vi t_0.b])] :: S) w ∧ Env 42 a [(3,vp b8)]) (fun b54=>e = .ret ∧ qe8 u m0 S b54 a w)) b) ?_ ?_ N _ a w hL ⟨ok,E.keep [2,3,18,19,20],(ir 0)⟩
   rotate_left
   ·intro e a w _ hO
    rcases o34 with o34 | o34
    rotate_left
    ·obtain ⟨rfl,hret⟩:=hO
     refine qax<|qal ?_
     exact fin hF hret
    have hF:=qbT hF
    obtain ⟨rfl,ok,E⟩:=hO
    refine qaN<|qaa<|sg<|fk E ok qfI qdx rfl 0 rfl rfl fun a E=>av E rfl fun a E=>wn<|wp_ret ?_
    exact fin hF ⟨ok.drop.drop,E.d,rz E rfl⟩
   rintro v36 a w r ⟨ok,E,r37⟩ hF
   replace hF:qcj N t_0 r_1 v36 = some r:=hF
   unfold qcj at hF
   refine sg<|lw E (qay rfl rfl) fun a E=>wn<|wp_seq<|cg E rfl hF (fun c38 hF=>?_) fun c38 hF=>?_
   ·refine wp_exit<|qaA ?_
    cases hF
    exact so (sl ⟨rfl,⟨ok,E.keep [3]⟩⟩)
   refine wp_skip<|qaa<|wp_seq<|wp_block<|sg ?_
   obtain ⟨x39,e40,hF⟩:=bnd hF
   obtain ⟨b41,o42,es43,hl44,rr45,at46,yy47⟩:=ia E 18 20 qbz h6 e40
   obtain ⟨rfl,r48,r49⟩:=rr45
   refine lv E ok (yy47 _ _) fun a E=>lv E ok (qag (cs:=[vi x39.From,vi x39.To]) qdJ rfl rfl (qab.ro at46)) fun a E=>qaB E ok qcE rfl rfl fun b50 a w E ok=>qad E ok 0 rfl rfl rfl qfi rfl rfl ⟨rfl,rfl,trivial⟩ rfl rfl fun w ok=>wn<|sg<|fk E ok qeT qaq rfl 2 rfl rfl fun a E=>fk E ok qd6 qaq rfl 0 rfl rfl fun a E=>lw E (qgd rfl rfl) fun a E=>mv E rfl fun a E=>bw E 29 hF (fun c51 hF E=>?_) fun c51 hF E=>?_
   ·refine lsz E fun a E=>ls E fun a E=>pf E rfl rfl fun a E=>wn<|c_if E rfl (fun h=>by cases h) (fun _=>?_)
    refine wp_skip<|qap<|qaa<|qac<|lw E (qaE rfl rfl (InR.inc r37 (qao h6) c38)) fun a E=>mv E rfl fun a E=>wpList_nil ?_
    cases hF
    exact qas ⟨(ok.pk 3 [1,2] rfl (by decide)),E.keep [2,3,18,19,20],(InR.inc r37 (qao h6) c38)⟩
   refine fk E ok qeT qaq rfl 2 rfl rfl fun a E=>fk E ok qc6 qaq rfl 0 rfl rfl fun a E=>lw E (qf7 rfl rfl) fun a E=>pt E rfl rfl fun a E=>wn<|cg E rfl hF (fun c52 hF=>?_) fun c52 hF=>?_
   ·refine wp_skip<|qap<|qaa<|qac<|lw E (qaE rfl rfl (InR.inc r37 (qao h6) c38)) fun a E=>mv E rfl fun a E=>wpList_nil ?_
    cases hF
    exact qas ⟨(ok.pk 3 [1,2] rfl (by decide)),E.keep [2,3,18,19,20],(InR.inc r37 (qao h6) c38)⟩
   refine sg<|fk E ok qfI qdx rfl 1 rfl rfl fun a E=>lw E (qa2 rfl) fun a E=>aw E rfl fun a E=>wp_ret<|qax<|qal ?_
   cases hF
   exact so (sr ⟨rfl,⟨ok.drop.drop.drop,E.d,rz E rfl⟩⟩)
 refine fk E ok qfm qaq rfl 1 rfl rfl fun a E=>lw E (qau rfl rfl) fun a E=>pt E rfl rfl fun a E=>wn<|cf E rfl hF (fun c10 hF=>?_) fun c10 hF=>?_
 ·refine sg<|fk E ok qfI qdx rfl 0 rfl rfl fun a E=>aw E rfl fun a E=>wp_ret<|qal ?_
  exact fin hF ⟨ok.drop.drop,E.d,rz E rfl⟩
 refine wp_skip<|qaa<|wp_seq<|sg<|fk E ok qbf qbO rfl 0 rfl rfl fun a E=>lv E ok (qaD qbz h6 rfl) fun a E=>mv E rfl fun a E=>wn<|wp_block<|bd hF fun o12 hL hF=>qaF _ (fun (s:Int) a w=>Ok u m0 ([(b8,oc 69 [vi r_1.Operand,vi r_1.Mod,vb r_1.Not,c5])] :: [(b7,oc 86 [vi t_0.a,vi t_0.b])] :: S) w ∧ Env 42 a [(2,vp b7),(3,vp b8),(18,c5),(19,(vi (r_1.Spans.length:Int))),(20,vi s)] ∧ InR .i64 s) (fun (b:(Unit ⊕ Bool)) e a w=>(Sum.elim (fun b31=>e = (.exit 0) ∧ Ok u m0 ([(b8,oc 69 [vi r_1.Operand,vi r_1.Mod,vb r_1.Not,c5])] :: [(b7,oc 86 [vi t_0.a,vi t_0.b])] :: S) w ∧ Env 42 a [(3,vp b8)]) (fun b32=>e = .ret ∧ qe8 u m0 S b32 a w)) b) ?_ ?_ N _ a w hL ⟨ok,E.keep [2,3,18,19,20],(ir 0)⟩
 rotate_left
 ·intro e a w _ hO
  rcases o12 with o12 | o12
  rotate_left
  ·obtain ⟨rfl,hret⟩:=hO
   refine qax<|qal ?_
   exact fin hF hret
  have hF:=qbT hF
  obtain ⟨rfl,ok,E⟩:=hO
  refine qaN<|qaa<|sg<|fk E ok qfI qdx rfl 0 rfl rfl fun a E=>av E rfl fun a E=>wn<|wp_ret ?_
  exact fin hF ⟨ok.drop.drop,E.d,rz E rfl⟩
 rintro v14 a w r ⟨ok,E,r15⟩ hF
 replace hF:qch N t_0 r_1 v14 = some r:=hF
 unfold qch at hF
 refine sg<|lw E (qay rfl rfl) fun a E=>wn<|wp_seq<|cg E rfl hF (fun c16 hF=>?_) fun c16 hF=>?_
 ·refine wp_exit<|qaA ?_
  cases hF
  exact so (sl ⟨rfl,⟨ok,E.keep [3]⟩⟩)
 refine wp_skip<|qaa<|wp_seq<|wp_block<|sg ?_
 obtain ⟨x17,e18,hF⟩:=bnd hF
 obtain ⟨b19,o20,es21,hl22,rr23,at24,yy25⟩:=ia E 18 20 qbz h6 e18
 obtain ⟨rfl,r26,r27⟩:=rr23
 refine lv E ok (yy25 _ _) fun a E=>lv E ok (qag (cs:=[vi x17.From,vi x17.To]) qdJ rfl rfl (qab.ro at24)) fun a E=>qaB E ok qcE rfl rfl fun b28 a w E ok=>qad E ok 0 rfl rfl rfl qfi rfl rfl ⟨rfl,rfl,trivial⟩ rfl rfl fun w ok=>wn<|sg<|fk E ok qeT qaq rfl 2 rfl rfl fun a E=>fk E ok qd6 qaq rfl 0 rfl rfl fun a E=>lw E (qgd rfl rfl) fun a E=>mv E rfl fun a E=>bw E 29 hF (fun c29 hF E=>?_) fun c29 hF E=>?_
 ·refine lsz E fun a E=>ls E fun a E=>pf E rfl rfl fun a E=>wn<|c_if E rfl (fun h=>by cases h) (fun _=>?_)
  refine wp_skip<|qap<|qaa<|qac<|lw E (qaE rfl rfl (InR.inc r15 (qao h6) c16)) fun a E=>mv E rfl fun a E=>wpList_nil ?_
  cases hF
  exact qas ⟨(ok.pk 3 [1,2] rfl (by decide)),E.keep [2,3,18,19,20],(InR.inc r15 (qao h6) c16)⟩
 refine fk E ok qeT qaq rfl 2 rfl rfl fun a E=>fk E ok qc6 qaq rfl 0 rfl rfl fun a E=>lw E (qf7 rfl rfl) fun a E=>pt E rfl rfl fun a E=>wn<|cg E rfl hF (fun c30 hF=>?_) fun c30 hF=>?_
 ·refine wp_skip<|qap<|qaa<|qac<|lw E (qaE rfl rfl (InR.inc r15 (qao h6) c16)) fun a E=>mv E rfl fun a E=>wpList_nil ?_
  cases hF
  exact qas ⟨(ok.pk 3 [1,2] rfl (by decide)),E.keep [2,3,18,19,20],(InR.inc r15 (qao h6) c16)⟩
 refine sg<|fk E ok qfI qdx rfl 1 rfl rfl fun a E=>lw E (qa2 rfl) fun a E=>aw E rfl fun a E=>wp_ret<|qax<|qal ?_
 cases hF
 exact so (sr ⟨rfl,⟨ok.drop.drop.drop,E.d,rz E rfl⟩⟩)
def qiz (u:World) (m0:Mem) (S:Segs) (pb0:Nat) (x0:qaG) (c1:Value) (c3:Value) (M4:List (Nat × Obj)) (c6:Value) (M7:List (Nat × Obj)) (r:Int) (a:Act) (w:World):Prop :=
 Ok u m0 ([(pb0,oc 175 [c1,c3,c6])] :: M4 :: M7 :: S) w ∧ a.defers = [] ∧ RVs Tryz.prog a w [.t 6 (.int .u64 r)] ∧ InR .u64 r
theorem qgy (N:Nat) (behind_1:Bool) (vtrackers_2:Value) (trackers_2:List (Tracker)) (htrackers_2:(pL 2 qbn) m0 [vtrackers_2] trackers_2) {pb0:Nat} {c1:Value} {c3:Value} {M4:List (Nat × Obj)} {c6:Value} {M7:List (Nat × Obj)} (x0:qaG) (h2:(pL 4 qak) m0 [c1] x0.l) (h5:ORow 181 2 qbP m0 c3 x0.wholes M4) (h8:ORow 181 2 qbP m0 c6 x0.fraction M7) {r:Int} (hF:qeK N behind_1 trackers_2 x0 = some r) (hG:Glob u) (ok:Ok u m0 ([(pb0,oc 175 [c1,c3,c6])] :: M4 :: M7 :: S) w) :
  Calls Tryz.prog 125 [vp pb0,vb behind_1,vtrackers_2].toArray w fun e w'=>(e = .returned (.int .u64 r) ∧ Ok u m0 ([(pb0,oc 175 [c1,c3,c6])] :: M4 :: M7 :: S) w') ∧ InR .u64 r:=by
 unfold qeK at hF
 refine en (qiz u m0 S pb0 x0 c1 c3 M4 c6 M7) r Tryz.func125 rfl rfl rfl (fun _ _ h=>rb h rfl) fun fin a E=>sg<|aw E rfl fun a E=>sg<|aw E rfl fun a E=>wp_seq<|sg<|mv E rfl fun a E=>lw E (qaW rfl) fun a E=>fk E ok qgW qcN rfl 0 rfl rfl fun a E=>lv E ok (qaD qbk h2 rfl) fun a E=>mv E rfl fun a E=>wn<|wp_block<|bd hF fun o11 hL hF=>qaF _ (fun (s:Int × Int) a w=>Ok u m0 ([(pb0,oc 175 [c1,c3,c6])] :: M4 :: M7 :: S) w ∧ Env 38 a [(1,vb behind_1),(2,vtrackers_2),(7,vu s.1),(13,c1),(14,(vi (x0.l.length:Int))),(15,vi s.2)] ∧ InR .u64 s.1 ∧ InR .i64 s.2) (fun (b:Int) e a w=>e = (.exit 0) ∧ Ok u m0 ([(pb0,oc 175 [c1,c3,c6])] :: M4 :: M7 :: S) w ∧ Env 38 a [(7,vu b)] ∧ InR .u64 b) ?_ ?_ N _ a w hL ⟨ok,E.keep [1,2,7,13,14,15],(show InR .u64 (0) by decide),(ir 0)⟩
 rotate_left
 ·intro e a w _ hO
  obtain ⟨rfl,ok,E,r52⟩:=hO
  refine qaN<|qaa<|sg<|mv E rfl fun a E=>aw E rfl fun a E=>wp_ret ?_
  exact fin hF ⟨ok,E.d,rz E rfl,r52⟩
 rintro ⟨v14,v15⟩ a w r ⟨ok,E,r16,r17⟩ hF
 replace hF:qfb N behind_1 trackers_2 x0 v14 v15 = some r:=hF
 unfold qfb at hF
 refine sg<|lw E (qay rfl rfl) fun a E=>wn<|wp_seq<|cg E rfl hF (fun c18 hF=>?_) fun c18 hF=>?_
 ·refine wp_exit<|qaA ?_
  cases hF
  exact so (⟨rfl,⟨ok,E.keep [7],r16⟩⟩)
 refine wp_skip<|qaa<|wp_seq<|wp_block<|sg<|mv E rfl fun a E=>?_
 obtain ⟨x19,e20,hF⟩:=bnd hF
 obtain ⟨b21,o22,es23,hl24,rr25,at26,yy27⟩:=ia E 13 15 qbk h2 e20
 obtain ⟨c30,rfl,r28,r29,h31⟩:=rr25
 refine lv E ok (yy27 _ _) fun a E=>lv E ok (qag (cs:=[vi x19.Operand,vi x19.Mod,vb x19.Not,c30]) qbr rfl rfl (qab.ro at26)) fun a E=>qaB E ok qcW rfl rfl fun b32 a w E ok=>av E rfl fun a E=>qad E ok 0 rfl rfl rfl qf3 rfl rfl ⟨rfl,rfl,rfl,(qcO h31),trivial⟩ rfl rfl fun w ok=>wn<|wp_seq<|qeU (by kernel_rfl) (by kernel_rfl) ok<|qv E (qag (cs:=[vi x19.Operand,vi x19.Mod,vb x19.Not,c30]) qbr rfl rfl (qab.own 0 rfl rfl)) fun a E=>bd hF fun r33 e34 hF=>qfT E qjZ rfl (fun w ok=>(qet N _ x19 ⟨_,rfl,r28,r29,h31⟩ e34 hG ok).mono (fun _ _ h=>h)) rfl rfl fun a E=>qv E (qah rfl) fun a E=>qv E (qoL Tryz.underlying4 rfl rfl) fun a E=>qv E (qah rfl) fun a E=>bw E 24 hF (fun c35 hF E=>?_) fun c35 hF E=>?_
 ·refine qs E fun a E=>qs E fun a E=>qs E fun a E=>qs E fun a E=>qs E fun a E=>qs E fun a E=>qv E (qaT rfl rfl) fun a E=>wpQuiet_nil ?_
  intro w ok
  refine qaa<|c_if E rfl (fun h=>by cases h) (fun _=>?_)
  refine wp_skip<|qap<|qaa<|qac<|lw E (qaE rfl rfl (InR.inc r17 (qao h2) c18)) fun a E=>mv E rfl fun a E=>wpList_nil ?_
  cases hF
  exact qas ⟨(ok.pk 4 [1,2,3] rfl (by decide)),E.keep [1,2,7,13,14,15],r16,(InR.inc r17 (qao h2) c18)⟩
 refine qv E (qah rfl) fun a E=>qv E (qah rfl) fun a E=>?_
 obtain ⟨x36,e37,hF⟩:=bnd hF
 obtain ⟨b38,o39,es40,hl41,rr42,at43,yy44⟩:=ia E 25 26 qdD htrackers_2 e37
 obtain ⟨rfl,r45,r46⟩:=rr42
 refine qv E (yy44 _ _) fun a E=>qv E (qag (cs:=[vi x36.a,vi x36.b]) qbC rfl rfl (qab.ro at43)) fun a E=>qv E (qag (cs:=[vi x19.Operand,vi x19.Mod,vb x19.Not,c30]) qbr rfl rfl (qab.own 0 rfl rfl)) fun a E=>bd hF fun r47 e48 hF=>qfT E qpL rfl (fun w ok=>(qgm N _ x36 ⟨rfl,r45,r46⟩ _ x19 ⟨_,rfl,r28,r29,h31⟩ e48 hG ok).mono (fun _ _ h=>h)) rfl rfl fun a E=>qv E (qaY rfl rfl) fun a E=>wpQuiet_nil ?_
 intro w ok
 refine qaa<|cg E rfl hF (fun c49 hF=>?_) fun c49 hF=>?_
 ·refine wp_skip<|qap<|qaa<|qac<|lw E (qaE rfl rfl (InR.inc r17 (qao h2) c18)) fun a E=>mv E rfl fun a E=>wpList_nil ?_
  cases hF
  exact qas ⟨(ok.pk 4 [1,2,3] rfl (by decide)),E.keep [1,2,7,13,14,15],r16,(InR.inc r17 (qao h2) c18)⟩
 refine qac<|mz E rfl rfl fun a E=>bd hF fun q50 e51 hF=>lv E ok (qrU rfl rfl e51) fun a E=>lw E (qhO .or (by decide) rfl rfl) fun a E=>av E rfl fun a E=>wpList_nil<|qap<|qaa<|qac<|lw E (qaE rfl rfl (InR.inc r17 (qao h2) c18)) fun a E=>mv E rfl fun a E=>wpList_nil ?_
 cases hF
 exact qas ⟨(ok.pk 4 [1,2,3] rfl (by decide)),E.keep [1,2,7,13,14,15],(qmq .or .u64 v14 q50),(InR.inc r17 (qao h2) c18)⟩
end Go.Proofs.YtidfofhmnlhfjaaGreatDoor
namespace Go.Proofs.YtidfofhmnlhfjaaGreatDoor
open Go.X
variable {u:World} {m0:Mem} {S:Segs} {w:World}
set_option maxHeartbeats 4000000
set_option maxRecDepth 100000
def qiF (u:World) (m0:Mem) (S:Segs) (r:Tracker) (a:Act) (w:World):Prop :=
 ∃ m1 v0,m0.le m1 ∧ Ok u m1 S w ∧ a.defers = [] ∧ RVs Tryz.prog a w [.c 8 86 (.agg v0.toArray)] ∧ qbn m1 v0 r
theorem qdc (N:Nat) (vt_0:List Value) (t_0:Tracker) (ht_0:qbn m0 vt_0 t_0) (vr_1:List Value) (r_1:Relation) (hr_1:qak m0 vr_1 r_1) (behind_2:Bool) (digit_3:Int) (rdigit_3:InR .i64 digit_3) {r:Tracker} (hF:qa0 N t_0 r_1 behind_2 digit_3 = some r) (hG:Glob u) (ok:Ok u m0 S w) :
  Calls Tryz.prog 88 [.agg vt_0.toArray,.agg vr_1.toArray,vb behind_2,vi digit_3].toArray w fun e w'=>∃ m1 v0,e = .returned (.agg v0.toArray) ∧ m0.le m1 ∧ Ok u m1 S w' ∧ qbn m1 v0 r:=by
 obtain ⟨rfl,r1,r2⟩:=ht_0
 obtain ⟨c5,rfl,r3,r4,h6⟩:=hr_1
 have le_m0:=Mem.le.refl m0
 unfold qa0 at hF
 refine en (qiF u m0 S) r Tryz.func88 rfl rfl rfl (by rintro a w ⟨m1,v0,hle,ok,hd,hrv,h0⟩; exact qbS [.c 8 86 (.agg v0.toArray)] hd rfl hrv ⟨m1,v0,rfl,hle,ok,h0⟩) fun fin a E=>sg<|qb8 E ok rfl rfl rfl fun b7 a w E ok=>qb8 E ok rfl rfl rfl fun b8 a w E ok=>qaB E ok qel rfl rfl fun b9 a w E ok=>wn<|wp_seq<|sg<|fk E ok qa1 qaq rfl 1 rfl rfl fun a E=>wn<|wp_block<|wp_seq<|sg<|lw E (qau rfl rfl) fun a E=>aw E rfl fun a E=>bd hF fun o10 hJ hF=>qaL (Q':=fun e a w=>e = .normal ∧ Ok u m0 ([(b9,oc 86 [vi 0,vi 0])] :: [(b8,oc 69 [vi r_1.Operand,vi r_1.Mod,vb r_1.Not,c5])] :: [(b7,oc 86 [vi t_0.a,vi t_0.b])] :: S) w ∧ Env 75 a [(2,vb behind_2),(3,vi digit_3),(4,vp b7),(5,vp b8),(8,vp b9),(10,vi r_1.Operand),(11,vb o10)]) ?_ ?_
 ·have hF:=hJ
  refine cf E rfl hF (fun c11 hF=>?_) fun c11 hF=>?_
  ·refine wp_skip ?_
   cases hF
   exact ⟨rfl,⟨ok,E.keep [2,3,4,5,8,10,11]⟩⟩
  refine qac<|lw E (qau rfl rfl) fun a E=>av E rfl fun a E=>wpList_nil ?_
  cases hF
  exact ⟨rfl,⟨ok,E.keep [2,3,4,5,8,10,11]⟩⟩
 intro e a w hO
 obtain ⟨rfl,ok,E⟩:=hO
 refine qaa<|cf E rfl hF (fun c12 hF=>?_) fun c12 hF=>?_
 ·as_aux_lemma =>
   refine sg<|mv E rfl fun a E=>lw E (qa2 rfl) fun a E=>wn<|cf E rfl hF (fun c13 hF=>?_) fun c13 hF=>?_
   ·refine qac<|lv E ok (qag (cs:=[vi r_1.Operand,vi r_1.Mod,vb r_1.Not,c5]) qbr rfl rfl (qab.own 1 rfl rfl)) fun a E=>fk E ok qeT qaq rfl 2 rfl rfl fun a E=>lw E (qhV rfl rfl) fun a E=>mv E rfl fun a E=>lw E (qcc rfl rfl) fun a E=>bd hF fun r14 e15 hF=>qan E qlf rfl (qfv N _ r_1 ⟨_,rfl,r3,r4,h6⟩ (IntKind.wrap .i64 ((IntKind.wrap .i64 ((10:Int) * t_0.a)) + digit_3)) (InR.wrap _ _) e15 hG ok) rfl rfl ?_
    rintro _ w ⟨⟨rfl,ok⟩,r16⟩
    refine ⟨_,rfl,fun a E=>?_⟩
    refine fv E qeT rfl fun a E=>qad E ok 2 rfl rfl rfl qb4 rfl rfl ⟨rfl,trivial⟩ rfl rfl fun w ok=>wpList_nil<|qap<|qaa<|sg<|lv E ok (qag (cs:=[vi r14,vi t_0.b]) qbC rfl rfl (qab.own 2 rfl rfl)) fun a E=>qad E ok 0 rfl rfl rfl qdA rfl rfl ⟨rfl,rfl,trivial⟩ rfl rfl fun w ok=>wn<|wp_ret ?_
    exact fin hF ⟨m0,[vi r14,vi t_0.b],le_m0,ok.drop.drop.drop,E.d,⟨rv_c (cs:=[vi r14,vi t_0.b]) E ok rfl qbC rfl (qab.own 0 rfl rfl),trivial⟩,⟨rfl,r16,r2⟩⟩
   refine sg<|mv E rfl fun a E=>lw E (qdp rfl rfl) fun a E=>mv E rfl fun a E=>bw E 26 hF (fun c17 hF E=>?_) fun c17 hF E=>?_
   ·refine lsq E fun a E=>ls E fun a E=>pf E rfl rfl fun a E=>wn<|c_if E rfl (fun h=>by cases h) (fun _=>?_)
    refine wp_skip<|qap<|qaa<|sg<|lv E ok (qag (cs:=[vi t_0.a,vi t_0.b]) qbC rfl rfl (qab.own 2 rfl rfl)) fun a E=>qad E ok 0 rfl rfl rfl qdA rfl rfl ⟨rfl,rfl,trivial⟩ rfl rfl fun w ok=>wn<|wp_ret ?_
    exact fin hF ⟨m0,[vi t_0.a,vi t_0.b],le_m0,ok.drop.drop.drop,E.d,⟨rv_c (cs:=[vi t_0.a,vi t_0.b]) E ok rfl qbC rfl (qab.own 0 rfl rfl),trivial⟩,⟨rfl,r1,r2⟩⟩
   refine fk E ok qa1 qaq rfl 1 rfl rfl fun a E=>lw E (qau rfl rfl) fun a E=>pt E rfl rfl fun a E=>wn<|cg E rfl hF (fun c18 hF=>?_) fun c18 hF=>?_
   ·refine wp_skip<|qap<|qaa<|sg<|lv E ok (qag (cs:=[vi t_0.a,vi t_0.b]) qbC rfl rfl (qab.own 2 rfl rfl)) fun a E=>qad E ok 0 rfl rfl rfl qdA rfl rfl ⟨rfl,rfl,trivial⟩ rfl rfl fun w ok=>wn<|wp_ret ?_
    exact fin hF ⟨m0,[vi t_0.a,vi t_0.b],le_m0,ok.drop.drop.drop,E.d,⟨rv_c (cs:=[vi t_0.a,vi t_0.b]) E ok rfl qbC rfl (qab.own 0 rfl rfl),trivial⟩,⟨rfl,r1,r2⟩⟩
   refine qac<|fv E qfm rfl fun a E=>qad E ok 2 rfl rfl rfl qb4 rfl rfl ⟨rfl,trivial⟩ rfl rfl fun w ok=>wpList_nil<|qap<|qaa<|sg<|lv E ok (qag (cs:=[vi t_0.a,vi 1]) qbC rfl rfl (qab.own 2 rfl rfl)) fun a E=>qad E ok 0 rfl rfl rfl qdA rfl rfl ⟨rfl,rfl,trivial⟩ rfl rfl fun w ok=>wn<|wp_ret ?_
   exact fin hF ⟨m0,[vi t_0.a,vi 1],le_m0,ok.drop.drop.drop,E.d,⟨rv_c (cs:=[vi t_0.a,vi 1]) E ok rfl qbC rfl (qab.own 0 rfl rfl),trivial⟩,⟨rfl,r1,(ir 1)⟩⟩
 refine wp_seq<|sg<|lw E (qau rfl rfl) fun a E=>aw E rfl fun a E=>bd hF fun o19 hJ hF=>qaL (Q':=fun e a w=>e = .normal ∧ Ok u m0 ([(b9,oc 86 [vi 0,vi 0])] :: [(b8,oc 69 [vi r_1.Operand,vi r_1.Mod,vb r_1.Not,c5])] :: [(b7,oc 86 [vi t_0.a,vi t_0.b])] :: S) w ∧ Env 75 a [(2,vb behind_2),(3,vi digit_3),(4,vp b7),(5,vp b8),(8,vp b9),(10,vi r_1.Operand),(32,vb o19)]) ?_ ?_
 ·have hF:=hJ
  refine cf E rfl hF (fun c20 hF=>?_) fun c20 hF=>?_
  ·refine wp_skip ?_
   cases hF
   exact ⟨rfl,⟨ok,E.keep [2,3,4,5,8,10,32]⟩⟩
  refine qac<|lw E (qau rfl rfl) fun a E=>av E rfl fun a E=>wpList_nil ?_
  cases hF
  exact ⟨rfl,⟨ok,E.keep [2,3,4,5,8,10,32]⟩⟩
 intro e a w hO
 obtain ⟨rfl,ok,E⟩:=hO
 refine qaa<|cf E rfl hF (fun c21 hF=>?_) fun c21 hF=>?_
 ·as_aux_lemma =>
   refine sg<|mv E rfl fun a E=>wn<|cg E rfl hF (fun c22 hF=>?_) fun c22 hF=>?_
   ·refine wp_skip<|qap<|qaa<|sg<|lv E ok (qag (cs:=[vi t_0.a,vi t_0.b]) qbC rfl rfl (qab.own 2 rfl rfl)) fun a E=>qad E ok 0 rfl rfl rfl qdA rfl rfl ⟨rfl,rfl,trivial⟩ rfl rfl fun w ok=>wn<|wp_ret ?_
    exact fin hF ⟨m0,[vi t_0.a,vi t_0.b],le_m0,ok.drop.drop.drop,E.d,⟨rv_c (cs:=[vi t_0.a,vi t_0.b]) E ok rfl qbC rfl (qab.own 0 rfl rfl),trivial⟩,⟨rfl,r1,r2⟩⟩
   refine sg<|lv E ok (qag (cs:=[vi r_1.Operand,vi r_1.Mod,vb r_1.Not,c5]) qbr rfl rfl (qab.own 1 rfl rfl)) fun a E=>fk E ok qfm qaq rfl 2 rfl rfl fun a E=>lw E (qcc rfl rfl) fun a E=>bd hF fun r23 e24 hF=>qan E qlf rfl (qfv N _ r_1 ⟨_,rfl,r3,r4,h6⟩ (IntKind.wrap .i64 (t_0.b + 1)) (InR.wrap _ _) e24 hG ok) rfl rfl ?_
   rintro _ w ⟨⟨rfl,ok⟩,r25⟩
   refine ⟨_,rfl,fun a E=>?_⟩
   refine fv E qfm rfl fun a E=>qad E ok 2 rfl rfl rfl qb4 rfl rfl ⟨rfl,trivial⟩ rfl rfl fun w ok=>wn<|sg<|mv E rfl fun a E=>lw E (qdp rfl rfl) fun a E=>mv E rfl fun a E=>bu E 44 hF (fun c26 hF E=>?_) fun c26 hF E=>?_
   ·refine lsq E fun a E=>ls E fun a E=>pt E rfl rfl fun a E=>wn<|c_if E rfl (fun _=>?_) (fun h=>by cases h)
    refine qac<|fk E ok qfm qaq rfl 2 rfl rfl fun a E=>fv E qeT rfl fun a E=>qad E ok 2 rfl rfl rfl qb4 rfl rfl ⟨rfl,trivial⟩ rfl rfl fun w ok=>wpList_nil<|qap<|qaa<|sg<|lv E ok (qag (cs:=[vi r23,vi r23]) qbC rfl rfl (qab.own 2 rfl rfl)) fun a E=>qad E ok 0 rfl rfl rfl qdA rfl rfl ⟨rfl,rfl,trivial⟩ rfl rfl fun w ok=>wn<|wp_ret ?_
    exact fin hF ⟨m0,[vi r23,vi r23],le_m0,ok.drop.drop.drop,E.d,⟨rv_c (cs:=[vi r23,vi r23]) E ok rfl qbC rfl (qab.own 0 rfl rfl),trivial⟩,⟨rfl,r25,r25⟩⟩
   refine fk E ok qa1 qaq rfl 1 rfl rfl fun a E=>lw E (qau rfl rfl) fun a E=>pf E rfl rfl fun a E=>wn<|cg E rfl hF (fun c27 hF=>?_) fun c27 hF=>?_
   ·refine wp_skip<|qap<|qaa<|sg<|lv E ok (qag (cs:=[vi t_0.a,vi r23]) qbC rfl rfl (qab.own 2 rfl rfl)) fun a E=>qad E ok 0 rfl rfl rfl qdA rfl rfl ⟨rfl,rfl,trivial⟩ rfl rfl fun w ok=>wn<|wp_ret ?_
    exact fin hF ⟨m0,[vi t_0.a,vi r23],le_m0,ok.drop.drop.drop,E.d,⟨rv_c (cs:=[vi t_0.a,vi r23]) E ok rfl qbC rfl (qab.own 0 rfl rfl),trivial⟩,⟨rfl,r1,r25⟩⟩
   refine qac<|fk E ok qfm qaq rfl 2 rfl rfl fun a E=>fv E qeT rfl fun a E=>qad E ok 2 rfl rfl rfl qb4 rfl rfl ⟨rfl,trivial⟩ rfl rfl fun w ok=>wpList_nil<|qap<|qaa<|sg<|lv E ok (qag (cs:=[vi r23,vi r23]) qbC rfl rfl (qab.own 2 rfl rfl)) fun a E=>qad E ok 0 rfl rfl rfl qdA rfl rfl ⟨rfl,rfl,trivial⟩ rfl rfl fun w ok=>wn<|wp_ret ?_
   exact fin hF ⟨m0,[vi r23,vi r23],le_m0,ok.drop.drop.drop,E.d,⟨rv_c (cs:=[vi r23,vi r23]) E ok rfl qbC rfl (qab.own 0 rfl rfl),trivial⟩,⟨rfl,r25,r25⟩⟩
 refine wp_seq<|sg<|lw E (qau rfl rfl) fun a E=>aw E rfl fun a E=>bd hF fun o28 hJ hF=>qaL (Q':=fun e a w=>e = .normal ∧ Ok u m0 ([(b9,oc 86 [vi 0,vi 0])] :: [(b8,oc 69 [vi r_1.Operand,vi r_1.Mod,vb r_1.Not,c5])] :: [(b7,oc 86 [vi t_0.a,vi t_0.b])] :: S) w ∧ Env 75 a [(2,vb behind_2),(3,vi digit_3),(4,vp b7),(5,vp b8),(8,vp b9),(52,vb o28)]) ?_ ?_
 ·have hF:=hJ
  refine cf E rfl hF (fun c29 hF=>?_) fun c29 hF=>?_
  ·refine wp_skip ?_
   cases hF
   exact ⟨rfl,⟨ok,E.keep [2,3,4,5,8,52]⟩⟩
  refine qac<|lw E (qau rfl rfl) fun a E=>av E rfl fun a E=>wpList_nil ?_
  cases hF
  exact ⟨rfl,⟨ok,E.keep [2,3,4,5,8,52]⟩⟩
 intro e a w hO
 obtain ⟨rfl,ok,E⟩:=hO
 refine qaa<|cg E rfl hF (fun c30 hF=>?_) fun c30 hF=>?_
 ·refine wp_skip<|qap<|qaa<|sg<|lv E ok (qag (cs:=[vi t_0.a,vi t_0.b]) qbC rfl rfl (qab.own 2 rfl rfl)) fun a E=>qad E ok 0 rfl rfl rfl qdA rfl rfl ⟨rfl,rfl,trivial⟩ rfl rfl fun w ok=>wn<|wp_ret ?_
  exact fin hF ⟨m0,[vi t_0.a,vi t_0.b],le_m0,ok.drop.drop.drop,E.d,⟨rv_c (cs:=[vi t_0.a,vi t_0.b]) E ok rfl qbC rfl (qab.own 0 rfl rfl),trivial⟩,⟨rfl,r1,r2⟩⟩
 refine sg<|mv E rfl fun a E=>wn<|cg E rfl hF (fun c31 hF=>?_) fun c31 hF=>?_
 ·refine wp_skip<|qap<|qaa<|sg<|lv E ok (qag (cs:=[vi t_0.a,vi t_0.b]) qbC rfl rfl (qab.own 2 rfl rfl)) fun a E=>qad E ok 0 rfl rfl rfl qdA rfl rfl ⟨rfl,rfl,trivial⟩ rfl rfl fun w ok=>wn<|wp_ret ?_
  exact fin hF ⟨m0,[vi t_0.a,vi t_0.b],le_m0,ok.drop.drop.drop,E.d,⟨rv_c (cs:=[vi t_0.a,vi t_0.b]) E ok rfl qbC rfl (qab.own 0 rfl rfl),trivial⟩,⟨rfl,r1,r2⟩⟩
 refine sg<|lv E ok (qag (cs:=[vi r_1.Operand,vi r_1.Mod,vb r_1.Not,c5]) qbr rfl rfl (qab.own 1 rfl rfl)) fun a E=>fk E ok qfm qaq rfl 2 rfl rfl fun a E=>lw E (qhV rfl rfl) fun a E=>mv E rfl fun a E=>lw E (qcc rfl rfl) fun a E=>bd hF fun r32 e33 hF=>qan E qlf rfl (qfv N _ r_1 ⟨_,rfl,r3,r4,h6⟩ (IntKind.wrap .i64 ((IntKind.wrap .i64 ((10:Int) * t_0.b)) + digit_3)) (InR.wrap _ _) e33 hG ok) rfl rfl ?_
 rintro _ w ⟨⟨rfl,ok⟩,r34⟩
 refine ⟨_,rfl,fun a E=>?_⟩
 refine fv E qfm rfl fun a E=>qad E ok 2 rfl rfl rfl qb4 rfl rfl ⟨rfl,trivial⟩ rfl rfl fun w ok=>wn<|sg<|mv E rfl fun a E=>lw E (qdp rfl rfl) fun a E=>mv E rfl fun a E=>bu E 66 hF (fun c35 hF E=>?_) fun c35 hF E=>?_
 ·refine lsq E fun a E=>ls E fun a E=>pt E rfl rfl fun a E=>wn<|c_if E rfl (fun _=>?_) (fun h=>by cases h)
  refine qac<|fk E ok qfm qaq rfl 2 rfl rfl fun a E=>fv E qeT rfl fun a E=>qad E ok 2 rfl rfl rfl qb4 rfl rfl ⟨rfl,trivial⟩ rfl rfl fun w ok=>wpList_nil<|qap<|qaa<|sg<|lv E ok (qag (cs:=[vi r32,vi r32]) qbC rfl rfl (qab.own 2 rfl rfl)) fun a E=>qad E ok 0 rfl rfl rfl qdA rfl rfl ⟨rfl,rfl,trivial⟩ rfl rfl fun w ok=>wn<|wp_ret ?_
  exact fin hF ⟨m0,[vi r32,vi r32],le_m0,ok.drop.drop.drop,E.d,⟨rv_c (cs:=[vi r32,vi r32]) E ok rfl qbC rfl (qab.own 0 rfl rfl),trivial⟩,⟨rfl,r34,r34⟩⟩
 refine fk E ok qa1 qaq rfl 1 rfl rfl fun a E=>lw E (qau rfl rfl) fun a E=>pf E rfl rfl fun a E=>wn<|cg E rfl hF (fun c36 hF=>?_) fun c36 hF=>?_
 ·refine wp_skip<|qap<|qaa<|sg<|lv E ok (qag (cs:=[vi t_0.a,vi r32]) qbC rfl rfl (qab.own 2 rfl rfl)) fun a E=>qad E ok 0 rfl rfl rfl qdA rfl rfl ⟨rfl,rfl,trivial⟩ rfl rfl fun w ok=>wn<|wp_ret ?_
  exact fin hF ⟨m0,[vi t_0.a,vi r32],le_m0,ok.drop.drop.drop,E.d,⟨rv_c (cs:=[vi t_0.a,vi r32]) E ok rfl qbC rfl (qab.own 0 rfl rfl),trivial⟩,⟨rfl,r1,r34⟩⟩
 refine qac<|fk E ok qfm qaq rfl 2 rfl rfl fun a E=>fv E qeT rfl fun a E=>qad E ok 2 rfl rfl rfl qb4 rfl rfl ⟨rfl,trivial⟩ rfl rfl fun w ok=>wpList_nil<|qap<|qaa<|sg<|lv E ok (qag (cs:=[vi r32,vi r32]) qbC rfl rfl (qab.own 2 rfl rfl)) fun a E=>qad E ok 0 rfl rfl rfl qdA rfl rfl ⟨rfl,rfl,trivial⟩ rfl rfl fun w ok=>wn<|wp_ret ?_
 exact fin hF ⟨m0,[vi r32,vi r32],le_m0,ok.drop.drop.drop,E.d,⟨rv_c (cs:=[vi r32,vi r32]) E ok rfl qbC rfl (qab.own 0 rfl rfl),trivial⟩,⟨rfl,r34,r34⟩⟩
def qgP (u:World) (m0:Mem) (S:Segs) (r:(List UInt8)) (a:Act) (w:World):Prop :=
 Ok u m0 S w ∧ a.defers = [] ∧ RVs Tryz.prog a w [.t 2 (.string (bs r))] ∧ r.length ≤ LIMS
theorem qgQ (N:Nat) (b_0:Bool) {r:(List UInt8)} (hF:qdX N b_0 = some r) (hG:Glob u) (ok:Ok u m0 S w) :
  Calls Tryz.prog 166 [vb b_0].toArray w fun e w'=>(e = .returned (.string (bs r)) ∧ Ok u m0 S w') ∧ r.length ≤ LIMS:=by
 unfold qdX at hF
 refine en (qgP u m0 S) r Tryz.func166 rfl rfl rfl (fun _ _ h=>rb h rfl) fun fin a E=>sg<|aw E rfl fun a E=>wp_seq<|sg<|mv E rfl fun a E=>wn<|cf E rfl hF (fun c1 hF=>?_) fun c1 hF=>?_
 ·refine sg<|aw E rfl fun a E=>wp_ret<|qal ?_
  exact fin hF ⟨ok,E.d,rz E rfl,(show ([116,114,117,101]:List UInt8).length ≤ LIMS by decide)⟩
 refine wp_skip<|qaa<|sg<|aw E rfl fun a E=>wp_ret ?_
 exact fin hF ⟨ok,E.d,rz E rfl,(show ([102,97,108,115,101]:List UInt8).length ≤ LIMS by decide)⟩
def qja (u:World) (m0:Mem) (S:Segs) (r:(List UInt8)) (a:Act) (w:World):Prop :=
 Ok u m0 S w ∧ a.defers = [] ∧ RVs Tryz.prog a w [.t 2 (.string (bs r))] ∧ r.length ≤ LIMS
theorem qi7 (N:Nat) (b_0:Bool) {r:(List UInt8)} (hF:qf4 N b_0 = some r) (hG:Glob u) (ok:Ok u m0 S w) :
  Calls Tryz.prog 150 [vb b_0].toArray w fun e w'=>(e = .returned (.string (bs r)) ∧ Ok u m0 S w') ∧ r.length ≤ LIMS:=by
 unfold qf4 at hF
 refine en (qja u m0 S) r Tryz.func150 rfl rfl rfl (fun _ _ h=>rb h rfl) fun fin a E=>sg<|aw E rfl fun a E=>sg<|mv E rfl fun a E=>bd hF fun r1 e2 hF=>qan E qrq rfl (qgQ N b_0 e2 hG ok) rfl rfl ?_
 rintro _ w ⟨⟨rfl,ok⟩,l3⟩
 refine ⟨_,rfl,fun a E=>?_⟩
 refine aw E rfl fun a E=>wp_ret ?_
 exact fin hF ⟨ok,E.d,rz E rfl,l3⟩
def qhm (u:World) (m0:Mem) (S:Segs) (pb0:Nat) (x0:qaG) (c1:Value) (c3:Value) (M4:List (Nat × Obj)) (c6:Value) (M7:List (Nat × Obj)) (r:qaG) (a:Act) (w:World):Prop :=
 ∃ m1 c9 c11 M12 c14 M15,m0.le m1 ∧ Ok u m1 ([(pb0,oc 175 [c9,c11,c14])] :: M12 :: M15 :: S) w ∧ a.defers = [] ∧ RVs Tryz.prog a w [] ∧ (pL 4 qak) m1 [c9] r.l ∧ ORow 181 2 qbP m1 c11 r.wholes M12 ∧ ORow 181 2 qbP m1 c14 r.fraction M15
theorem qho (N:Nat) {pb0:Nat} {c1:Value} {c3:Value} {M4:List (Nat × Obj)} {c6:Value} {M7:List (Nat × Obj)} (x0:qaG) (h2:(pL 4 qak) m0 [c1] x0.l) (h5:ORow 181 2 qbP m0 c3 x0.wholes M4) (h8:ORow 181 2 qbP m0 c6 x0.fraction M7) {r:qaG} (hF:qez N x0 = some r) (hG:Glob u) (hTb:Tab u) (ok:Ok u m0 ([(pb0,oc 175 [c1,c3,c6])] :: M4 :: M7 :: S) w) :
  Calls Tryz.prog 126 [vp pb0].toArray w fun e w'=>∃ m1 c9 c11 M12 c14 M15,e = .returned (.tuple [].toArray) ∧ m0.le m1 ∧ Ok u m1 ([(pb0,oc 175 [c9,c11,c14])] :: M12 :: M15 :: S) w' ∧ (pL 4 qak) m1 [c9] r.l ∧ ORow 181 2 qbP m1 c11 r.wholes M12 ∧ ORow 181 2 qbP m1 c14 r.fraction M15:=by
 have le_m0:=Mem.le.refl m0
 unfold qez at hF
 refine en (qhm u m0 S pb0 x0 c1 c3 M4 c6 M7) r Tryz.func126 rfl rfl rfl (by rintro a w ⟨m1,c9,c11,M12,c14,M15,hle,ok,hd,hrv,h0,h1,h2⟩; exact qbS [] hd rfl hrv ⟨m1,c9,c11,M12,c14,M15,rfl,hle,ok,h0,h1,h2⟩) fun fin a E=>sg<|mv E rfl fun a E=>lw E (qaW rfl) fun a E=>fk E ok qgW qcN rfl 0 rfl rfl fun a E=>lv E ok (qaD qbk h2 rfl) fun a E=>bd hF fun l17 e18 hF=>qdZ (R:=qbn) E ok qdD qel rfl ⟨rfl,(ir 0),(ir 0)⟩ rfl e18 rfl rfl fun c19 M20 a w E ok h21=>lw E (qaP (ps:=[(0,.const (vs ([]))),(1,.tmp 19),(2,.const (vb true))]) (qs:=[(0,[(vs ([]))]),(1,[c19]),(2,[vb true])]) (cs:=[(vs ([])),c19,vb true]) qbt qcK rfl ⟨rfl,rfl,rfl,⟨rfl,(ORow.cells h21),rfl,⟨rfl,rfl,rfl,trivial⟩⟩⟩ rfl) fun a E=>?_
 obtain ⟨m22,hle,ok,hfz⟩:=(ok.frs 0 rfl).freeze
 have h23:=ORow.froz qbd h21 hle hfz (by decide)
 have le_m0:=le_m0.trans hle
 have h2:=(mL qaf).up hle h2
 have h5:=ORow.up qb6 hle h5
 have h8:=ORow.up qb6 hle h8
 refine qcn (R:=qgp) (xo:=[.tmp 20]) (xs:=([(State.mk ([]) l17 true)]:List (State))) E ok qj2 qbt rfl ⟨⟨_,rfl,rfl,⟨_,rfl,(show ([]:List UInt8).length ≤ LIMS by decide),h23⟩⟩,trivial⟩ rfl rfl rfl rfl fun c24 M25 a w E ok h26=>aw E rfl fun a E=>sg<|av E rfl fun a E=>wn<|wp_block<|bd hF fun o43 hL hF=>qaF _ (fun (s:(List (State)) × Int × qaG) a w=>∃ m44 c45 M46 c49 c51 M52 c54 M55,m22.le m44 ∧ Ok u m44 (M46 :: [(pb0,oc 175 [c49,c51,c54])] :: M52 :: M55 :: S) w ∧ Env 136 a [(0,vp pb0),(2,c45),(3,vi s.2.1)] ∧ ORow 199 3 qgp m44 c45 s.1 M46 ∧ InR .i64 s.2.1 ∧ (pL 4 qak) m44 [c49] s.2.2.l ∧ ORow 181 2 qbP m44 c51 s.2.2.wholes M52 ∧ ORow 181 2 qbP m44 c54 s.2.2.fraction M55) (fun (b:qaG) e a w=>e = (.exit 0) ∧ ∃ m522 c523 c525 M526 c528 M529,m22.le m522 ∧ Ok u m522 ([(pb0,oc 175 [c523,c525,c528])] :: M526 :: M529 :: S) w ∧ Env 136 a [] ∧ (pL 4 qak) m522 [c523] b.l ∧ ORow 181 2 qbP m522 c525 b.wholes M526 ∧ ORow 181 2 qbP m522 c528 b.fraction M529) ?_ ?_ N _ a w hL ⟨m22,c24,M25,c1,c3,M4,c6,M7,Mem.le.refl _,ok,E.keep [0,2,3],h26,(ir 0),h2,h5,h8⟩
 rotate_left
 ·intro e a w _ hO
  obtain ⟨rfl,m513,c514,c516,M517,c519,M520,hle,ok,E,h515,h518,h521⟩:=hO
  have le_m0:=le_m0.trans hle
  have h2:=(mL qaf).up hle h2
  have h23:=(mL qbd).up hle h23
  refine qaN ?_
  exact fin hF ⟨m513,c514,c516,M517,c519,M520,le_m0,ok,E.d,trivial,h515,h518,h521⟩
 rintro ⟨v57,v58,v59⟩ a w r ⟨m60,c61,M62,c65,c67,M68,c70,M71,hle,ok,E,h63,r64,h66,h69,h72⟩ hF
 replace hF:qd0 N v57 v58 v59 = some r:=hF
 unfold qd0 at hF
 have le_m22:=Mem.le.refl m22
 have le_m0:=le_m0.trans hle
 have le_m22:=le_m22.trans hle
 have h2:=(mL qaf).up hle h2
 have h23:=(mL qbd).up hle h23
 refine wp_seq<|sg<|mv E rfl fun a E=>lw E (qf7 rfl rfl) fun a E=>wn<|cg E rfl hF (fun c73 hF=>?_) fun c73 hF=>?_
 ·refine wp_exit<|qaA ?_
  cases hF
  exact so (⟨rfl,⟨m60,c65,c67,M68,c70,M71,le_m22,(ok.pk 4 [1,2,3] rfl (by decide)),E.keep [],h66,h69,h72⟩⟩)
 refine wp_skip<|qaa<|wp_seq<|wp_block<|sg<|av E rfl fun a E=>wn<|sg<|qh7 kS (oneV pB) E ok rfl rfl fun c74 M75 a w E ok h76=>aw E rfl fun a E=>wp_seq<|sg<|mv E rfl fun a E=>lv E ok (qep qj2 h63 rfl) fun a E=>mv E rfl fun a E=>wn<|wp_block ?_
 obtain ⟨M93,ok,h94⟩:=qes (e:=199) (k:=3) (R:=qgp) ok
 refine bd hF fun o95 hL hF=>qaF _ (fun (s:(List (State)) × Int × qaG × (List (List UInt8 × Bool))) a w=>∃ m96 c97 M98 c101 c103 M104 c106 M107 c109 M110,m60.le m96 ∧ Ok u m96 (M98 :: M110 :: M62 :: [(pb0,oc 175 [c101,c103,c106])] :: M104 :: M107 :: S) w ∧ Env 136 a [(0,vp pb0),(3,vi v58),(4,c97),(5,c109),(27,c61),(28,(vi (v57.length:Int))),(29,vi s.2.1)] ∧ ORow 199 3 qgp m96 c97 s.1 M98 ∧ InR .i64 s.2.1 ∧ (pL 4 qak) m96 [c101] s.2.2.1.l ∧ ORow 181 2 qbP m96 c103 s.2.2.1.wholes M104 ∧ ORow 181 2 qbP m96 c106 s.2.2.1.fraction M107 ∧ OMap kS (oneV pB) m96 c109 s.2.2.2 M110) (fun (b:(qaG × (List (State)))) e a w=>e = (.exit 2) ∧ ∃ m501 c502 c504 M505 c507 M508 c510 M511,m60.le m501 ∧ Ok u m501 (M511 :: M62 :: [(pb0,oc 175 [c502,c504,c507])] :: M505 :: M508 :: S) w ∧ Env 136 a [(0,vp pb0),(3,vi v58),(4,c510)] ∧ (pL 4 qak) m501 [c502] b.1.l ∧ ORow 181 2 qbP m501 c504 b.1.wholes M505 ∧ ORow 181 2 qbP m501 c507 b.1.fraction M508 ∧ ORow 199 3 qgp m501 c510 b.2 M511) ?_ ?_ N _ a w hL ⟨m60,(Value.slice none 0 0),M93,c65,c67,M68,c70,M71,c74,M75,Mem.le.refl _,ok,E.keep [0,3,4,5,27,28,29],h94,(ir 0),h66,h69,h72,h76⟩
 rotate_left
 ·intro e a w _ hO
  obtain ⟨rfl,m489,c490,c492,M493,c495,M496,c498,M499,hle,ok,E,h491,h494,h497,h500⟩:=hO
  have le_m0:=le_m0.trans hle
  have le_m22:=le_m22.trans hle
  have h2:=(mL qaf).up hle h2
  have h23:=(mL qbd).up hle h23
  have h66:=(mL qaf).up hle h66
  refine qaN<|qaa<|qac<|mv E rfl fun a E=>av E rfl fun a E=>wpList_nil<|qap<|qaa<|qac<|mv E rfl fun a E=>lw E (qcc rfl rfl) fun a E=>av E rfl fun a E=>wpList_nil ?_
  cases hF
  exact qas ⟨m489,c498,M499,c490,c492,M493,c495,M496,le_m22,(ok.pk 5 [0,2,3,4] rfl (by decide)),E.keep [0,2,3],h500,(InR.wrap _ _),h491,h494,h497⟩
 rintro ⟨v112,v113,v114,v115⟩ a w r ⟨m116,c117,M118,c121,c123,M124,c126,M127,c129,M130,hle,ok,E,h119,r120,h122,h125,h128,h131⟩ hF
 replace hF:qd1 N v57 v112 v113 v114 v115 = some r:=hF
 unfold qd1 at hF
 have le_m60:=Mem.le.refl m60
 have le_m0:=le_m0.trans hle
 have le_m22:=le_m22.trans hle
 have le_m60:=le_m60.trans hle
 have h2:=(mL qaf).up hle h2
 have h23:=(mL qbd).up hle h23
 have h63:=ORow.up qc9 hle h63
 have h66:=(mL qaf).up hle h66
 refine sg<|lw E (qay rfl rfl) fun a E=>wn<|wp_seq<|cg E rfl hF (fun c132 hF=>?_) fun c132 hF=>?_
 ·refine wp_exit<|qaA ?_
  cases hF
  exact so (⟨rfl,⟨m116,c121,c123,M124,c126,M127,c117,M118,le_m60,(ok.pk 6 [0,2,3,4,5] rfl (by decide)),E.keep [0,3,4],h122,h125,h128,h119⟩⟩)
 refine wp_skip<|qaa<|wp_seq<|wp_block<|sg ?_
 obtain ⟨x133,e134,hF⟩:=bnd hF
 obtain ⟨b135,o136,hp137,yy138⟩:=qcm qj2 h63 e134 (P:=Tryz.prog) (X:=.tmp 27) (I:=.tmp 29) (kd:=.i64) (qaU E rfl) (qaU E rfl)
 refine lv E ok (yy138 _ _) fun a E=>?_
 obtain ⟨es139,hl140,rr141,hh142⟩:=qcY h63 e134 hp137 (by decide)
 obtain ⟨c144,rfl,l143,h145⟩:=rr141
 refine lv E ok (qag (cs:=[vs x133.s,c144,vb x133.integer]) qn4 rfl rfl (hh142 _ _ _ 2 rfl)) fun a E=>qaB E ok qbt rfl rfl fun b146 a w E ok=>qad E ok 0 rfl rfl rfl qem rfl rfl ⟨rfl,(qcO h145),rfl,trivial⟩ rfl rfl fun w ok=>wn<|sg<|mv E rfl fun a E=>fk E ok qhW qiM rfl 0 rfl rfl fun a E=>?_
 obtain ⟨r147,e148,hF⟩:=bnd hF
 replace ok:Ok u m116 ([(pb0,oc 175 [c121,c123,c126])] :: M124 :: M127 :: [(b146,oc 199 [vs x133.s,c144,vb x133.integer])] :: M118 :: M130 :: M62 :: S) w:=(ok.pk 7 [4,5,6,0,1,2,3] rfl (by decide))
 refine qan E qoP rfl (qgy N true _ x133.trackers h145 v114 h122 h125 h128 e148 hG ok) rfl rfl ?_
 rintro _ w ⟨⟨rfl,ok⟩,r149⟩
 refine ⟨_,rfl,fun a E=>?_⟩
 refine aw E rfl fun a E=>wp_seq<|sg<|fk E ok qi9 qdx rfl 3 rfl rfl fun a E=>lw E (qa2 rfl) fun a E=>wn<|bd hF fun o150 hJ hF=>qaL (Q':=fun e a w=>e = .normal ∧ Ok u m116 ([(pb0,oc 175 [c121,c123,c126])] :: M124 :: M127 :: [(b146,oc 199 [vs x133.s,c144,vb x133.integer])] :: M118 :: M130 :: M62 :: S) w ∧ Env 136 a [(0,vp pb0),(3,vi v58),(4,c117),(5,c129),(7,vp b146),(8,vu o150),(27,c61),(28,(vi (v57.length:Int))),(29,vi v113)] ∧ InR .u64 o150) ?_ ?_
 ·have hF:=hJ
  refine cg E rfl hF (fun c152 hF=>?_) fun c152 hF=>?_
  ·refine wp_skip ?_
   cases hF
   exact ⟨rfl,⟨ok,E.keep [0,3,4,5,7,8,27,28,29],r149⟩⟩
  refine qac<|mv E rfl fun a E=>lw E (qhO .or (by decide) rfl rfl) fun a E=>av E rfl fun a E=>wpList_nil ?_
  cases hF
  exact ⟨rfl,⟨ok,E.keep [0,3,4,5,7,8,27,28,29],(qmq .or .u64 r147 9223372036854775808)⟩⟩
 intro e a w hO
 obtain ⟨rfl,ok,E,r153⟩:=hO
 refine qaa<|wp_seq<|bd hF fun o154 hJ hF=>qaL (Q':=fun e a w=>e = .normal ∧ ∃ m155 c156 c158 M159 c161 M162,m116.le m155 ∧ Ok u m155 ([(pb0,oc 175 [c156,c158,c161])] :: M159 :: M162 :: [(b146,oc 199 [vs x133.s,c144,vb x133.integer])] :: M118 :: M130 :: M62 :: S) w ∧ Env 136 a [(0,vp pb0),(3,vi v58),(4,c117),(5,c129),(7,vp b146),(27,c61),(28,(vi (v57.length:Int))),(29,vi v113)] ∧ (pL 4 qak) m155 [c156] o154.l ∧ ORow 181 2 qbP m155 c158 o154.wholes M159 ∧ ORow 181 2 qbP m155 c161 o154.fraction M162) ?_ ?_
 ·have hF:=hJ
  have le_m116:=Mem.le.refl m116
  obtain ⟨r164,e165,hF⟩:=bnd hF
  obtain rfl:=sj hF
  refine qaS [4,7] (Cls u m116 ([(pb0,oc 175 [c121,c123,c126])] :: M124 :: [(b146,oc 199 [vs x133.s,c144,vb x133.integer])] :: M118 :: M130 :: M62 :: [])) (Cls u m116 (M124 :: [(b146,oc 199 [vs x133.s,c144,vb x133.integer])] :: M118 :: M130 :: M62 :: [])) (by kernel_rfl) ?_
  intro w hw
  replace ok:=qa6 ok hw
  clear hw
  have h122_o:=h122
  have h145_o:=h145
  refine qai (cl1 (cq le_m116 ok [0,1,3,4,5,6] rfl) (cq le_m116 ok [1,3,4,5,6] rfl)) fun hT=>kt 0 E rfl hT (qah rfl) fun a E=>kt 1 E rfl hT (qah rfl) fun a E=>kt 2 E rfl hT (qaW rfl) fun a E=>kt 3 E rfl hT (qae qk1 rfl) fun a E=>qaZ 4 E rfl (by kernel_rfl) nP hT (qaj qkj rfl (qab.cown 0 rfl rfl)) rfl rfl fun a E=>kt 5 E rfl hT (qah rfl) fun a E=>kt 6 E rfl hT (qae qk9 rfl) fun a E=>qaZ 7 E rfl (by kernel_rfl) nP hT (qaj qbg rfl (qab.cown 2 rfl rfl)) rfl rfl fun a E=>kt 8 E rfl hT (qaP (ps:=[(0,.tmp 47),(1,.tmp 49)]) (qs:=[(0,[vu o150]),(1,[vs x133.s])]) (cs:=[vu o150,vs x133.s]) qgr qli rfl ⟨rfl,rfl,rfl,⟨rfl,rfl,rfl,trivial⟩⟩ rfl) fun a E=>qar [9] (by kernel_rfl) rfl (qat ?_)
  ·refine qbB (o:=_) rfl ?_
   replace ok:Ok u m116 (M127 :: [(pb0,oc 175 [c121,c123,c126])] :: M124 :: [(b146,oc 199 [vs x133.s,c144,vb x133.integer])] :: M118 :: M130 :: M62 :: S) w:=(ok.pk 7 [2,0,1,3,4,5,6] rfl (by decide))
   refine qan E qo4 rfl (qjf N _ v114.fraction h128 _ (Part.mk o150 x133.s) ⟨rfl,r153,l143⟩ e165 hG ok) rfl rfl ?_
   rintro _ w ⟨m170,c171,M172,rfl,hle,ok,h173⟩
   have le_m0:=le_m0.trans hle
   have le_m22:=le_m22.trans hle
   have le_m60:=le_m60.trans hle
   have le_m116:=le_m116.trans hle
   have h2:=(mL qaf).up hle h2
   have h23:=(mL qbd).up hle h23
   have h63:=ORow.up qc9 hle h63
   have h66:=(mL qaf).up hle h66
   have h119:=ORow.up qc9 hle h119
   have h122:=(mL qaf).up hle h122
   have h125:=ORow.up qb6 hle h125
   have h131:=OMap.up (qf5 mB) hle h131
   have h145:=(mL qbd).up hle h145
   refine ⟨_,rfl,fun a E=>?_⟩
   refine wn<|qai (cl1 (cq le_m116 ok [1,2,3,4,5,6] rfl) (cq le_m116 ok [2,3,4,5,6] rfl)) fun hT=>kt 10 E rfl hT (qaW rfl) fun a E=>kt 11 E rfl hT (qae qk1 rfl) fun a E=>qar [12] (by kernel_rfl) rfl (qat ?_)
   ·refine wo rfl<|qad E ok 1 rfl rfl rfl qn2 (ORow.cells h173) rfl ⟨(ORow.one h173),trivial⟩ rfl rfl fun w ok=>wn<|qai (cl2 (by kernel_rfl) (cq le_m116 ok [2,3,4,5,6] rfl)) fun hT=>qaR (by kernel_rfl) ?_
    exact ⟨rfl,⟨m170,c121,c123,M124,c171,M172,le_m116,(ok.pk 7 [1,2,0,3,4,5,6] rfl (by decide)),E.keep [0,3,4,5,7,27,28,29],h122,h125,h173⟩⟩
 intro e a w hO
 obtain ⟨rfl,m174,c175,c177,M178,c180,M181,hle,ok,E,h176,h179,h182⟩:=hO
 have le_m0:=le_m0.trans hle
 have le_m22:=le_m22.trans hle
 have le_m60:=le_m60.trans hle
 have h2:=(mL qaf).up hle h2
 have h23:=(mL qbd).up hle h23
 have h63:=ORow.up qc9 hle h63
 have h66:=(mL qaf).up hle h66
 have h119:=ORow.up qc9 hle h119
 have h122:=(mL qaf).up hle h122
 have h131:=OMap.up (qf5 mB) hle h131
 have h145:=(mL qbd).up hle h145
 refine qaa<|sg<|mv E rfl fun a E=>wn<|wp_block<|bd hF fun o194 hL hF=>qaF _ (fun (s:(List (State)) × Int × (List (List UInt8 × Bool))) a w=>∃ m195 c196 M197 c200 M201,m174.le m195 ∧ Ok u m195 ([(pb0,oc 175 [c175,c177,c180])] :: M178 :: M181 :: [(b146,oc 199 [vs x133.s,c144,vb x133.integer])] :: M197 :: M201 :: M62 :: S) w ∧ Env 136 a [(0,vp pb0),(3,vi v58),(4,c196),(5,c200),(7,vp b146),(27,c61),(28,(vi (v57.length:Int))),(29,vi v113),(54,vi s.2.1)] ∧ ORow 199 3 qgp m195 c196 s.1 M197 ∧ InR .i64 s.2.1 ∧ OMap kS (oneV pB) m195 c200 s.2.2 M201) (fun (b:((List (State)) × (List (List UInt8 × Bool)))) e a w=>e = (.exit 4) ∧ ∃ m482 c483 M484 c486 M487,m174.le m482 ∧ Ok u m482 ([(pb0,oc 175 [c175,c177,c180])] :: M178 :: M181 :: [(b146,oc 199 [vs x133.s,c144,vb x133.integer])] :: M484 :: M487 :: M62 :: S) w ∧ Env 136 a [(0,vp pb0),(3,vi v58),(4,c483),(5,c486),(27,c61),(28,(vi (v57.length:Int))),(29,vi v113)] ∧ ORow 199 3 qgp m482 c483 b.1 M484 ∧ OMap kS (oneV pB) m482 c486 b.2 M487) ?_ ?_ N _ a w hL ⟨m174,c117,M118,c129,M130,Mem.le.refl _,ok,E.keep [0,3,4,5,7,27,28,29,54],h119,(ir 0),h131⟩
 rotate_left
 ·intro e a w _ hO
  obtain ⟨rfl,m475,c476,M477,c479,M480,hle,ok,E,h478,h481⟩:=hO
  have le_m0:=le_m0.trans hle
  have le_m22:=le_m22.trans hle
  have le_m60:=le_m60.trans hle
  have h2:=(mL qaf).up hle h2
  have h23:=(mL qbd).up hle h23
  have h63:=ORow.up qc9 hle h63
  have h66:=(mL qaf).up hle h66
  have h122:=(mL qaf).up hle h122
  have h145:=(mL qbd).up hle h145
  have h176:=(mL qaf).up hle h176
  have h179:=ORow.up qb6 hle h179
  have h182:=ORow.up qb6 hle h182
  refine qaN<|qap<|qaa<|qac<|lw E (qaE rfl rfl (InR.inc r120 (ORow.InR h63) c132)) fun a E=>mv E rfl fun a E=>wpList_nil ?_
  cases hF
  exact qas ⟨m475,c476,M477,c175,c177,M178,c180,M181,c479,M480,le_m60,(ok.pk 7 [4,5,6,0,1,2] rfl (by decide)),E.keep [0,3,4,5,27,28,29],h478,(InR.inc r120 (ORow.InR h63) c132),h176,h179,h182,h481⟩
 rintro ⟨v203,v204,v205⟩ a w r ⟨m206,c207,M208,c211,M212,hle,ok,E,h209,r210,h213⟩ hF
 replace hF:qdW N x133 o154 v203 v204 v205 = some r:=hF
 unfold qdW at hF
 have le_m174:=Mem.le.refl m174
 have le_m0:=le_m0.trans hle
 have le_m22:=le_m22.trans hle
 have le_m60:=le_m60.trans hle
 have le_m174:=le_m174.trans hle
 have h2:=(mL qaf).up hle h2
 have h23:=(mL qbd).up hle h23
 have h63:=ORow.up qc9 hle h63
 have h66:=(mL qaf).up hle h66
 have h122:=(mL qaf).up hle h122
 have h145:=(mL qbd).up hle h145
 have h176:=(mL qaf).up hle h176
 have h179:=ORow.up qb6 hle h179
 have h182:=ORow.up qb6 hle h182
 refine sg<|lw E (qay rfl rfl) fun a E=>wn<|wp_seq<|cg E rfl hF (fun c214 hF=>?_) fun c214 hF=>?_
 ·refine wp_exit<|qaA ?_
  cases hF
  exact so (⟨rfl,⟨m206,c207,M208,c211,M212,le_m174,ok,E.keep [0,3,4,5,27,28,29],h209,h213⟩⟩)
 refine wp_skip<|qaa<|wp_seq<|wp_block<|sg<|mv E rfl fun a E=>av E rfl fun a E=>wn<|wp_seq<|bd hF fun o215 hJ hF=>qaL (Q':=fun e a w=>e = .normal ∧ ∃ b220 c217 M218,Ok u m206 ([(b220,oc 199 [vs o215.s,c217,vb o215.integer])] :: M218 :: [(pb0,oc 175 [c175,c177,c180])] :: M178 :: M181 :: [(b146,oc 199 [vs x133.s,c144,vb x133.integer])] :: M208 :: M212 :: M62 :: S) w ∧ Env 136 a [(0,vp pb0),(3,vi v58),(4,c207),(5,c211),(7,vp b146),(9,vi v204),(10,vp b220),(27,c61),(28,(vi (v57.length:Int))),(29,vi v113),(54,vi v204)] ∧ o215.s.length ≤ LIMS ∧ ORow 86 2 qbn m206 c217 o215.trackers M218) ?_ ?_
 rotate_left
 ·as_aux_lemma =>
   intro e a w hO
   obtain ⟨rfl,b288,c285,M286,ok,E,l284,h287⟩:=hO
   refine qaa<|sg<|fk E ok qi9 qdx rfl 0 rfl rfl fun a E=>bd hF fun r289 e290 hF=>qan E qqL rfl (qi7 N o215.integer e290 hG ok) rfl rfl ?_
   rintro _ w ⟨⟨rfl,ok⟩,l291⟩
   refine ⟨_,rfl,fun a E=>?_⟩
   refine aw E rfl fun a E=>wp_seq<|sg<|mv E rfl fun a E=>lw E (qaW rfl) fun a E=>fk E ok qgW qcN rfl 2 rfl rfl fun a E=>lv E ok (qaD qbk h176 rfl) fun a E=>mv E rfl fun a E=>wn<|wp_block<|bd hF fun o300 hL hF=>qaF _ (fun (s:(List UInt8) × Int × State) a w=>∃ m301 c305 M306,m206.le m301 ∧ Ok u m301 ([(b288,oc 199 [vs s.2.2.s,c305,vb s.2.2.integer])] :: M306 :: [(pb0,oc 175 [c175,c177,c180])] :: M178 :: M181 :: [(b146,oc 199 [vs x133.s,c144,vb x133.integer])] :: M208 :: M212 :: M62 :: S) w ∧ Env 136 a [(0,vp pb0),(3,vi v58),(4,c207),(5,c211),(7,vp b146),(9,vi v204),(10,vp b288),(11,vs s.1),(27,c61),(28,(vi (v57.length:Int))),(29,vi v113),(54,vi v204),(81,c175),(82,(vi (o154.l.length:Int))),(83,vi s.2.1)] ∧ s.1.length ≤ LIMS ∧ InR .i64 s.2.1 ∧ s.2.2.s.length ≤ LIMS ∧ ORow 86 2 qbn m301 c305 s.2.2.trackers M306) (fun (b:(State × (List UInt8))) e a w=>e = (.exit 6) ∧ ∃ m469 c471 M472,m206.le m469 ∧ Ok u m469 ([(b288,oc 199 [vs b.1.s,c471,vb b.1.integer])] :: M472 :: [(pb0,oc 175 [c175,c177,c180])] :: M178 :: M181 :: [(b146,oc 199 [vs x133.s,c144,vb x133.integer])] :: M208 :: M212 :: M62 :: S) w ∧ Env 136 a [(0,vp pb0),(3,vi v58),(4,c207),(5,c211),(7,vp b146),(10,vp b288),(11,vs b.2),(27,c61),(28,(vi (v57.length:Int))),(29,vi v113),(54,vi v204)] ∧ b.1.s.length ≤ LIMS ∧ ORow 86 2 qbn m469 c471 b.1.trackers M472 ∧ b.2.length ≤ LIMS) ?_ ?_ N _ a w hL ⟨m206,c285,M286,Mem.le.refl _,ok,E.keep [0,3,4,5,7,9,10,11,27,28,29,54,81,82,83],l291,(ir 0),l284,h287⟩
   rotate_left
   ·as_aux_lemma =>
     intro e a w _ hO
     obtain ⟨rfl,m444,c446,M447,hle,ok,E,l445,h448,l449⟩:=hO
     have le_m0:=le_m0.trans hle
     have le_m22:=le_m22.trans hle
     have le_m60:=le_m60.trans hle
     have le_m174:=le_m174.trans hle
     have h2:=(mL qaf).up hle h2
     have h23:=(mL qbd).up hle h23
     have h63:=ORow.up qc9 hle h63
     have h66:=(mL qaf).up hle h66
     have h122:=(mL qaf).up hle h122
     have h145:=(mL qbd).up hle h145
     have h176:=(mL qaf).up hle h176
     have h179:=ORow.up qb6 hle h179
     have h182:=ORow.up qb6 hle h182
     have h209:=ORow.up qc9 hle h209
     have h213:=OMap.up (qf5 mB) hle h213
     refine qaN<|qaa<|sg<|mz E rfl rfl fun a E=>?_
     obtain ⟨xv450,h451,yy452,yy453⟩:=qmN (P:=Tryz.prog) (mo:=.tmp 123) (ko:=.tmp 124) (zx:=(false:Bool)) ok 7 (qnw Tryz.underlying9) Tryz.underlying201 h213 rfl (qaU E rfl) (qaU E rfl) ⟨rfl,l449⟩ qqa qkr
     obtain rfl:=qox h451
     refine lv E ok (yy452 _) fun a E=>lw E (qa2 rfl) fun a E=>wn<|cg E rfl hF (fun c454 hF=>?_) fun c454 hF=>?_
     ·refine wp_skip<|qap<|qaa<|qac<|lw E (qaE rfl rfl (InR.inc r210 (ir 10) c214)) fun a E=>mv E rfl fun a E=>wpList_nil ?_
      cases hF
      exact qas ⟨m444,c207,M208,c211,M212,le_m174,(ok.pk 9 [2,3,4,5,6,7,8] rfl (by decide)),E.keep [0,3,4,5,7,27,28,29,54],h209,(InR.inc r210 (ir 10) c214),h213⟩
     refine sg<|mz E rfl rfl fun a E=>bd hF fun l455 e456 hF=>qiK (.inl rfl) E ok 7 (qnw Tryz.underlying9) Tryz.underlying201 h213 rfl rfl rfl rfl ⟨rfl,l449⟩ qkr e456 rfl fun M457 w ok h458=>wn<|qac<|mv E rfl fun a E=>lv E ok (qag (cs:=[vs o300.1.s,c446,vb o300.1.integer]) qn4 rfl rfl (qab.own 0 rfl rfl)) fun a E=>?_
     obtain ⟨m459,hle,ok,hfz⟩:=(ok.frs 1 rfl).freeze
     have h460:=ORow.froz qbd h448 hle hfz (by decide)
     have le_m0:=le_m0.trans hle
     have le_m22:=le_m22.trans hle
     have le_m60:=le_m60.trans hle
     have le_m174:=le_m174.trans hle
     have h2:=(mL qaf).up hle h2
     have h23:=(mL qbd).up hle h23
     have h63:=ORow.up qc9 hle h63
     have h66:=(mL qaf).up hle h66
     have h122:=(mL qaf).up hle h122
     have h145:=(mL qbd).up hle h145
     have h176:=(mL qaf).up hle h176
     have h179:=ORow.up qb6 hle h179
     have h182:=ORow.up qb6 hle h182
     have h209:=ORow.up qc9 hle h209
     have h458:=OMap.up (qf5 mB) hle h458
     refine qcn (R:=qgp) (xo:=[.tmp 130]) (xs:=([o300.1]:List (State))) E ok qj2 qbt rfl ⟨⟨_,rfl,rfl,⟨_,rfl,l445,h460⟩⟩,trivial⟩ rfl rfl rfl rfl fun c461 M462 a w E ok h463=>bd hF fun l464 e465 hF=>qee (R:=qgp) E ok 6 qc9 qj2 Tryz.underlying200 rfl h209 (qb7.ofRow h463 0 rfl ok) e465 ⟨_,qbt,rfl⟩ rfl rfl rfl rfl fun c466 M467 a w E ok h468=>av E rfl fun a E=>wpList_nil<|qap<|qaa<|qac<|lw E (qaE rfl rfl (InR.inc r210 (ir 10) c214)) fun a E=>mv E rfl fun a E=>wpList_nil ?_
     cases hF
     exact qas ⟨m459,c466,M467,c211,M457,le_m174,(ok.pk 9 [2,3,4,5,6,7,8] rfl (by decide)),E.keep [0,3,4,5,7,27,28,29,54],h468,(InR.inc r210 (ir 10) c214),h458⟩
   rintro ⟨v308,v309,v310⟩ a w r ⟨m311,c315,M316,hle,ok,E,l312,r313,l314,h317⟩ hF
   replace hF:qdQ N x133 o154 v204 v308 v309 v310 = some r:=hF
   unfold qdQ at hF
   have le_m206:=Mem.le.refl m206
   have le_m0:=le_m0.trans hle
   have le_m22:=le_m22.trans hle
   have le_m60:=le_m60.trans hle
   have le_m174:=le_m174.trans hle
   have le_m206:=le_m206.trans hle
   have h2:=(mL qaf).up hle h2
   have h23:=(mL qbd).up hle h23
   have h63:=ORow.up qc9 hle h63
   have h66:=(mL qaf).up hle h66
   have h122:=(mL qaf).up hle h122
   have h145:=(mL qbd).up hle h145
   have h176:=(mL qaf).up hle h176
   have h179:=ORow.up qb6 hle h179
   have h182:=ORow.up qb6 hle h182
   have h209:=ORow.up qc9 hle h209
   have h213:=OMap.up (qf5 mB) hle h213
   refine sg<|lw E (qay rfl rfl) fun a E=>wn<|wp_seq<|cg E rfl hF (fun c318 hF=>?_) fun c318 hF=>?_
   ·refine wp_exit<|qaA ?_
    cases hF
    exact so (⟨rfl,⟨m311,c315,M316,le_m206,ok,E.keep [0,3,4,5,7,10,11,27,28,29,54],l314,h317,l312⟩⟩)
   refine wp_skip<|qaa<|wp_seq<|wp_block<|sg<|mv E rfl fun a E=>?_
   obtain ⟨x319,e320,hF⟩:=bnd hF
   obtain ⟨b321,o322,es323,hl324,rr325,at326,yy327⟩:=ia E 81 83 qbk h176 e320
   obtain ⟨c330,rfl,r328,r329,h331⟩:=rr325
   refine lv E ok (yy327 _ _) fun a E=>lv E ok (qag (cs:=[vi x319.Operand,vi x319.Mod,vb x319.Not,c330]) qbr rfl rfl (qab.ro at326)) fun a E=>qaB E ok qcW rfl rfl fun b332 a w E ok=>av E rfl fun a E=>qad E ok 0 rfl rfl rfl qf3 rfl rfl ⟨rfl,rfl,rfl,(qcO h331),trivial⟩ rfl rfl fun w ok=>wn<|wp_seq<|sg<|lv E ok (qag (cs:=[vi x319.Operand,vi x319.Mod,vb x319.Not,c330]) qbr rfl rfl (qab.own 0 rfl rfl)) fun a E=>bd hF fun r333 e334 hF=>lc E qjZ rfl (qet N _ x319 ⟨_,rfl,r328,r329,h331⟩ e334 hG ok) fun w ok a E=>lw E (qa2 rfl) fun a E=>wn<|bd hF fun o335 hJ hF=>qaL (Q':=fun e a w=>e = .normal ∧ ∃ m336 c338 M339,m311.le m336 ∧ Ok u m336 ([(b332,oc 69 [vi x319.Operand,vi x319.Mod,vb x319.Not,c330])] :: [(b288,oc 199 [vs o335.s,c338,vb o335.integer])] :: M339 :: [(pb0,oc 175 [c175,c177,c180])] :: M178 :: M181 :: [(b146,oc 199 [vs x133.s,c144,vb x133.integer])] :: M208 :: M212 :: M62 :: S) w ∧ Env 136 a [(0,vp pb0),(3,vi v58),(4,c207),(5,c211),(7,vp b146),(9,vi v204),(10,vp b288),(11,vs v308),(12,vi v309),(27,c61),(28,(vi (v57.length:Int))),(29,vi v113),(54,vi v204),(81,c175),(82,(vi (o154.l.length:Int))),(83,vi v309)] ∧ o335.s.length ≤ LIMS ∧ ORow 86 2 qbn m336 c338 o335.trackers M339) ?_ ?_
   rotate_left
   ·intro e a w hO
    obtain ⟨rfl,m401,c403,M404,hle,ok,E,l402,h405⟩:=hO
    have le_m0:=le_m0.trans hle
    have le_m22:=le_m22.trans hle
    have le_m60:=le_m60.trans hle
    have le_m174:=le_m174.trans hle
    have le_m206:=le_m206.trans hle
    have h2:=(mL qaf).up hle h2
    have h23:=(mL qbd).up hle h23
    have h63:=ORow.up qc9 hle h63
    have h66:=(mL qaf).up hle h66
    have h122:=(mL qaf).up hle h122
    have h145:=(mL qbd).up hle h145
    have h176:=(mL qaf).up hle h176
    have h179:=ORow.up qb6 hle h179
    have h182:=ORow.up qb6 hle h182
    have h209:=ORow.up qc9 hle h209
    have h213:=OMap.up (qf5 mB) hle h213
    have h331:=(mL qc2).up hle h331
    have at326:=At.up hle at326
    refine qaa<|qeU (by kernel_rfl) (by kernel_rfl) ok<|qv E (qah rfl) fun a E=>qv E (qae qhW rfl) fun a E=>qv E (qaj qiM rfl (qab.own 1 rfl rfl)) fun a E=>qv E (qah rfl) fun a E=>?_
    obtain ⟨x406,e407,hF⟩:=bnd hF
    obtain ⟨b408,o409,hp410,yy411⟩:=qcm qdD h405 e407 (P:=Tryz.prog) (X:=.tmp 105) (I:=.tmp 106) (kd:=.i64) (qaU E rfl) (qaU E rfl)
    refine qv E (yy411 _ _) fun a E=>qv E (qae qeT rfl) fun a E=>?_
    obtain ⟨es412,hl413,rr414,hh415⟩:=qcY h405 e407 hp410 (by decide)
    obtain ⟨rfl,r416,r417⟩:=rr414
    refine qv E (qaj qaq rfl (qab.sub 0 1 (hh415 _ _ _ 2 rfl))) fun a E=>?_
    obtain ⟨r418,e419,hF⟩:=bnd hF
    obtain ⟨_,_,⟨_,_⟩,l420⟩:=Go.X.Calls.get (qbj N x406.a r416 e419 hG hTb ok)
    refine qfT E qfh rfl (fun w ok=>(qbj N x406.a r416 e419 hG hTb ok).mono (fun _ _ h=>h.1)) rfl rfl fun a E=>bd hF fun s421 e422 hF=>qv E (qdf rfl rfl e422) fun a E=>bd hF fun s423 e424 hF=>qv E (qdf rfl rfl e424) fun a E=>qv E (qae qhW rfl) fun a E=>qv E (qaj qiM rfl (qab.own 1 rfl rfl)) fun a E=>qv E (qah rfl) fun a E=>?_
    obtain ⟨x425,e426,hF⟩:=bnd hF
    obtain ⟨b427,o428,hp429,yy430⟩:=qcm qdD h405 e426 (P:=Tryz.prog) (X:=.tmp 114) (I:=.tmp 115) (kd:=.i64) (qaU E rfl) (qaU E rfl)
    refine qv E (yy430 _ _) fun a E=>qv E (qae qfm rfl) fun a E=>?_
    obtain ⟨es431,hl432,rr433,hh434⟩:=qcY h405 e426 hp429 (by decide)
    obtain ⟨rfl,r435,r436⟩:=rr433
    refine qv E (qaj qaq rfl (qab.sub 1 1 (hh434 _ _ _ 2 rfl))) fun a E=>?_
    obtain ⟨r437,e438,hF⟩:=bnd hF
    obtain ⟨_,_,⟨_,_⟩,l439⟩:=Go.X.Calls.get (qbj N x425.b r436 e438 hG hTb ok)
    refine qfT E qfh rfl (fun w ok=>(qbj N x425.b r436 e438 hG hTb ok).mono (fun _ _ h=>h.1)) rfl rfl fun a E=>bd hF fun s440 e441 hF=>qv E (qdf rfl rfl e441) fun a E=>bd hF fun s442 e443 hF=>qv E (qdf rfl rfl e443) fun a E=>qv E (qbA rfl) fun a E=>wpQuiet_nil ?_
    intro w ok
    refine qap<|qaa<|qac<|lw E (qaE rfl rfl (InR.inc r313 (qao h176) c318)) fun a E=>mv E rfl fun a E=>wpList_nil ?_
    cases hF
    exact qas ⟨m401,c403,M404,le_m206,(ok.pk 10 [1,2,3,4,5,6,7,8,9] rfl (by decide)),E.keep [0,3,4,5,7,9,10,11,27,28,29,54,81,82,83],(qcg e443),(InR.inc r313 (qao h176) c318),l402,h405⟩
   have hF:=hJ
   have le_m311:=Mem.le.refl m311
   refine cg E rfl hF (fun c341 hF=>?_) fun c341 hF=>?_
   ·refine wp_skip ?_
    cases hF
    exact ⟨rfl,⟨m311,c315,M316,le_m311,ok,E.keep [0,3,4,5,7,9,10,11,12,27,28,29,54,81,82,83],l314,h317⟩⟩
   refine bd hF fun o342 hJ hF=>qaL (Q':=fun e a w=>e = .normal ∧ ∃ m343 c345 M346,m311.le m343 ∧ Ok u m343 ([(b332,oc 69 [vi x319.Operand,vi x319.Mod,vb x319.Not,c330])] :: [(b288,oc 199 [vs o342.s,c345,vb o342.integer])] :: M346 :: [(pb0,oc 175 [c175,c177,c180])] :: M178 :: M181 :: [(b146,oc 199 [vs x133.s,c144,vb x133.integer])] :: M208 :: M212 :: M62 :: S) w ∧ Env 136 a [(0,vp pb0),(3,vi v58),(4,c207),(5,c211),(7,vp b146),(9,vi v204),(10,vp b288),(11,vs v308),(12,vi v309),(27,c61),(28,(vi (v57.length:Int))),(29,vi v113),(54,vi v204),(81,c175),(82,(vi (o154.l.length:Int))),(83,vi v309)] ∧ o342.s.length ≤ LIMS ∧ ORow 86 2 qbn m343 c345 o342.trackers M346) ?_ ?_
   rotate_left
   ·intro e a w hO
    obtain ⟨rfl,m396,c398,M399,hle,ok,E,l397,h400⟩:=hO
    have le_m0:=le_m0.trans hle
    have le_m22:=le_m22.trans hle
    have le_m60:=le_m60.trans hle
    have le_m174:=le_m174.trans hle
    have le_m206:=le_m206.trans hle
    have le_m311:=le_m311.trans hle
    have h2:=(mL qaf).up hle h2
    have h23:=(mL qbd).up hle h23
    have h63:=ORow.up qc9 hle h63
    have h66:=(mL qaf).up hle h66
    have h122:=(mL qaf).up hle h122
    have h145:=(mL qbd).up hle h145
    have h176:=(mL qaf).up hle h176
    have h179:=ORow.up qb6 hle h179
    have h182:=ORow.up qb6 hle h182
    have h209:=ORow.up qc9 hle h209
    have h213:=OMap.up (qf5 mB) hle h213
    have h331:=(mL qc2).up hle h331
    have at326:=At.up hle at326
    cases hF
    exact ⟨rfl,⟨m396,c398,M399,le_m311,ok,E.keep [0,3,4,5,7,9,10,11,12,27,28,29,54,81,82,83],l397,h400⟩⟩
   have hF:=hJ
   obtain ⟨x348,e349,hF⟩:=bnd hF
   obtain ⟨r359,e360,hF⟩:=bnd hF
   obtain ⟨x366,e367,hF⟩:=bnd hF
   obtain ⟨l372,e373,hF⟩:=bnd hF
   obtain rfl:=sj hF
   refine qaS [1,4,7,8] (Cls u m311 ([(b332,oc 69 [vi x319.Operand,vi x319.Mod,vb x319.Not,c330])] :: [(b288,oc 199 [vs v310.s,c315,vb v310.integer])] :: [(pb0,oc 175 [c175,c177,c180])] :: M178 :: M181 :: [(b146,oc 199 [vs x133.s,c144,vb x133.integer])] :: M208 :: M212 :: M62 :: [])) (Cls u m311 ([(b332,oc 69 [vi x319.Operand,vi x319.Mod,vb x319.Not,c330])] :: [(pb0,oc 175 [c175,c177,c180])] :: M178 :: M181 :: [(b146,oc 199 [vs x133.s,c144,vb x133.integer])] :: M208 :: M212 :: M62 :: [])) (by kernel_rfl) ?_
   intro w hw
   replace ok:=qa6 ok hw
   clear hw
   have h145_o:=h145
   have h331_o:=h331
   refine qai (cl1 (cq le_m311 ok [0,1,3,4,5,6,7,8,9] rfl) (cq le_m311 ok [0,3,4,5,6,7,8,9] rfl)) fun hT=>kt 0 E rfl hT (qae qhW rfl) fun a E=>qaZ 1 E rfl (by kernel_rfl) nP hT (qaj qiM rfl (qab.cown 1 rfl rfl)) rfl rfl fun a E=>kt 2 E rfl hT (qah rfl) fun a E=>kt 3 E rfl hT (qae qhW rfl) fun a E=>qaZ 4 E rfl (by kernel_rfl) nP hT (qaj qiM rfl (qab.cown 5 rfl rfl)) rfl rfl fun a E=>kt 5 E rfl hT (qah rfl) fun a E=>?_
   obtain ⟨b376,o377,es378,hl379,rr380,at381,yy382⟩:=ia E 95 96 qdD h145 e349
   obtain ⟨rfl,r383,r384⟩:=rr380
   refine kt 6 E rfl hT (yy382 _ _) fun a E=>qaZ 7 E rfl (by kernel_rfl) nP hT (qag (cs:=[vi x348.a,vi x348.b]) qbC rfl rfl (qab.cro at381)) rfl rfl fun a E=>qaZ 8 E rfl (by kernel_rfl) nP hT (qag (cs:=[vi x319.Operand,vi x319.Mod,vb x319.Not,c330]) qbr rfl rfl (qab.cown 0 rfl rfl)) rfl rfl fun a E=>kt 9 E rfl hT (qah rfl) fun a E=>qar [10] (by kernel_rfl) rfl (qat ?_)
   ·refine wo rfl<|qan E qlN rfl (qdc N _ x348 ⟨rfl,r383,r384⟩ _ x319 ⟨_,rfl,r328,r329,h331⟩ true v204 r210 e360 hG ok) rfl rfl ?_
    rintro _ w ⟨m385,vs386,rfl,hle,ok,h387⟩
    have le_m0:=le_m0.trans hle
    have le_m22:=le_m22.trans hle
    have le_m60:=le_m60.trans hle
    have le_m174:=le_m174.trans hle
    have le_m206:=le_m206.trans hle
    have le_m311:=le_m311.trans hle
    have h2:=(mL qaf).up hle h2
    have h23:=(mL qbd).up hle h23
    have h63:=ORow.up qc9 hle h63
    have h66:=(mL qaf).up hle h66
    have h122:=(mL qaf).up hle h122
    have h145:=(mL qbd).up hle h145
    have h176:=(mL qaf).up hle h176
    have h179:=ORow.up qb6 hle h179
    have h182:=ORow.up qb6 hle h182
    have h209:=ORow.up qc9 hle h209
    have h213:=OMap.up (qf5 mB) hle h213
    have h317:=ORow.up qbd hle h317
    have h331:=(mL qc2).up hle h331
    have at326:=At.up hle at326
    have at381:=At.up hle at381
    obtain ⟨rfl,r388,r389⟩:=h387
    refine ⟨_,rfl,fun a E=>?_⟩
    refine wn<|qai (cl1 (cq le_m311 ok [0,1,3,4,5,6,7,8,9] rfl) (cq le_m311 ok [0,3,4,5,6,7,8,9] rfl)) fun hT=>?_
    obtain ⟨b390,o391,hp392,yy393⟩:=qcm qdD h317 e367 (P:=Tryz.prog) (X:=.tmp 92) (I:=.tmp 93) (kd:=.i64) (qaU E rfl) (qaU E rfl)
    refine kt 11 E rfl hT (yy393 _ _) fun a E=>qar [12] (by kernel_rfl) rfl (qat ?_)
    ·refine wo rfl<|qga (R:=qbn) E ok 2 rfl h317 e367 hp392 rfl rfl qdA rfl rfl rfl ⟨rfl,rfl,trivial⟩ ⟨rfl,r388,r389⟩ e373 rfl fun M394 w ok h395=>wn<|qai (cl2 (by kernel_rfl) (cq le_m311 ok [0,3,4,5,6,7,8,9] rfl)) fun hT=>qaR (by kernel_rfl) ?_
     exact ⟨rfl,⟨m385,c315,M394,le_m311,ok,E.keep [0,3,4,5,7,9,10,11,12,27,28,29,54,81,82,83],l314,h395⟩⟩
 have hF:=hJ
 obtain ⟨r221,e222,hF⟩:=bnd hF
 obtain ⟨s224,e225,hF⟩:=bnd hF
 refine bd hF fun l226 e227 hF=>qbN x133.integer (fun c231=>?_) (fun c231=>?_)
 ·as_aux_lemma =>
   have hF:=qbK c231 hF
   cases hF
   refine qaS [] (Cls u m206 ([(pb0,oc 175 [c175,c177,c180])] :: M178 :: M181 :: [(b146,oc 199 [vs x133.s,c144,vb x133.integer])] :: M208 :: M212 :: M62 :: [])) (Cls u m206 ([(pb0,oc 175 [c175,c177,c180])] :: M178 :: M181 :: [(b146,oc 199 [vs x133.s,c144,vb x133.integer])] :: M208 :: M212 :: M62 :: [])) (by kernel_rfl) ?_
   intro w hw
   replace ok:=qa6 ok hw
   clear hw
   have le_m206:=Mem.le.refl m206
   refine qai (cl1 (cq le_m206 ok [0,1,2,3,4,5,6] rfl) (cq le_m206 ok [0,1,2,3,4,5,6] rfl)) fun hT=>kt 0 E rfl hT (qae qk9 rfl) fun a E=>kt 1 E rfl hT (qaj qbg rfl (qab.cown 3 rfl rfl)) fun a E=>kt 2 E rfl hT (qah rfl) fun a E=>kt 5 E rfl hT (qah rfl) fun a E=>kt 6 E rfl hT (qaW rfl) fun a E=>kt 7 E rfl hT (qae qgW rfl) fun a E=>kt 8 E rfl hT (qaj qcN rfl (qab.cown 0 rfl rfl)) fun a E=>kt 9 E rfl hT (qaD qbk h176 rfl) fun a E=>kt 11 E rfl hT (qae qi9 rfl) fun a E=>kt 12 E rfl hT (qaj qdx rfl (qab.cown 3 rfl rfl)) fun a E=>qar [3,10,18] (by kernel_rfl) rfl (qef ?_ (qef ?_ (qef ?_ (qhx))))
   ·refine wo rfl<|qan E qfh rfl (qbj N v204 r210 e222 hG hTb ok) rfl rfl ?_
    rintro _ w ⟨⟨rfl,ok⟩,l233⟩
    refine ⟨_,rfl,fun a E=>?_⟩
    refine wn<|qai (cl1 (cq le_m206 ok [0,1,2,3,4,5,6] rfl) (cq le_m206 ok [0,1,2,3,4,5,6] rfl)) fun hT=>kt 4 E rfl hT (qdf rfl rfl e225) fun a E=>kt 13 E rfl hT (qah rfl) fun a E=>?_
    have E:=E.upd 70 c231 rfl
    refine kt 14 E rfl hT (qah rfl) fun a E=>kt 15 E rfl hT (qau rfl rfl) fun a E=>kt 16 E rfl hT (qaY rfl rfl) fun a E=>qar [10,18] (by kernel_rfl) rfl (qef ?_ (qef ?_ (qhx)))
    ·refine wo rfl<|qdZ (R:=qbn) E ok qdD qel rfl ⟨rfl,(ir 0),(ir 0)⟩ rfl e227 rfl rfl fun c234 M235 a w E ok h236=>wn<|qai (cl1 (cq le_m206 ok [1,2,3,4,5,6,7] rfl) (cq le_m206 ok [1,2,3,4,5,6,7] rfl)) fun hT=>kt 17 E rfl hT (qaP (ps:=[(0,.tmp 61),(1,.tmp 67),(2,.tmp 73)]) (qs:=[(0,[vs s224]),(1,[c234]),(2,[(vb (v204 == 0))])]) (cs:=[vs s224,c234,(vb (v204 == 0))]) qbt qcK rfl ⟨rfl,rfl,rfl,⟨rfl,(ORow.cells h236),rfl,⟨rfl,rfl,rfl,trivial⟩⟩⟩ rfl) fun a E=>qar [18] (by kernel_rfl) rfl (qat ?_)
     ·refine wo rfl<|qaB E ok qbt rfl rfl fun b237 a w E ok=>wn<|qai (cl1 (cq le_m206 ok [2,3,4,5,6,7,8] rfl) (cq le_m206 ok [2,3,4,5,6,7,8] rfl)) fun hT=>qar [19] (by kernel_rfl) rfl (qat ?_)
      ·refine wo rfl<|qad E ok 0 rfl rfl rfl qem rfl rfl ⟨rfl,(ORow.one h236),rfl,trivial⟩ rfl rfl fun w ok=>wn<|qai (cl1 (cq le_m206 ok [2,3,4,5,6,7,8] rfl) (cq le_m206 ok [2,3,4,5,6,7,8] rfl)) fun hT=>qaR (by kernel_rfl) ?_
       exact ⟨rfl,⟨b237,c234,M235,ok,E.keep [0,3,4,5,7,9,10,27,28,29,54],(qcg e225),h236⟩⟩
    refine wo rfl<|qaB E ok qbt rfl rfl fun b238 a w E ok=>wn<|qai (cl1 (cq le_m206 ok [1,2,3,4,5,6,7] rfl) (cq le_m206 ok [1,2,3,4,5,6,7] rfl)) fun hT=>qar [10] (by kernel_rfl) rfl (qat ?_)
    ·refine wo rfl<|qdZ (R:=qbn) E ok qdD qel rfl ⟨rfl,(ir 0),(ir 0)⟩ rfl e227 rfl rfl fun c239 M240 a w E ok h241=>wn<|qai (cl1 (cq le_m206 ok [2,3,4,5,6,7,8] rfl) (cq le_m206 ok [2,3,4,5,6,7,8] rfl)) fun hT=>kt 17 E rfl hT (qaP (ps:=[(0,.tmp 61),(1,.tmp 67),(2,.tmp 73)]) (qs:=[(0,[vs s224]),(1,[c239]),(2,[(vb (v204 == 0))])]) (cs:=[vs s224,c239,(vb (v204 == 0))]) qbt qcK rfl ⟨rfl,rfl,rfl,⟨rfl,(ORow.cells h241),rfl,⟨rfl,rfl,rfl,trivial⟩⟩⟩ rfl) fun a E=>qar [19] (by kernel_rfl) rfl (qat ?_)
     ·refine wo rfl<|qad E ok 1 rfl rfl rfl qem rfl rfl ⟨rfl,(ORow.one h241),rfl,trivial⟩ rfl rfl fun w ok=>wn<|qai (cl1 (cq le_m206 ok [2,3,4,5,6,7,8] rfl) (cq le_m206 ok [2,3,4,5,6,7,8] rfl)) fun hT=>qaR (by kernel_rfl) ?_
      exact ⟨rfl,⟨b238,c239,M240,(ok.pk 9 [1,0,2,3,4,5,6,7,8] rfl (by decide)),E.keep [0,3,4,5,7,9,10,27,28,29,54],(qcg e225),h241⟩⟩
   ·refine wo rfl<|qdZ (R:=qbn) E ok qdD qel rfl ⟨rfl,(ir 0),(ir 0)⟩ rfl e227 rfl rfl fun c242 M243 a w E ok h244=>wn<|qai (cl1 (cq le_m206 ok [1,2,3,4,5,6,7] rfl) (cq le_m206 ok [1,2,3,4,5,6,7] rfl)) fun hT=>qar [3,18] (by kernel_rfl) rfl (qef ?_ (qef ?_ (qhx)))
    ·refine wo rfl<|qan E qfh rfl (qbj N v204 r210 e222 hG hTb ok) rfl rfl ?_
     rintro _ w ⟨⟨rfl,ok⟩,l245⟩
     refine ⟨_,rfl,fun a E=>?_⟩
     refine wn<|qai (cl1 (cq le_m206 ok [1,2,3,4,5,6,7] rfl) (cq le_m206 ok [1,2,3,4,5,6,7] rfl)) fun hT=>kt 4 E rfl hT (qdf rfl rfl e225) fun a E=>kt 13 E rfl hT (qah rfl) fun a E=>?_
     have E:=E.upd 70 c231 rfl
     refine kt 14 E rfl hT (qah rfl) fun a E=>kt 15 E rfl hT (qau rfl rfl) fun a E=>kt 16 E rfl hT (qaY rfl rfl) fun a E=>kt 17 E rfl hT (qaP (ps:=[(0,.tmp 61),(1,.tmp 67),(2,.tmp 73)]) (qs:=[(0,[vs s224]),(1,[c242]),(2,[(vb (v204 == 0))])]) (cs:=[vs s224,c242,(vb (v204 == 0))]) qbt qcK rfl ⟨rfl,rfl,rfl,⟨rfl,(ORow.cells h244),rfl,⟨rfl,rfl,rfl,trivial⟩⟩⟩ rfl) fun a E=>qar [18] (by kernel_rfl) rfl (qat ?_)
     ·refine wo rfl<|qaB E ok qbt rfl rfl fun b246 a w E ok=>wn<|qai (cl1 (cq le_m206 ok [2,3,4,5,6,7,8] rfl) (cq le_m206 ok [2,3,4,5,6,7,8] rfl)) fun hT=>qar [19] (by kernel_rfl) rfl (qat ?_)
      ·refine wo rfl<|qad E ok 0 rfl rfl rfl qem rfl rfl ⟨rfl,(ORow.one h244),rfl,trivial⟩ rfl rfl fun w ok=>wn<|qai (cl1 (cq le_m206 ok [2,3,4,5,6,7,8] rfl) (cq le_m206 ok [2,3,4,5,6,7,8] rfl)) fun hT=>qaR (by kernel_rfl) ?_
       exact ⟨rfl,⟨b246,c242,M243,ok,E.keep [0,3,4,5,7,9,10,27,28,29,54],(qcg e225),h244⟩⟩
    refine wo rfl<|qaB E ok qbt rfl rfl fun b247 a w E ok=>wn<|qai (cl1 (cq le_m206 ok [2,3,4,5,6,7,8] rfl) (cq le_m206 ok [2,3,4,5,6,7,8] rfl)) fun hT=>qar [3] (by kernel_rfl) rfl (qat ?_)
    ·refine wo rfl<|qan E qfh rfl (qbj N v204 r210 e222 hG hTb ok) rfl rfl ?_
     rintro _ w ⟨⟨rfl,ok⟩,l248⟩
     refine ⟨_,rfl,fun a E=>?_⟩
     refine wn<|qai (cl1 (cq le_m206 ok [2,3,4,5,6,7,8] rfl) (cq le_m206 ok [2,3,4,5,6,7,8] rfl)) fun hT=>kt 4 E rfl hT (qdf rfl rfl e225) fun a E=>kt 13 E rfl hT (qah rfl) fun a E=>?_
     have E:=E.upd 70 c231 rfl
     refine kt 14 E rfl hT (qah rfl) fun a E=>kt 15 E rfl hT (qau rfl rfl) fun a E=>kt 16 E rfl hT (qaY rfl rfl) fun a E=>kt 17 E rfl hT (qaP (ps:=[(0,.tmp 61),(1,.tmp 67),(2,.tmp 73)]) (qs:=[(0,[vs s224]),(1,[c242]),(2,[(vb (v204 == 0))])]) (cs:=[vs s224,c242,(vb (v204 == 0))]) qbt qcK rfl ⟨rfl,rfl,rfl,⟨rfl,(ORow.cells h244),rfl,⟨rfl,rfl,rfl,trivial⟩⟩⟩ rfl) fun a E=>qar [19] (by kernel_rfl) rfl (qat ?_)
     ·refine wo rfl<|qad E ok 0 rfl rfl rfl qem rfl rfl ⟨rfl,(ORow.one h244),rfl,trivial⟩ rfl rfl fun w ok=>wn<|qai (cl1 (cq le_m206 ok [2,3,4,5,6,7,8] rfl) (cq le_m206 ok [2,3,4,5,6,7,8] rfl)) fun hT=>qaR (by kernel_rfl) ?_
      exact ⟨rfl,⟨b247,c242,M243,ok,E.keep [0,3,4,5,7,9,10,27,28,29,54],(qcg e225),h244⟩⟩
   refine wo rfl<|qaB E ok qbt rfl rfl fun b249 a w E ok=>wn<|qai (cl1 (cq le_m206 ok [1,2,3,4,5,6,7] rfl) (cq le_m206 ok [1,2,3,4,5,6,7] rfl)) fun hT=>qar [3,10] (by kernel_rfl) rfl (qef ?_ (qef ?_ (qhx)))
   ·refine wo rfl<|qan E qfh rfl (qbj N v204 r210 e222 hG hTb ok) rfl rfl ?_
    rintro _ w ⟨⟨rfl,ok⟩,l250⟩
    refine ⟨_,rfl,fun a E=>?_⟩
    refine wn<|qai (cl1 (cq le_m206 ok [1,2,3,4,5,6,7] rfl) (cq le_m206 ok [1,2,3,4,5,6,7] rfl)) fun hT=>kt 4 E rfl hT (qdf rfl rfl e225) fun a E=>kt 13 E rfl hT (qah rfl) fun a E=>?_
    have E:=E.upd 70 c231 rfl
    refine kt 14 E rfl hT (qah rfl) fun a E=>kt 15 E rfl hT (qau rfl rfl) fun a E=>kt 16 E rfl hT (qaY rfl rfl) fun a E=>qar [10] (by kernel_rfl) rfl (qat ?_)
    ·refine wo rfl<|qdZ (R:=qbn) E ok qdD qel rfl ⟨rfl,(ir 0),(ir 0)⟩ rfl e227 rfl rfl fun c251 M252 a w E ok h253=>wn<|qai (cl1 (cq le_m206 ok [2,3,4,5,6,7,8] rfl) (cq le_m206 ok [2,3,4,5,6,7,8] rfl)) fun hT=>kt 17 E rfl hT (qaP (ps:=[(0,.tmp 61),(1,.tmp 67),(2,.tmp 73)]) (qs:=[(0,[vs s224]),(1,[c251]),(2,[(vb (v204 == 0))])]) (cs:=[vs s224,c251,(vb (v204 == 0))]) qbt qcK rfl ⟨rfl,rfl,rfl,⟨rfl,(ORow.cells h253),rfl,⟨rfl,rfl,rfl,trivial⟩⟩⟩ rfl) fun a E=>qar [19] (by kernel_rfl) rfl (qat ?_)
     ·refine wo rfl<|qad E ok 1 rfl rfl rfl qem rfl rfl ⟨rfl,(ORow.one h253),rfl,trivial⟩ rfl rfl fun w ok=>wn<|qai (cl1 (cq le_m206 ok [2,3,4,5,6,7,8] rfl) (cq le_m206 ok [2,3,4,5,6,7,8] rfl)) fun hT=>qaR (by kernel_rfl) ?_
      exact ⟨rfl,⟨b249,c251,M252,(ok.pk 9 [1,0,2,3,4,5,6,7,8] rfl (by decide)),E.keep [0,3,4,5,7,9,10,27,28,29,54],(qcg e225),h253⟩⟩
   refine wo rfl<|qdZ (R:=qbn) E ok qdD qel rfl ⟨rfl,(ir 0),(ir 0)⟩ rfl e227 rfl rfl fun c254 M255 a w E ok h256=>wn<|qai (cl1 (cq le_m206 ok [2,3,4,5,6,7,8] rfl) (cq le_m206 ok [2,3,4,5,6,7,8] rfl)) fun hT=>qar [3] (by kernel_rfl) rfl (qat ?_)
   ·refine wo rfl<|qan E qfh rfl (qbj N v204 r210 e222 hG hTb ok) rfl rfl ?_
    rintro _ w ⟨⟨rfl,ok⟩,l257⟩
    refine ⟨_,rfl,fun a E=>?_⟩
    refine wn<|qai (cl1 (cq le_m206 ok [2,3,4,5,6,7,8] rfl) (cq le_m206 ok [2,3,4,5,6,7,8] rfl)) fun hT=>kt 4 E rfl hT (qdf rfl rfl e225) fun a E=>kt 13 E rfl hT (qah rfl) fun a E=>?_
    have E:=E.upd 70 c231 rfl
    refine kt 14 E rfl hT (qah rfl) fun a E=>kt 15 E rfl hT (qau rfl rfl) fun a E=>kt 16 E rfl hT (qaY rfl rfl) fun a E=>kt 17 E rfl hT (qaP (ps:=[(0,.tmp 61),(1,.tmp 67),(2,.tmp 73)]) (qs:=[(0,[vs s224]),(1,[c254]),(2,[(vb (v204 == 0))])]) (cs:=[vs s224,c254,(vb (v204 == 0))]) qbt qcK rfl ⟨rfl,rfl,rfl,⟨rfl,(ORow.cells h256),rfl,⟨rfl,rfl,rfl,trivial⟩⟩⟩ rfl) fun a E=>qar [19] (by kernel_rfl) rfl (qat ?_)
    ·refine wo rfl<|qad E ok 1 rfl rfl rfl qem rfl rfl ⟨rfl,(ORow.one h256),rfl,trivial⟩ rfl rfl fun w ok=>wn<|qai (cl1 (cq le_m206 ok [2,3,4,5,6,7,8] rfl) (cq le_m206 ok [2,3,4,5,6,7,8] rfl)) fun hT=>qaR (by kernel_rfl) ?_
     exact ⟨rfl,⟨b249,c254,M255,(ok.pk 9 [1,0,2,3,4,5,6,7,8] rfl (by decide)),E.keep [0,3,4,5,7,9,10,27,28,29,54],(qcg e225),h256⟩⟩
 have hF:=qbI c231 hF
 cases hF
 refine qaS [] (Cls u m206 ([(pb0,oc 175 [c175,c177,c180])] :: M178 :: M181 :: [(b146,oc 199 [vs x133.s,c144,vb x133.integer])] :: M208 :: M212 :: M62 :: [])) (Cls u m206 ([(pb0,oc 175 [c175,c177,c180])] :: M178 :: M181 :: [(b146,oc 199 [vs x133.s,c144,vb x133.integer])] :: M208 :: M212 :: M62 :: [])) (by kernel_rfl) ?_
 intro w hw
 replace ok:=qa6 ok hw
 clear hw
 have le_m206:=Mem.le.refl m206
 refine qai (cl1 (cq le_m206 ok [0,1,2,3,4,5,6] rfl) (cq le_m206 ok [0,1,2,3,4,5,6] rfl)) fun hT=>kt 0 E rfl hT (qae qk9 rfl) fun a E=>kt 1 E rfl hT (qaj qbg rfl (qab.cown 3 rfl rfl)) fun a E=>kt 2 E rfl hT (qah rfl) fun a E=>kt 5 E rfl hT (qah rfl) fun a E=>kt 6 E rfl hT (qaW rfl) fun a E=>kt 7 E rfl hT (qae qgW rfl) fun a E=>kt 8 E rfl hT (qaj qcN rfl (qab.cown 0 rfl rfl)) fun a E=>kt 9 E rfl hT (qaD qbk h176 rfl) fun a E=>kt 11 E rfl hT (qae qi9 rfl) fun a E=>kt 12 E rfl hT (qaj qdx rfl (qab.cown 3 rfl rfl)) fun a E=>qar [3,10,18] (by kernel_rfl) rfl (qef ?_ (qef ?_ (qef ?_ (qhx))))
 ·refine wo rfl<|qan E qfh rfl (qbj N v204 r210 e222 hG hTb ok) rfl rfl ?_
  rintro _ w ⟨⟨rfl,ok⟩,l259⟩
  refine ⟨_,rfl,fun a E=>?_⟩
  refine wn<|qai (cl1 (cq le_m206 ok [0,1,2,3,4,5,6] rfl) (cq le_m206 ok [0,1,2,3,4,5,6] rfl)) fun hT=>kt 4 E rfl hT (qdf rfl rfl e225) fun a E=>kt 13 E rfl hT (qah rfl) fun a E=>?_
  have E:=E.upd 70 c231 rfl
  refine qam 14 false E rfl (by kernel_rfl) nP hT rfl rfl fun a E=>qam 15 false E rfl (by kernel_rfl) nP hT rfl rfl fun a E=>kt 16 E rfl hT (qaT rfl rfl) fun a E=>qar [10,18] (by kernel_rfl) rfl (qef ?_ (qef ?_ (qhx)))
  ·refine wo rfl<|qdZ (R:=qbn) E ok qdD qel rfl ⟨rfl,(ir 0),(ir 0)⟩ rfl e227 rfl rfl fun c260 M261 a w E ok h262=>wn<|qai (cl1 (cq le_m206 ok [1,2,3,4,5,6,7] rfl) (cq le_m206 ok [1,2,3,4,5,6,7] rfl)) fun hT=>kt 17 E rfl hT (qaP (ps:=[(0,.tmp 61),(1,.tmp 67),(2,.tmp 73)]) (qs:=[(0,[vs s224]),(1,[c260]),(2,[vb false])]) (cs:=[vs s224,c260,vb false]) qbt qcK rfl ⟨rfl,rfl,rfl,⟨rfl,(ORow.cells h262),rfl,⟨rfl,rfl,rfl,trivial⟩⟩⟩ rfl) fun a E=>qar [18] (by kernel_rfl) rfl (qat ?_)
   ·refine wo rfl<|qaB E ok qbt rfl rfl fun b263 a w E ok=>wn<|qai (cl1 (cq le_m206 ok [2,3,4,5,6,7,8] rfl) (cq le_m206 ok [2,3,4,5,6,7,8] rfl)) fun hT=>qar [19] (by kernel_rfl) rfl (qat ?_)
    ·refine wo rfl<|qad E ok 0 rfl rfl rfl qem rfl rfl ⟨rfl,(ORow.one h262),rfl,trivial⟩ rfl rfl fun w ok=>wn<|qai (cl1 (cq le_m206 ok [2,3,4,5,6,7,8] rfl) (cq le_m206 ok [2,3,4,5,6,7,8] rfl)) fun hT=>qaR (by kernel_rfl) ?_
     exact ⟨rfl,⟨b263,c260,M261,ok,E.keep [0,3,4,5,7,9,10,27,28,29,54],(qcg e225),h262⟩⟩
  refine wo rfl<|qaB E ok qbt rfl rfl fun b264 a w E ok=>wn<|qai (cl1 (cq le_m206 ok [1,2,3,4,5,6,7] rfl) (cq le_m206 ok [1,2,3,4,5,6,7] rfl)) fun hT=>qar [10] (by kernel_rfl) rfl (qat ?_)
  ·refine wo rfl<|qdZ (R:=qbn) E ok qdD qel rfl ⟨rfl,(ir 0),(ir 0)⟩ rfl e227 rfl rfl fun c265 M266 a w E ok h267=>wn<|qai (cl1 (cq le_m206 ok [2,3,4,5,6,7,8] rfl) (cq le_m206 ok [2,3,4,5,6,7,8] rfl)) fun hT=>kt 17 E rfl hT (qaP (ps:=[(0,.tmp 61),(1,.tmp 67),(2,.tmp 73)]) (qs:=[(0,[vs s224]),(1,[c265]),(2,[vb false])]) (cs:=[vs s224,c265,vb false]) qbt qcK rfl ⟨rfl,rfl,rfl,⟨rfl,(ORow.cells h267),rfl,⟨rfl,rfl,rfl,trivial⟩⟩⟩ rfl) fun a E=>qar [19] (by kernel_rfl) rfl (qat ?_)
   ·refine wo rfl<|qad E ok 1 rfl rfl rfl qem rfl rfl ⟨rfl,(ORow.one h267),rfl,trivial⟩ rfl rfl fun w ok=>wn<|qai (cl1 (cq le_m206 ok [2,3,4,5,6,7,8] rfl) (cq le_m206 ok [2,3,4,5,6,7,8] rfl)) fun hT=>qaR (by kernel_rfl) ?_
    exact ⟨rfl,⟨b264,c265,M266,(ok.pk 9 [1,0,2,3,4,5,6,7,8] rfl (by decide)),E.keep [0,3,4,5,7,9,10,27,28,29,54],(qcg e225),h267⟩⟩
 ·refine wo rfl<|qdZ (R:=qbn) E ok qdD qel rfl ⟨rfl,(ir 0),(ir 0)⟩ rfl e227 rfl rfl fun c268 M269 a w E ok h270=>wn<|qai (cl1 (cq le_m206 ok [1,2,3,4,5,6,7] rfl) (cq le_m206 ok [1,2,3,4,5,6,7] rfl)) fun hT=>qar [3,18] (by kernel_rfl) rfl (qef ?_ (qef ?_ (qhx)))
  ·refine wo rfl<|qan E qfh rfl (qbj N v204 r210 e222 hG hTb ok) rfl rfl ?_
   rintro _ w ⟨⟨rfl,ok⟩,l271⟩
   refine ⟨_,rfl,fun a E=>?_⟩
   refine wn<|qai (cl1 (cq le_m206 ok [1,2,3,4,5,6,7] rfl) (cq le_m206 ok [1,2,3,4,5,6,7] rfl)) fun hT=>kt 4 E rfl hT (qdf rfl rfl e225) fun a E=>kt 13 E rfl hT (qah rfl) fun a E=>?_
   have E:=E.upd 70 c231 rfl
   refine qam 14 false E rfl (by kernel_rfl) nP hT rfl rfl fun a E=>qam 15 false E rfl (by kernel_rfl) nP hT rfl rfl fun a E=>kt 16 E rfl hT (qaT rfl rfl) fun a E=>kt 17 E rfl hT (qaP (ps:=[(0,.tmp 61),(1,.tmp 67),(2,.tmp 73)]) (qs:=[(0,[vs s224]),(1,[c268]),(2,[vb false])]) (cs:=[vs s224,c268,vb false]) qbt qcK rfl ⟨rfl,rfl,rfl,⟨rfl,(ORow.cells h270),rfl,⟨rfl,rfl,rfl,trivial⟩⟩⟩ rfl) fun a E=>qar [18] (by kernel_rfl) rfl (qat ?_)
   ·refine wo rfl<|qaB E ok qbt rfl rfl fun b272 a w E ok=>wn<|qai (cl1 (cq le_m206 ok [2,3,4,5,6,7,8] rfl) (cq le_m206 ok [2,3,4,5,6,7,8] rfl)) fun hT=>qar [19] (by kernel_rfl) rfl (qat ?_)
    ·refine wo rfl<|qad E ok 0 rfl rfl rfl qem rfl rfl ⟨rfl,(ORow.one h270),rfl,trivial⟩ rfl rfl fun w ok=>wn<|qai (cl1 (cq le_m206 ok [2,3,4,5,6,7,8] rfl) (cq le_m206 ok [2,3,4,5,6,7,8] rfl)) fun hT=>qaR (by kernel_rfl) ?_
     exact ⟨rfl,⟨b272,c268,M269,ok,E.keep [0,3,4,5,7,9,10,27,28,29,54],(qcg e225),h270⟩⟩
  refine wo rfl<|qaB E ok qbt rfl rfl fun b273 a w E ok=>wn<|qai (cl1 (cq le_m206 ok [2,3,4,5,6,7,8] rfl) (cq le_m206 ok [2,3,4,5,6,7,8] rfl)) fun hT=>qar [3] (by kernel_rfl) rfl (qat ?_)
  ·refine wo rfl<|qan E qfh rfl (qbj N v204 r210 e222 hG hTb ok) rfl rfl ?_
   rintro _ w ⟨⟨rfl,ok⟩,l274⟩
   refine ⟨_,rfl,fun a E=>?_⟩
   refine wn<|qai (cl1 (cq le_m206 ok [2,3,4,5,6,7,8] rfl) (cq le_m206 ok [2,3,4,5,6,7,8] rfl)) fun hT=>kt 4 E rfl hT (qdf rfl rfl e225) fun a E=>kt 13 E rfl hT (qah rfl) fun a E=>?_
   have E:=E.upd 70 c231 rfl
   refine qam 14 false E rfl (by kernel_rfl) nP hT rfl rfl fun a E=>qam 15 false E rfl (by kernel_rfl) nP hT rfl rfl fun a E=>kt 16 E rfl hT (qaT rfl rfl) fun a E=>kt 17 E rfl hT (qaP (ps:=[(0,.tmp 61),(1,.tmp 67),(2,.tmp 73)]) (qs:=[(0,[vs s224]),(1,[c268]),(2,[vb false])]) (cs:=[vs s224,c268,vb false]) qbt qcK rfl ⟨rfl,rfl,rfl,⟨rfl,(ORow.cells h270),rfl,⟨rfl,rfl,rfl,trivial⟩⟩⟩ rfl) fun a E=>qar [19] (by kernel_rfl) rfl (qat ?_)
   ·refine wo rfl<|qad E ok 0 rfl rfl rfl qem rfl rfl ⟨rfl,(ORow.one h270),rfl,trivial⟩ rfl rfl fun w ok=>wn<|qai (cl1 (cq le_m206 ok [2,3,4,5,6,7,8] rfl) (cq le_m206 ok [2,3,4,5,6,7,8] rfl)) fun hT=>qaR (by kernel_rfl) ?_
    exact ⟨rfl,⟨b273,c268,M269,ok,E.keep [0,3,4,5,7,9,10,27,28,29,54],(qcg e225),h270⟩⟩
 refine wo rfl<|qaB E ok qbt rfl rfl fun b275 a w E ok=>wn<|qai (cl1 (cq le_m206 ok [1,2,3,4,5,6,7] rfl) (cq le_m206 ok [1,2,3,4,5,6,7] rfl)) fun hT=>qar [3,10] (by kernel_rfl) rfl (qef ?_ (qef ?_ (qhx)))
 ·refine wo rfl<|qan E qfh rfl (qbj N v204 r210 e222 hG hTb ok) rfl rfl ?_
  rintro _ w ⟨⟨rfl,ok⟩,l276⟩
  refine ⟨_,rfl,fun a E=>?_⟩
  refine wn<|qai (cl1 (cq le_m206 ok [1,2,3,4,5,6,7] rfl) (cq le_m206 ok [1,2,3,4,5,6,7] rfl)) fun hT=>kt 4 E rfl hT (qdf rfl rfl e225) fun a E=>kt 13 E rfl hT (qah rfl) fun a E=>?_
  have E:=E.upd 70 c231 rfl
  refine qam 14 false E rfl (by kernel_rfl) nP hT rfl rfl fun a E=>qam 15 false E rfl (by kernel_rfl) nP hT rfl rfl fun a E=>kt 16 E rfl hT (qaT rfl rfl) fun a E=>qar [10] (by kernel_rfl) rfl (qat ?_)
  ·refine wo rfl<|qdZ (R:=qbn) E ok qdD qel rfl ⟨rfl,(ir 0),(ir 0)⟩ rfl e227 rfl rfl fun c277 M278 a w E ok h279=>wn<|qai (cl1 (cq le_m206 ok [2,3,4,5,6,7,8] rfl) (cq le_m206 ok [2,3,4,5,6,7,8] rfl)) fun hT=>kt 17 E rfl hT (qaP (ps:=[(0,.tmp 61),(1,.tmp 67),(2,.tmp 73)]) (qs:=[(0,[vs s224]),(1,[c277]),(2,[vb false])]) (cs:=[vs s224,c277,vb false]) qbt qcK rfl ⟨rfl,rfl,rfl,⟨rfl,(ORow.cells h279),rfl,⟨rfl,rfl,rfl,trivial⟩⟩⟩ rfl) fun a E=>qar [19] (by kernel_rfl) rfl (qat ?_)
   ·refine wo rfl<|qad E ok 1 rfl rfl rfl qem rfl rfl ⟨rfl,(ORow.one h279),rfl,trivial⟩ rfl rfl fun w ok=>wn<|qai (cl1 (cq le_m206 ok [2,3,4,5,6,7,8] rfl) (cq le_m206 ok [2,3,4,5,6,7,8] rfl)) fun hT=>qaR (by kernel_rfl) ?_
    exact ⟨rfl,⟨b275,c277,M278,(ok.pk 9 [1,0,2,3,4,5,6,7,8] rfl (by decide)),E.keep [0,3,4,5,7,9,10,27,28,29,54],(qcg e225),h279⟩⟩
 refine wo rfl<|qdZ (R:=qbn) E ok qdD qel rfl ⟨rfl,(ir 0),(ir 0)⟩ rfl e227 rfl rfl fun c280 M281 a w E ok h282=>wn<|qai (cl1 (cq le_m206 ok [2,3,4,5,6,7,8] rfl) (cq le_m206 ok [2,3,4,5,6,7,8] rfl)) fun hT=>qar [3] (by kernel_rfl) rfl (qat ?_)
 ·refine wo rfl<|qan E qfh rfl (qbj N v204 r210 e222 hG hTb ok) rfl rfl ?_
  rintro _ w ⟨⟨rfl,ok⟩,l283⟩
  refine ⟨_,rfl,fun a E=>?_⟩
  refine wn<|qai (cl1 (cq le_m206 ok [2,3,4,5,6,7,8] rfl) (cq le_m206 ok [2,3,4,5,6,7,8] rfl)) fun hT=>kt 4 E rfl hT (qdf rfl rfl e225) fun a E=>kt 13 E rfl hT (qah rfl) fun a E=>?_
  have E:=E.upd 70 c231 rfl
  refine qam 14 false E rfl (by kernel_rfl) nP hT rfl rfl fun a E=>qam 15 false E rfl (by kernel_rfl) nP hT rfl rfl fun a E=>kt 16 E rfl hT (qaT rfl rfl) fun a E=>kt 17 E rfl hT (qaP (ps:=[(0,.tmp 61),(1,.tmp 67),(2,.tmp 73)]) (qs:=[(0,[vs s224]),(1,[c280]),(2,[vb false])]) (cs:=[vs s224,c280,vb false]) qbt qcK rfl ⟨rfl,rfl,rfl,⟨rfl,(ORow.cells h282),rfl,⟨rfl,rfl,rfl,trivial⟩⟩⟩ rfl) fun a E=>qar [19] (by kernel_rfl) rfl (qat ?_)
  ·refine wo rfl<|qad E ok 1 rfl rfl rfl qem rfl rfl ⟨rfl,(ORow.one h282),rfl,trivial⟩ rfl rfl fun w ok=>wn<|qai (cl1 (cq le_m206 ok [2,3,4,5,6,7,8] rfl) (cq le_m206 ok [2,3,4,5,6,7,8] rfl)) fun hT=>qaR (by kernel_rfl) ?_
   exact ⟨rfl,⟨b275,c280,M281,(ok.pk 9 [1,0,2,3,4,5,6,7,8] rfl (by decide)),E.keep [0,3,4,5,7,9,10,27,28,29,54],(qcg e225),h282⟩⟩
def qjl (u:World) (m0:Mem) (S:Segs) (r:(Option (qaG))) (a:Act) (w:World):Prop :=
 ∃ m1 v0,m0.le m1 ∧ Ok u m1 (S) w ∧ a.defers = [] ∧ RVs Tryz.prog a w [.t 2 v0] ∧ (pP 3 qe6) m1 [v0] r
theorem qjz (N:Nat) (vl_0:Value) (l_0:List (Relation)) (hl_0:(pL 4 qak) m0 [vl_0] l_0) {r:(Option (qaG))} (hF:qgk N l_0 = some r) (hG:Glob u) (hTb:Tab u) (ok:Ok u m0 (S) w) :
  Calls Tryz.prog 94 [vl_0].toArray w fun e w'=>∃ m1 v0,e = .returned v0 ∧ m0.le m1 ∧ Ok u m1 (S) w' ∧ (pP 3 qe6) m1 [v0] r:=by
 have le_m0:=Mem.le.refl m0
 unfold qgk at hF
 refine en (qjl u m0 S) r Tryz.func94 rfl rfl rfl (fun _ _ h=>rc h fun _=>rfl) fun fin a E=>sg<|aw E rfl fun a E=>sg<|mv E rfl fun a E=>lw E (qaP (ps:=[(0,.tmp 9)]) (qs:=[(0,[vl_0])]) (cs:=[vl_0,(Value.slice none 0 0),(Value.slice none 0 0)]) qpr qn9 rfl ⟨rfl,(qcR hl_0),rfl,trivial⟩ rfl) fun a E=>qb8 E ok rfl rfl rfl fun b1 a w E ok=>aw E rfl fun a E=>wp_seq<|sg<|mv E rfl fun a E=>wn<|wp_block ?_
 obtain ⟨M12,ok,h13⟩:=qes (e:=181) (k:=2) (R:=qbP) ok
 obtain ⟨M14,ok,h15⟩:=qes (e:=181) (k:=2) (R:=qbP) ok
 refine bd hF fun o16 hL hF=>qaF _ (fun (s:Int × qaG) a w=>∃ m17 c19 c21 M22 c24 M25,m0.le m17 ∧ Ok u m17 (M25 :: M22 :: [(b1,oc 175 [c19,c21,c24])] :: S) w ∧ Env 54 a [(0,vl_0),(3,vp b1),(12,vi s.1)] ∧ InR .i64 s.1 ∧ (pL 4 qak) m17 [c19] s.2.l ∧ ORow 181 2 qbP m17 c21 s.2.wholes M22 ∧ ORow 181 2 qbP m17 c24 s.2.fraction M25) (fun (b:qaG) e a w=>e = (.exit 0) ∧ ∃ m166 c167 c169 M170 c172 M173,m0.le m166 ∧ Ok u m166 (M173 :: M170 :: [(b1,oc 175 [c167,c169,c172])] :: S) w ∧ Env 54 a [(3,vp b1)] ∧ (pL 4 qak) m166 [c167] b.l ∧ ORow 181 2 qbP m166 c169 b.wholes M170 ∧ ORow 181 2 qbP m166 c172 b.fraction M173) ?_ ?_ N _ a w hL ⟨m0,vl_0,(Value.slice none 0 0),M12,(Value.slice none 0 0),M14,Mem.le.refl _,ok,E.keep [0,3,12],(ir 0),hl_0,h13,h15⟩
 rotate_left
 ·intro e a w _ hO
  obtain ⟨rfl,m140,c141,c143,M144,c146,M147,hle,ok,E,h142,h145,h148⟩:=hO
  have le_m0:=le_m0.trans hle
  have hl_0:=(mL qaf).up hle hl_0
  refine qaN<|qaa<|sg<|mv E rfl fun a E=>?_
  obtain ⟨r149,e150,hF⟩:=bnd hF
  replace ok:Ok u m140 ([(b1,oc 175 [c141,c143,c146])] :: M144 :: M147 :: S) w:=(ok.pk 3 [2,1,0] rfl (by decide))
  refine qan E qqF rfl (qho N o16 h142 h145 h148 e150 hG hTb ok) rfl rfl ?_
  rintro _ w ⟨m151,c152,c154,M155,c157,M158,rfl,hle,ok,h153,h156,h159⟩
  have le_m0:=le_m0.trans hle
  have hl_0:=(mL qaf).up hle hl_0
  have h142:=(mL qaf).up hle h142
  refine ⟨_,rfl,fun a E=>?_⟩
  refine wn<|sg<|mv E rfl fun a E=>aw E rfl fun a E=>wp_ret ?_
  obtain ⟨m160,hle,ok,hfz⟩:=(ok.frs 1 rfl).freeze
  have h161:=ORow.froz qb6 h156 hle hfz (by decide)
  have le_m0:=le_m0.trans hle
  have hl_0:=(mL qaf).up hle hl_0
  have h142:=(mL qaf).up hle h142
  have h153:=(mL qaf).up hle h153
  have h159:=ORow.up qb6 hle h159
  obtain ⟨m162,hle,ok,hfz⟩:=(ok.frs 1 rfl).freeze
  have h163:=ORow.froz qb6 h159 hle hfz (by decide)
  have le_m0:=le_m0.trans hle
  have hl_0:=(mL qaf).up hle hl_0
  have h142:=(mL qaf).up hle h142
  have h153:=(mL qaf).up hle h153
  have h161:=(mL qb6).up hle h161
  have hbx:=(show qe6 m162 [c152,c154,c157] r149 from ⟨_,_,_,rfl,h153,h161,h163⟩)
  obtain ⟨m164,hle,ok,hfz⟩:=(ok.frs 0 rfl).freeze
  have h165:=qp4 qk2 hbx hle hfz rfl
  clear hbx
  have le_m0:=le_m0.trans hle
  have hl_0:=(mL qaf).up hle hl_0
  have h142:=(mL qaf).up hle h142
  have h153:=(mL qaf).up hle h153
  have h161:=(mL qb6).up hle h161
  have h163:=(mL qb6).up hle h163
  exact fin hF ⟨m164,vp b1,le_m0,ok,E.d,rz E rfl,h165⟩
 rintro ⟨v27,v28⟩ a w r ⟨m29,c31,c33,M34,c36,M37,hle,ok,E,r30,h32,h35,h38⟩ hF
 replace hF:qfB N l_0 v27 v28 = some r:=hF
 unfold qfB at hF
 have le_m0:=le_m0.trans hle
 have hl_0:=(mL qaf).up hle hl_0
 refine sg<|lw E (qay rfl rfl) fun a E=>wn<|wp_seq<|cg E rfl hF (fun c39 hF=>?_) fun c39 hF=>?_
 ·refine wp_exit<|qaA ?_
  cases hF
  exact so (⟨rfl,⟨m29,c31,c33,M34,c36,M37,le_m0,ok,E.keep [3],h32,h35,h38⟩⟩)
 refine wp_skip<|qaa<|wp_seq<|wp_block<|sg<|mv E rfl fun a E=>av E rfl fun a E=>wn<|sg<|mv E rfl fun a E=>bd hF fun r40 e41 hF=>qan E qfh rfl (qbj N v27 r30 e41 hG hTb ok) rfl rfl ?_
 rintro _ w ⟨⟨rfl,ok⟩,l42⟩
 refine ⟨_,rfl,fun a E=>?_⟩
 refine aw E rfl fun a E=>sg<|mv E rfl fun a E=>lv E ok (qaD qbk hl_0 rfl) fun a E=>bd hF fun l43 e44 hF=>qdZ (R:=qbn) E ok qdD qel rfl ⟨rfl,(ir 0),(ir 0)⟩ rfl e44 rfl rfl fun c45 M46 a w E ok h47=>aw E rfl fun a E=>wp_seq<|sg<|mv E rfl fun a E=>lv E ok (qaD qbk hl_0 rfl) fun a E=>mv E rfl fun a E=>wn<|wp_block<|bd hF fun o53 hL hF=>qaF _ (fun (s:Int × (List (Tracker))) a w=>∃ c55 M56,Ok u m29 (M56 :: M37 :: M34 :: [(b1,oc 175 [c31,c33,c36])] :: S) w ∧ Env 54 a [(0,vl_0),(3,vp b1),(4,vi v27),(5,vs r40),(6,c55),(12,vi v27),(20,vl_0),(21,(vi (l_0.length:Int))),(22,vi s.1)] ∧ InR .i64 s.1 ∧ ORow 86 2 qbn m29 c55 s.2 M56) (fun (b:((List (Tracker)))) e a w=>e = (.exit 2) ∧ ∃ c137 M138,Ok u m29 (M138 :: M37 :: M34 :: [(b1,oc 175 [c31,c33,c36])] :: S) w ∧ Env 54 a [(0,vl_0),(3,vp b1),(5,vs r40),(6,c137),(12,vi v27)] ∧ ORow 86 2 qbn m29 c137 b M138) ?_ ?_ N _ a w hL ⟨c45,M46,ok,E.keep [0,3,4,5,6,12,20,21,22],(ir 0),h47⟩
 ·rintro ⟨v58,v59⟩ a w r ⟨c61,M62,ok,E,r60,h63⟩ hF
  replace hF:qfu N l_0 v27 v58 v59 = some r:=hF
  unfold qfu at hF
  refine sg<|lw E (qay rfl rfl) fun a E=>wn<|wp_seq<|cg E rfl hF (fun c64 hF=>?_) fun c64 hF=>?_
  ·refine wp_exit<|qaA ?_
   cases hF
   exact so (⟨rfl,⟨c61,M62,ok,E.keep [0,3,5,6,12],h63⟩⟩)
  refine wp_skip<|qaa<|wp_seq<|wp_block<|sg<|mv E rfl fun a E=>?_
  obtain ⟨x65,e66,hF⟩:=bnd hF
  obtain ⟨b67,o68,es69,hl70,rr71,at72,yy73⟩:=ia E 20 22 qbk hl_0 e66
  obtain ⟨c76,rfl,r74,r75,h77⟩:=rr71
  refine lv E ok (yy73 _ _) fun a E=>lv E ok (qag (cs:=[vi x65.Operand,vi x65.Mod,vb x65.Not,c76]) qbr rfl rfl (qab.ro at72)) fun a E=>qaB E ok qcW rfl rfl fun b78 a w E ok=>av E rfl fun a E=>qad E ok 0 rfl rfl rfl qf3 rfl rfl ⟨rfl,rfl,rfl,(qcO h77),trivial⟩ rfl rfl fun w ok=>wn<|sg<|lv E ok (qag (cs:=[vi x65.Operand,vi x65.Mod,vb x65.Not,c76]) qbr rfl rfl (qab.own 0 rfl rfl)) fun a E=>bd hF fun r79 e80 hF=>lc E qjZ rfl (qet N _ x65 ⟨_,rfl,r74,r75,h77⟩ e80 hG ok) fun w ok a E=>wn<|cg E rfl hF (fun c81 hF=>?_) fun c81 hF=>?_
  ·refine wp_skip<|qap<|qaa<|qac<|lw E (qaE rfl rfl (InR.inc r60 (qao hl_0) c64)) fun a E=>mv E rfl fun a E=>wpList_nil ?_
   cases hF
   exact qas ⟨c61,M62,(ok.pk 5 [1,2,3,4] rfl (by decide)),E.keep [0,3,4,5,6,12,20,21,22],(InR.inc r60 (qao hl_0) c64),h63⟩
  refine qac<|mz E rfl rfl fun a E=>lv E ok (qag (cs:=[vi x65.Operand,vi x65.Mod,vb x65.Not,c76]) qbr rfl rfl (qab.own 0 rfl rfl)) fun a E=>mv E rfl fun a E=>bd hF fun r82 e83 hF=>qan E qlf rfl (qfv N _ x65 ⟨_,rfl,r74,r75,h77⟩ v27 r30 e83 hG ok) rfl rfl ?_
  rintro _ w ⟨⟨rfl,ok⟩,r84⟩
  refine ⟨_,rfl,fun a E=>?_⟩
  obtain ⟨x85,e86,hF⟩:=bnd hF
  obtain ⟨b87,o88,hp89,yy90⟩:=qcm qdD h63 e86 (P:=Tryz.prog) (X:=.tmp 29) (I:=.tmp 30) (kd:=.i64) (qaU E rfl) (qaU E rfl)
  refine lv E ok (yy90 _ _) fun a E=>fv E qeT rfl fun a E=>bd hF fun l93 e94 hF=>qnD (R:=qbn) (f:=0) E ok 1 rfl h63 e86 hp89 rfl rfl rfl qb4 rfl rfl rfl ⟨rfl,trivial⟩ (fun es _ h=>by obtain ⟨rfl,r91,r92⟩:=h; exact ⟨rfl,r84,r92⟩) e94 rfl fun M95 w ok h96=>wpList_nil<|qap<|qaa<|qac<|lw E (qaE rfl rfl (InR.inc r60 (qao hl_0) c64)) fun a E=>mv E rfl fun a E=>wpList_nil ?_
  cases hF
  exact qas ⟨c61,M95,(ok.pk 5 [1,2,3,4] rfl (by decide)),E.keep [0,3,4,5,6,12,20,21,22],(InR.inc r60 (qao hl_0) c64),h96⟩
 intro e a w _ hO
 obtain ⟨rfl,c97,M98,ok,E,h99⟩:=hO
 refine qaN<|qaa<|bd hF fun o100 hJ hF=>qaL (Q':=fun e a w=>e = .normal ∧ ∃ m101 c102 c104 M105 c107 M108,m29.le m101 ∧ Ok u m101 (M108 :: M105 :: [(b1,oc 175 [c102,c104,c107])] :: S) w ∧ Env 54 a [(0,vl_0),(3,vp b1),(12,vi v27)] ∧ (pL 4 qak) m101 [c102] o100.l ∧ ORow 181 2 qbP m101 c104 o100.wholes M105 ∧ ORow 181 2 qbP m101 c107 o100.fraction M108) ?_ ?_
 rotate_left
 ·intro e a w hO
  obtain ⟨rfl,m128,c129,c131,M132,c134,M135,hle,ok,E,h130,h133,h136⟩:=hO
  have le_m0:=le_m0.trans hle
  have hl_0:=(mL qaf).up hle hl_0
  have h32:=(mL qaf).up hle h32
  refine qap<|qaa<|qac<|lw E (qaE rfl rfl (InR.inc r30 (ir 1000) c39)) fun a E=>mv E rfl fun a E=>wpList_nil ?_
  cases hF
  exact qas ⟨m128,c129,c131,M132,c134,M135,le_m0,ok,E.keep [0,3,12],(InR.inc r30 (ir 1000) c39),h130,h133,h136⟩
 have hF:=hJ
 have le_m29:=Mem.le.refl m29
 obtain ⟨r112,e113,hF⟩:=bnd hF
 obtain ⟨r115,e116,hF⟩:=bnd hF
 obtain rfl:=sj hF
 refine qaS [4] (Cls u m29 (M37 :: [(b1,oc 175 [c31,c33,c36])] :: [])) (Cls u m29 (M37 :: [])) (by kernel_rfl) ?_
 intro w hw
 replace ok:=qa6 ok hw
 clear hw
 have h32_o:=h32
 refine qai (cl1 (cq le_m29 ok [1,3] rfl) (cq le_m29 ok [1] rfl)) fun hT=>kt 0 E rfl hT (qah rfl) fun a E=>kt 1 E rfl hT (qah rfl) fun a E=>kt 2 E rfl hT (qaW rfl) fun a E=>kt 3 E rfl hT (qae qkX rfl) fun a E=>qaZ 4 E rfl (by kernel_rfl) nP hT (qaj qkj rfl (qab.cown 1 rfl rfl)) rfl rfl fun a E=>kt 5 E rfl hT (qah rfl) fun a E=>kt 6 E rfl hT (qah rfl) fun a E=>kt 8 E rfl hT (qah rfl) fun a E=>qar [7] (by kernel_rfl) rfl (qat ?_)
 ·refine qbB (o:=_) rfl ?_
  obtain ⟨m121,hle,ok,hfz⟩:=(ok.frs 0 rfl).freeze
  have h122:=ORow.froz qbd h99 hle hfz (by decide)
  have le_m0:=le_m0.trans hle
  have le_m29:=le_m29.trans hle
  have hl_0:=(mL qaf).up hle hl_0
  have h32:=(mL qaf).up hle h32
  have h35:=ORow.up qb6 hle h35
  have h38:=ORow.up qb6 hle h38
  replace ok:Ok u m121 ([(b1,oc 175 [c31,c33,c36])] :: M34 :: M37 :: S) w:=(ok.pk 3 [2,1,0] rfl (by decide))
  refine qan E qoP rfl (qgy N false _ o53 h122 v28 h32 h35 h38 e113 hG ok) rfl rfl ?_
  rintro _ w ⟨⟨rfl,ok⟩,r123⟩
  refine ⟨_,rfl,fun a E=>?_⟩
  refine wn<|qai (cl1 (cq le_m29 ok [2,0] rfl) (cq le_m29 ok [2] rfl)) fun hT=>kt 9 E rfl hT (qaP (ps:=[(0,.tmp 44),(1,.tmp 45)]) (qs:=[(0,[vu r112]),(1,[vs r40])]) (cs:=[vu r112,vs r40]) qgr qli rfl ⟨rfl,rfl,rfl,⟨rfl,rfl,rfl,trivial⟩⟩ rfl) fun a E=>qar [10] (by kernel_rfl) rfl (qat ?_)
  ·refine qbB (o:=_) rfl ?_
   replace ok:Ok u m121 (M34 :: [(b1,oc 175 [c31,c33,c36])] :: M37 :: S) w:=(ok.pk 3 [1,0,2] rfl (by decide))
   refine qan E qo4 rfl (qjf N _ v28.wholes h35 _ (Part.mk r112 r40) ⟨rfl,r123,l42⟩ e116 hG ok) rfl rfl ?_
   rintro _ w ⟨m124,c125,M126,rfl,hle,ok,h127⟩
   have le_m0:=le_m0.trans hle
   have le_m29:=le_m29.trans hle
   have hl_0:=(mL qaf).up hle hl_0
   have h32:=(mL qaf).up hle h32
   have h38:=ORow.up qb6 hle h38
   have h122:=(mL qbd).up hle h122
   refine ⟨_,rfl,fun a E=>?_⟩
   refine wn<|qai (cl1 (cq le_m29 ok [2,1] rfl) (cq le_m29 ok [2] rfl)) fun hT=>kt 11 E rfl hT (qaW rfl) fun a E=>kt 12 E rfl hT (qae qkX rfl) fun a E=>qar [13] (by kernel_rfl) rfl (qat ?_)
   ·refine wo rfl<|qad E ok 1 rfl rfl rfl qn2 (ORow.cells h127) rfl ⟨(ORow.one h127),trivial⟩ rfl rfl fun w ok=>wn<|qai (cl2 (by kernel_rfl) (cq le_m29 ok [2] rfl)) fun hT=>qaR (by kernel_rfl) ?_
    exact ⟨rfl,⟨m124,c31,c125,M126,c36,M37,le_m29,(ok.pk 3 [2,0,1] rfl (by decide)),E.keep [0,3,12],h32,h127,h38⟩⟩
def qim (u:World) (m0:Mem) (S:Segs) (r:Bool) (a:Act) (w:World):Prop :=
 Ok u m0 S w ∧ a.defers = [] ∧ RVs Tryz.prog a w [.t 8 (.bool r)]
theorem qij (N:Nat) (vx_0:Value) (x_0:Option (qaG)) (hx_0:(pP 3 qe6) m0 [vx_0] x_0) (vw_1:List Value) (w_1:Part) (hw_1:qbP m0 vw_1 w_1) (vf_2:List Value) (f_2:Part) (hf_2:qbP m0 vf_2 f_2) (i_3:Int) (ri_3:InR .i64 i_3) {r:Bool} (hF:qfr N x_0 w_1 f_2 i_3 = some r) (hG:Glob u) (ok:Ok u m0 S w) :
  Calls Tryz.prog 129 [vx_0,.agg vw_1.toArray,.agg vf_2.toArray,vi i_3].toArray w fun e w'=>(e = .returned (.bool r) ∧ Ok u m0 S w'):=by
 obtain ⟨rfl,r1,l2⟩:=hw_1
 obtain ⟨rfl,r3,l4⟩:=hf_2
 unfold qfr at hF
 refine en (qim u m0 S) r Tryz.func129 rfl rfl rfl (fun _ _ h=>ra h rfl) fun fin a E=>sg<|qb8 E ok rfl rfl rfl fun b5 a w E ok=>qb8 E ok rfl rfl rfl fun b6 a w E ok=>aw E rfl fun a E=>sg<|mv E rfl fun a E=>?_
 obtain ⟨y7,e8,hF⟩:=bnd hF
 obtain ⟨b9,o10,es11,hv12,hl13,hR14,at15⟩:=qmi hx_0 e8
 obtain ⟨c16,c18,c20,rfl,h17,h19,h21⟩:=hR14
 refine lv E ok (qii hv12 rfl) fun a E=>fv E qgW rfl fun a E=>lv E ok (qaj qcN rfl (qab.ro (At.sub 0 1 at15))) fun a E=>mv E rfl fun a E=>?_
 obtain ⟨x22,e23,hF⟩:=bnd hF
 obtain ⟨b24,o25,es26,hl27,rr28,at29,yy30⟩:=ia E 13 14 qbk h17 e23
 obtain ⟨c33,rfl,r31,r32,h34⟩:=rr28
 refine lv E ok (yy30 _ _) fun a E=>lv E ok (qag (cs:=[vi x22.Operand,vi x22.Mod,vb x22.Not,c33]) qbr rfl rfl (qab.ro at29)) fun a E=>qaB E ok qcW rfl rfl fun b35 a w E ok=>qad E ok 0 rfl rfl rfl qf3 rfl rfl ⟨rfl,rfl,rfl,(qcO h34),trivial⟩ rfl rfl fun w ok=>wn<|wp_seq<|wp_block<|sg<|fk E ok qa1 qaq rfl 0 rfl rfl fun a E=>lw E (qau rfl rfl) fun a E=>mv E rfl fun a E=>bw E 21 hF (fun c36 hF E=>?_) fun c36 hF E=>?_
 ·refine lsz E fun a E=>pf E rfl rfl fun a E=>aw E rfl fun a E=>c_if E rfl (fun h=>by cases h) (fun _=>?_)
  refine sg<|lv E ok (qag (cs:=[vi x22.Operand,vi x22.Mod,vb x22.Not,c33]) qbr rfl rfl (qab.own 0 rfl rfl)) fun a E=>bd hF fun r45 e46 hF=>lc E qjZ rfl (qet N _ x22 ⟨_,rfl,r31,r32,h34⟩ e46 hG ok) fun w ok a E=>aw E rfl fun a E=>cf E rfl hF (fun c47 hF=>?_) fun c47 hF=>?_
  ·refine sg<|fk E ok qgw qgX rfl 2 rfl rfl fun a E=>mv E rfl fun a E=>bd hF fun q48 e49 hF=>lw E (qmP rfl rfl e49) fun a E=>lw E (qhO .and (by decide) rfl rfl) fun a E=>lw E (qau rfl rfl) fun a E=>aw E rfl fun a E=>wp_ret<|qax<|qal ?_
   exact fin hF ⟨ok.drop.drop.drop,E.d,rz E rfl⟩
  refine wp_skip<|qap<|qaa<|sg<|fk E ok qgw qgX rfl 1 rfl rfl fun a E=>mv E rfl fun a E=>bd hF fun q50 e51 hF=>lw E (qmP rfl rfl e51) fun a E=>lw E (qhO .and (by decide) rfl rfl) fun a E=>lw E (qau rfl rfl) fun a E=>aw E rfl fun a E=>wp_ret ?_
  exact fin hF ⟨ok.drop.drop.drop,E.d,rz E rfl⟩
 refine fk E ok qgw qgX rfl 1 rfl rfl fun a E=>lw E (qhO .and (by decide) rfl rfl) fun a E=>lw E (qdp rfl rfl) fun a E=>pt E rfl rfl fun a E=>aw E rfl fun a E=>cf E rfl hF (fun c37 hF=>?_) fun c37 hF=>?_
 ·refine sg<|fk E ok qfI qdx rfl 0 rfl rfl fun a E=>aw E rfl fun a E=>wp_ret<|qax<|qal ?_
  exact fin hF ⟨ok.drop.drop.drop,E.d,rz E rfl⟩
 refine sg<|lv E ok (qag (cs:=[vi x22.Operand,vi x22.Mod,vb x22.Not,c33]) qbr rfl rfl (qab.own 0 rfl rfl)) fun a E=>bd hF fun r38 e39 hF=>lc E qjZ rfl (qet N _ x22 ⟨_,rfl,r31,r32,h34⟩ e39 hG ok) fun w ok a E=>aw E rfl fun a E=>cf E rfl hF (fun c40 hF=>?_) fun c40 hF=>?_
 ·refine sg<|fk E ok qgw qgX rfl 2 rfl rfl fun a E=>mv E rfl fun a E=>bd hF fun q41 e42 hF=>lw E (qmP rfl rfl e42) fun a E=>lw E (qhO .and (by decide) rfl rfl) fun a E=>lw E (qau rfl rfl) fun a E=>aw E rfl fun a E=>wp_ret<|qax<|qal ?_
  exact fin hF ⟨ok.drop.drop.drop,E.d,rz E rfl⟩
 refine wp_skip<|qap<|qaa<|sg<|fk E ok qgw qgX rfl 1 rfl rfl fun a E=>mv E rfl fun a E=>bd hF fun q43 e44 hF=>lw E (qmP rfl rfl e44) fun a E=>lw E (qhO .and (by decide) rfl rfl) fun a E=>lw E (qau rfl rfl) fun a E=>aw E rfl fun a E=>wp_ret ?_
 exact fin hF ⟨ok.drop.drop.drop,E.d,rz E rfl⟩
def qhS (u:World) (m0:Mem) (S:Segs) (pb0:Nat) (pb1:Nat) (pb2:Nat) (x0:Option (qaG)) (c1:Value) (x1:Part) (x2:Part) (r:Bool) (a:Act) (w:World):Prop :=
 Ok u m0 ([(pb0,oc 143 [c1])] :: [(pb1,oc 181 [vu x1.bits,vs x1.text])] :: [(pb2,oc 181 [vu x2.bits,vs x2.text])] :: S) w ∧ a.defers = [] ∧ RVs Tryz.prog a w [.t 5 (.bool r)]
theorem qhI (N:Nat) (i_0:Int) (ri_0:InR .i64 i_0) {pb0:Nat} {c1:Value} (x0:Option (qaG)) (h2:(pP 3 qe6) m0 [c1] x0) {pb1:Nat} (x1:Part) (r3:InR .u64 x1.bits) (l4:x1.text.length ≤ LIMS) {pb2:Nat} (x2:Part) (r5:InR .u64 x2.bits) (l6:x2.text.length ≤ LIMS) {r:Bool} (hF:qfa N i_0 x0 x1 x2 = some r) (hG:Glob u) (ok:Ok u m0 ([(pb0,oc 143 [c1])] :: [(pb1,oc 181 [vu x1.bits,vs x1.text])] :: [(pb2,oc 181 [vu x2.bits,vs x2.text])] :: S) w) :
  Calls Tryz.prog 128 [vi i_0,vp pb0,vp pb1,vp pb2].toArray w fun e w'=>(e = .returned (.bool r) ∧ Ok u m0 ([(pb0,oc 143 [c1])] :: [(pb1,oc 181 [vu x1.bits,vs x1.text])] :: [(pb2,oc 181 [vu x2.bits,vs x2.text])] :: S) w'):=by
 unfold qfa at hF
 refine en (qhS u m0 S pb0 pb1 pb2 x0 c1 x1 x2) r Tryz.func128 rfl rfl rfl (fun _ _ h=>ra h rfl) fun fin a E=>sg<|aw E rfl fun a E=>sg<|ld E ok qmj 0 rfl rfl rfl fun a E=>lv E ok (qag (cs:=[vu x1.bits,vs x1.text]) qhG rfl rfl (qab.own 1 rfl rfl)) fun a E=>lv E ok (qag (cs:=[vu x2.bits,vs x2.text]) qhG rfl rfl (qab.own 2 rfl rfl)) fun a E=>mv E rfl fun a E=>bd hF fun r7 e8 hF=>lc E qqM rfl (qij N _ x0 h2 _ x1 ⟨rfl,r3,l4⟩ _ x2 ⟨rfl,r5,l6⟩ i_0 ri_0 e8 hG ok) fun w ok a E=>aw E rfl fun a E=>wp_ret ?_
 exact fin hF ⟨ok,E.d,rz E rfl⟩
end Go.Proofs.YtidfofhmnlhfjaaGreatDoor
