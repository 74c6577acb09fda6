/- Texts of this proof, put together by pack.py: what its declarations name. -/
import Derived.Test.YtidfofhmnlhfjaaDoorPkAc1
import Derived.Test.YtidfofhmnlhfjaaDoorCards
import Derived.Test.YtidfofhmnlhfjaaDoorChecked
import Derived.Test.YtidfofhmnlhfjaaDoorProg
import Derived.Test.YtidfofhmnlhfjaaDoorRows
import Derived.Test.YtidfofhmnlhfjaaDoorTie
set_option linter.unusedVariables false
set_option linter.unusedSimpArgs false
namespace Go.Proofs.YtidfofhmnlhfjaaDoor
open Go.X
def qd9 (N:Nat) (x0:Parser) (i_23:Int) (x_24:Relation):Option ((Int × Relation) ⊕ Relation) :=
 bif (decide (i_23 < 6)) then
  (slc ([110,105,118,119,102,116]) i_23 (i_23 + 1)).bind fun s29 =>
  (qaP N s29 x0).bind fun r31 =>
  bif r31 then
   some (.inl ((i_23 + 1),(Relation.mk (i_23 + 1) x_24.Mod x_24.Not ([]))))
  else
   some (.inl ((i_23 + 1),(Relation.mk x_24.Operand x_24.Mod x_24.Not ([]))))
 else
  some (.inr (Relation.mk x_24.Operand x_24.Mod x_24.Not ([])))
def qeg (N:Nat) (x_269:Parser) (x_270:Relation):Option ((Parser × Relation) ⊕ ((Relation × Parser))) :=
 (qaP N ([44]) x_269).bind fun r283 =>
 bif r283 then
  (qaB N x_269).bind fun r286 =>
  (show Option Bool from
   bif ((x_270.Spans.length:Int) == 4) then
    (qed N r286).bind fun r296 =>
    bif r296 then
     (qek N r286.w.text).bind fun r299 =>
     (qcX N x_270.Operand).bind fun r302 =>
     some (decide (r299 ≤ r302))
    else
     some false
   else
    some false).bind fun o294 =>
  (show Option Parser from
   bif o294 then
    (qaJ N 6 r286).bind fun r315 =>
    some r315
   else
    some r286).bind fun o307 =>
  (show Option (Parser × Relation) from
   (qcI N x_270.Operand o307).bind fun r342 =>
   (app x_270.Spans ([r342.1]:List (Span))).bind fun l358 =>
   some (r342.2,(Relation.mk x_270.Operand x_270.Mod x_270.Not l358))).bind fun o329 =>
  some (.inl (o329.1,o329.2))
 else
  some (.inr (x_270,x_269))
def qeh (N:Nat) (x_517:Parser) (x_518:Relation):Option ((Parser × Relation) ⊕ ((Relation × Parser))) :=
 (qaP N ([44]) x_517).bind fun r531 =>
 bif r531 then
  (qaB N x_517).bind fun r534 =>
  (show Option Bool from
   bif ((x_518.Spans.length:Int) == 4) then
    (qed N r534).bind fun r544 =>
    bif r544 then
     (qek N r534.w.text).bind fun r547 =>
     (qcX N x_518.Operand).bind fun r550 =>
     some (decide (r547 ≤ r550))
    else
     some false
   else
    some false).bind fun o542 =>
  (show Option Parser from
   bif o542 then
    (qaJ N 6 r534).bind fun r563 =>
    some r563
   else
    some r534).bind fun o555 =>
  (show Option (Parser × Relation) from
   (qcI N x_518.Operand o555).bind fun r590 =>
   (app x_518.Spans ([r590.1]:List (Span))).bind fun l606 =>
   some (r590.2,(Relation.mk x_518.Operand x_518.Mod x_518.Not l606))).bind fun o577 =>
  some (.inl (o577.1,o577.2))
 else
  some (.inr (x_518,x_517))
def qdz (N:Nat) (x0:Parser):Option (Relation × Parser) :=
 (iter (fun s=>qd9 N x0 s.1 s.2) N (0,(Relation.mk 0 0 false ([])))).bind fun o19 =>
 (show Option Parser from
  bif (o19.Operand == 0) then
   (qaJ N 3 x0).bind fun r44 =>
   some r44
  else
   some x0).bind fun o36 =>
 (qaB N o36).bind fun r58 =>
 (qaP N ([37]) r58).bind fun r66 =>
 (show Option (Parser × Relation) from
  bif r66 then
   (qaB N r58).bind fun r79 =>
   (qcp N r79).bind fun r87 =>
   (show Option Bool from
    (qdP N o19.Operand).bind fun r98 =>
    (qdC N r98 r87.1).bind fun r103 =>
    some (!r103)).bind fun o96 =>
   bif o96 then
    (qaJ N 2 r87.2).bind fun r110 =>
    (qaB N r110).bind fun r118 =>
    some (r118,(Relation.mk o19.Operand r87.1 o19.Not ([])))
   else
    (qaB N r87.2).bind fun r126 =>
    some (r126,(Relation.mk o19.Operand r87.1 o19.Not ([])))
  else
   some (r58,(Relation.mk o19.Operand o19.Mod o19.Not ([])))).bind fun o68 =>
 (qaP N ([33,61]) o68.1).bind fun r143 =>
 (qaP N ([61]) o68.1).bind fun r145 =>
 bif (!r145) then
  (show Option Parser from
   bif (!r143) then
    (qaJ N 3 o68.1).bind fun r156 =>
    some r156
   else
    some o68.1).bind fun o148 =>
  (qaB N o148).bind fun r170 =>
  (show Option (Parser × Relation) from
   (qcI N o68.2.Operand r170).bind fun r191 =>
   (app ([]:List (Span)) ([r191.1]:List (Span))).bind fun l209 =>
   some (r191.2,(Relation.mk o68.2.Operand o68.2.Mod r143 l209))).bind fun o178 =>
  (iter (fun s=>qeg N s.1 s.2) N (o178.1,o178.2)).bind fun o256 =>
  some (o256.1,o256.2)
 else
  (qaB N o68.1).bind fun r418 =>
  (show Option (Parser × Relation) from
   (qcI N o68.2.Operand r418).bind fun r439 =>
   (app ([]:List (Span)) ([r439.1]:List (Span))).bind fun l457 =>
   some (r439.2,(Relation.mk o68.2.Operand o68.2.Mod r143 l457))).bind fun o426 =>
  (iter (fun s=>qeh N s.1 s.2) N (o426.1,o426.2)).bind fun o504 =>
  some (o504.1,o504.2)
def qgf (N:Nat) (s_0:List UInt8) (n_36:Int) (x_37:List (Relation)) (x_38:Parser):Option ((Int × (List (Relation)) × Parser) ⊕ (((Parser × (List (Relation))) ⊕ ((List (List (Relation))) × Int × Int)))) :=
 bif (x_38.e == 0) then
  bif (n_36 == 6) then
   (qe5 N x_38).bind fun r52 =>
   (show Option Parser from
    bif r52 then
     (qaJ N 6 x_38).bind fun r62 =>
     some r62
    else
     some x_38).bind fun o54 =>
   (show Option (Parser × (List (Relation))) from
    (qdz N o54).bind fun r87 =>
    (app x_37 ([r87.1]:List (Relation))).bind fun l105 =>
    some (r87.2,l105)).bind fun o76 =>
   (qaP N ([]) o76.1).bind fun r139 =>
   bif r139 then
    bif (o76.1.w.at_ == (s_0.length:Int)) then
     some (.inr (.inr (([o76.2]:List (List (Relation))),0,0)))
    else
     (qaP N ([111,114]) o76.1).bind fun r147 =>
     bif r147 then
      none
     else
      (qaP N ([97,110,100]) o76.1).bind fun r151 =>
      bif (!r151) then
       (qaJ N 3 o76.1).bind fun r154 =>
       (qaB N r154).bind fun r162 =>
       some (.inl ((IntKind.wrap .i64 (n_36 + 1)),o76.2,r162))
      else
       (qaB N o76.1).bind fun r170 =>
       some (.inl ((IntKind.wrap .i64 (n_36 + 1)),o76.2,r170))
   else
    (qaP N ([111,114]) o76.1).bind fun r178 =>
    bif r178 then
     none
    else
     (qaP N ([97,110,100]) o76.1).bind fun r182 =>
     bif (!r182) then
      (qaJ N 3 o76.1).bind fun r185 =>
      (qaB N r185).bind fun r193 =>
      some (.inl ((IntKind.wrap .i64 (n_36 + 1)),o76.2,r193))
     else
      (qaB N o76.1).bind fun r201 =>
      some (.inl ((IntKind.wrap .i64 (n_36 + 1)),o76.2,r201))
  else
   (show Option ((List (Relation)) × Parser) from
    (qdz N x_38).bind fun r220 =>
    (app x_37 ([r220.1]:List (Relation))).bind fun l238 =>
    some (l238,r220.2)).bind fun o209 =>
   (qaP N ([]) o209.2).bind fun r272 =>
   bif r272 then
    bif (o209.2.w.at_ == (s_0.length:Int)) then
     some (.inr (.inr (([o209.1]:List (List (Relation))),0,0)))
    else
     (qaP N ([111,114]) o209.2).bind fun r280 =>
     bif r280 then
      none
     else
      (qaP N ([97,110,100]) o209.2).bind fun r284 =>
      bif (!r284) then
       (qaJ N 3 o209.2).bind fun r287 =>
       (qaB N r287).bind fun r295 =>
       some (.inl ((IntKind.wrap .i64 (n_36 + 1)),o209.1,r295))
      else
       (qaB N o209.2).bind fun r303 =>
       some (.inl ((IntKind.wrap .i64 (n_36 + 1)),o209.1,r303))
   else
    (qaP N ([111,114]) o209.2).bind fun r311 =>
    bif r311 then
     none
    else
     (qaP N ([97,110,100]) o209.2).bind fun r315 =>
     bif (!r315) then
      (qaJ N 3 o209.2).bind fun r318 =>
      (qaB N r318).bind fun r326 =>
      some (.inl ((IntKind.wrap .i64 (n_36 + 1)),o209.1,r326))
     else
      (qaB N o209.2).bind fun r334 =>
      some (.inl ((IntKind.wrap .i64 (n_36 + 1)),o209.1,r334))
 else
  some (.inr (.inl (x_38,x_37)))
def qgX (N:Nat) (s_0:List UInt8):Option ((List (List (Relation))) × Int × Int) :=
 (qaB N (Parser.mk s_0 0 (Word.mk ([]) 0) 0 0)).bind fun r2 =>
 (iter (fun s=>qgf N s_0 s.1 s.2.1 s.2.2) N (0,[],r2)).bind fun o24 =>
 Sum.elim (fun o24 =>
  some ([],o24.1.at_,o24.1.e))
 (fun o24 =>
  some o24) o24
def qfe (N:Nat) (s_0:List UInt8):Option (List (List (Relation))) :=
 (qgX N s_0).bind fun r1 =>
 some r1.1
def qdO (N:Nat) (x14:List (Relation)) (weight_30:Int) (x_31:Int):Option ((Int × Int) ⊕ Int) :=
 bif (decide (x_31 < (x14.length:Int))) then
  (idx x14 x_31).bind fun x35 =>
  (show Option Int from
   bif (x35.Mod == 0) then
    (qec N x35).bind fun r52 =>
    some (IntKind.wrap .i64 (r52 + 2))
   else
    some x35.Mod).bind fun o49 =>
  (show Option Int from
   bif (x35.Operand == 6) then
    some (IntKind.wrap .i64 (o49 * o49))
   else
    some o49).bind fun o56 =>
  some (.inl ((min (IntKind.wrap .i64 (weight_30 * o56)) 1000000),(x_31 + 1)))
 else
  some (.inr weight_30)
def qdR (N:Nat) (c_0:List (List (Relation))) (weight_9:Int) (x_10:Int):Option ((Int × Int) ⊕ Int) :=
 bif (decide (x_10 < (c_0.length:Int))) then
  (idx c_0 x_10).bind fun x14 =>
  (iter (fun s=>qdO N x14 s.1 s.2) N (weight_9,0)).bind fun o27 =>
  some (.inl (o27,(x_10 + 1)))
 else
  some (.inr weight_9)
def qfC (N:Nat) (c_0:List (List (Relation))):Option (Int × Int) :=
 (qdD N c_0).bind fun r1 =>
 bif (!r1) then
  some (0,1)
 else
  (iter (fun s=>qdR N c_0 s.1 s.2) N (1,0)).bind fun o6 =>
  some (o6,0)
def qdy (N:Nat):Option Bool :=
 (qfe N ([110,32,37,32,49,48,32,61,32,49])).bind fun r1 =>
 (qfe N ([110,32,37,32,49,48,48,32,61,32,49,49])).bind fun r6 =>
 (qhG N ([(Rule.mk ([111,110,101]) r1),(Rule.mk ([116,119,111]) r6)]:List (Rule))).bind fun r19 =>
 (qfe N ([105,32,61,32,49,32,97,110,100,32,118,32,61,32,48])).bind fun r25 =>
 (qfC N r25).bind fun r30 =>
 bif (r19.2.2.2 == 19) then
  bif (r30.2 == 0) then
   bif (r19.1 == 0) then
    bif (r19.2.1 == 1) then
     bif (r19.2.2.1 == ([49,49])) then
      some (r30.1 == 6)
     else
      some false
    else
     some false
   else
    some false
  else
   some false
 else
  some false
end Go.Proofs.YtidfofhmnlhfjaaDoor
namespace Go.Proofs.YtidfofhmnlhfjaaDoor
open Go.X
def qbL (_N:Nat) (c_0:List (List (Relation))) (i_7:Int) (n_16:Int) (k_17:Int):Option ((Int × Int) ⊕ Int) :=
 (idx c_0 i_7).bind fun x20 =>
 bif (decide (k_17 < (x20.length:Int))) then
  (idx c_0 i_7).bind fun x32 =>
  (idx x32 k_17).bind fun x43 =>
  some (.inl ((IntKind.wrap .i64 (n_16 + (IntKind.wrap .i64 ((1:Int) + (x43.Spans.length:Int))))),(k_17 + 1)))
 else
  some (.inr n_16)
def qbx (N:Nat) (c_0:List (List (Relation))) (n_6:Int) (i_7:Int):Option ((Int × Int) ⊕ ((Unit ⊕ Bool))) :=
 bif (decide (i_7 < (c_0.length:Int))) then
  (iter (fun s=>qbL N c_0 i_7 s.1 s.2) N (n_6,0)).bind fun o13 =>
  bif (decide (o13 > 80)) then
   some (.inr (.inr false))
  else
   some (.inl (o13,(i_7 + 1)))
 else
  some (.inr (.inl ()))
def qbc (N:Nat) (c_0:List (List (Relation))):Option Bool :=
 (iter (fun s=>qbx N c_0 s.1 s.2) N (0,0)).bind fun o3 =>
 Sum.elim (fun _o3 =>
  some (decide ((c_0.length:Int) ≤ 30)))
 (fun o3 =>
  some o3) o3
def qch (N:Nat) (l_0:List (List (List (Relation)))) (x_4:Int):Option (Int ⊕ ((Unit ⊕ Bool))) :=
 bif (decide (x_4 < (l_0.length:Int))) then
  (idx l_0 x_4).bind fun x7 =>
  (qbc N x7).bind fun r18 =>
  bif (!r18) then
   some (.inr (.inr false))
  else
   some (.inl (x_4 + 1))
 else
  some (.inr (.inl ()))
def qc3 (N:Nat) (l_0:List (List (List (Relation)))):Option Bool :=
 (iter (fun s=>qch N l_0 s) N 0).bind fun o2 =>
 Sum.elim (fun _o2 =>
  some (decide ((l_0.length:Int) ≤ 12)))
 (fun o2 =>
  some o2) o2
end Go.Proofs.YtidfofhmnlhfjaaDoor
namespace Go.Proofs.YtidfofhmnlhfjaaDoor
open Go.X
def qc7 (N:Nat) (r_0:Relation) (i_35:Int):Option (Int ⊕ ((Unit ⊕ Bool))) :=
 bif (decide (i_35 < (r_0.Spans.length:Int))) then
  (idx r_0.Spans i_35).bind fun x38 =>
  bif (decide (x38.From < 0)) then
   some (.inr (.inr false))
  else
   bif (decide (x38.From > x38.To)) then
    some (.inr (.inr false))
   else
    (qcX N r_0.Operand).bind fun r52 =>
    bif (decide (x38.To > r52)) then
     some (.inr (.inr false))
    else
     some (.inl (i_35 + 1))
 else
  some (.inr (.inl ()))
def qeF (N:Nat) (r_0:Relation):Option Bool :=
 (show Option Bool from
  bif (decide (r_0.Operand < 1)) then
   some true
  else
   bif (decide (r_0.Operand > 6)) then
    some true
   else
    bif (r_0.Mod != 0) then
     (qdP N r_0.Operand).bind fun r11 =>
     (qdC N r11 r_0.Mod).bind fun r16 =>
     bif (!r16) then
      some true
     else
      bif (decide ((r_0.Spans.length:Int) < 1)) then
       some true
      else
       some (decide ((r_0.Spans.length:Int) > 4))
    else
     bif (decide ((r_0.Spans.length:Int) < 1)) then
      some true
     else
      some (decide ((r_0.Spans.length:Int) > 4))).bind fun o6 =>
 bif o6 then
  some false
 else
  (iter (fun s=>qc7 N r_0 s) N 0).bind fun o33 =>
  Sum.elim (fun _o33 =>
   some true)
  (fun o33 =>
   some o33) o33
def qb1 (N:Nat) (c_0:List (List (Relation))) (i_7:Int) (n_28:Int) (k_29:Int):Option ((Int × Int) ⊕ ((Int ⊕ Bool))) :=
 (idx c_0 i_7).bind fun x32 =>
 bif (decide (k_29 < (x32.length:Int))) then
  (idx c_0 i_7).bind fun x44 =>
  (idx x44 k_29).bind fun x55 =>
  (qeF N x55).bind fun r68 =>
  bif (!r68) then
   some (.inr (.inr false))
  else
   some (.inl ((IntKind.wrap .i64 (n_28 + 1)),(k_29 + 1)))
 else
  some (.inr (.inl n_28))
def qcf (N:Nat) (c_0:List (List (Relation))) (n_6:Int) (i_7:Int):Option ((Int × Int) ⊕ ((Int ⊕ Bool))) :=
 bif (decide (i_7 < (c_0.length:Int))) then
  (idx c_0 i_7).bind fun x11 =>
  bif ((x11.length:Int) == 0) then
   some (.inr (.inr false))
  else
   (iter (fun s=>qb1 N c_0 i_7 s.1 s.2) N (n_6,0)).bind fun o25 =>
   Sum.elim (fun o25 =>
    some (.inl (o25,(i_7 + 1))))
   (fun o25 =>
    some (.inr (.inr o25))) o25
 else
  some (.inr (.inl n_6))
def qeU (N:Nat) (c_0:List (List (Relation))):Option Bool :=
 (iter (fun s=>qcf N c_0 s.1 s.2) N (0,0)).bind fun o3 =>
 Sum.elim (fun o3 =>
  bif (decide ((c_0.length:Int) > 0)) then
   some (decide (o3 ≤ 6))
  else
   some false)
 (fun o3 =>
  some o3) o3
end Go.Proofs.YtidfofhmnlhfjaaDoor
namespace Go.Proofs.YtidfofhmnlhfjaaDoor
open Go.X
structure DFA where
 Start:Int
 Next:List (List (Int))
 Accept:List (Bool)
structure Arr6_Tracker where
 e0:Tracker
 e1:Tracker
 e2:Tracker
 e3:Tracker
 e4:Tracker
 e5:Tracker
 deriving DecidableEq
def Arr6_Tracker.list (a:Arr6_Tracker):List (Tracker):=[a.e0,a.e1,a.e2,a.e3,a.e4,a.e5]
def Arr6_Tracker.of:List (Tracker) → Option Arr6_Tracker
 | [x0,x1,x2,x3,x4,x5]=>some ⟨x0,x1,x2,x3,x4,x5⟩
 | _=>none
def Arr6_Tracker.get (a:Arr6_Tracker) (i:Int):Option (Tracker):=idx a.list i
def Arr6_Tracker.set (a:Arr6_Tracker) (i:Int) (x:Tracker):Option Arr6_Tracker:=(setI a.list i x).bind Arr6_Tracker.of
structure Reading where
 phase:Int
 trackers:Arr6_Tracker
 deriving DecidableEq
structure Arr11_Int where
 e0:Int
 e1:Int
 e2:Int
 e3:Int
 e4:Int
 e5:Int
 e6:Int
 e7:Int
 e8:Int
 e9:Int
 e10:Int
 deriving DecidableEq
def Arr11_Int.list (a:Arr11_Int):List (Int):=[a.e0,a.e1,a.e2,a.e3,a.e4,a.e5,a.e6,a.e7,a.e8,a.e9,a.e10]
def Arr11_Int.of:List (Int) → Option Arr11_Int
 | [x0,x1,x2,x3,x4,x5,x6,x7,x8,x9,x10]=>some ⟨x0,x1,x2,x3,x4,x5,x6,x7,x8,x9,x10⟩
 | _=>none
def Arr11_Int.get (a:Arr11_Int) (i:Int):Option (Int):=idx a.list i
def Arr11_Int.set (a:Arr11_Int) (i:Int) (x:Int):Option Arr11_Int:=(setI a.list i x).bind Arr11_Int.of
structure Table where
 next:List (Arr11_Int)
 accept:List (Bool)
structure Key where
 class_:Int
 next:Arr11_Int
 deriving DecidableEq
structure DigitsRead where
 phase:Int
 count:Int
 zero:Bool
 deriving DecidableEq
def qbb (N:Nat) (l_1:List (Relation)) (symbol_2:Int) (x_52:Int) (x_53:Reading):Option ((Int × Reading) ⊕ Reading) :=
 bif (decide (x_52 < (l_1.length:Int))) then
  (idx l_1 x_52).bind fun x70 =>
  (show Option Reading from
   (Arr6_Tracker.get x_53.trackers x_52).bind fun x99 =>
   (qaZ N x99 x70 (x_53.phase == 3) symbol_2).bind fun r101 =>
   (Arr6_Tracker.get x_53.trackers x_52).bind fun _x108 =>
   (Arr6_Tracker.set x_53.trackers x_52 r101).bind fun z110 =>
   some (Reading.mk x_53.phase z110)).bind fun o84 =>
  some (.inl ((x_52 + 1),o84))
 else
  some (.inr x_53)
def qeE (N:Nat) (l_1:List (Relation)) (symbol_2:Int) (x_222:Int) (x_223:Reading):Option ((Int × Reading) ⊕ Reading) :=
 bif (decide (x_222 < (l_1.length:Int))) then
  (idx l_1 x_222).bind fun x240 =>
  (show Option Reading from
   (Arr6_Tracker.get x_223.trackers x_222).bind fun x269 =>
   (qaZ N x269 x240 (x_223.phase == 3) symbol_2).bind fun r271 =>
   (Arr6_Tracker.get x_223.trackers x_222).bind fun _x278 =>
   (Arr6_Tracker.set x_223.trackers x_222 r271).bind fun z280 =>
   some (Reading.mk x_223.phase z280)).bind fun o254 =>
  some (.inl ((x_222 + 1),o254))
 else
  some (.inr x_223)
def qeD (N:Nat) (l_1:List (Relation)) (symbol_2:Int) (x_367:Int) (x_368:Reading):Option ((Int × Reading) ⊕ Reading) :=
 bif (decide (x_367 < (l_1.length:Int))) then
  (idx l_1 x_367).bind fun x385 =>
  (show Option Reading from
   (Arr6_Tracker.get x_368.trackers x_367).bind fun x414 =>
   (qaZ N x414 x385 (x_368.phase == 3) symbol_2).bind fun r416 =>
   (Arr6_Tracker.get x_368.trackers x_367).bind fun _x423 =>
   (Arr6_Tracker.set x_368.trackers x_367 r416).bind fun z425 =>
   some (Reading.mk x_368.phase z425)).bind fun o399 =>
  some (.inl ((x_367 + 1),o399))
 else
  some (.inr x_368)
def qeC (N:Nat) (l_1:List (Relation)) (symbol_2:Int) (x_537:Int) (x_538:Reading):Option ((Int × Reading) ⊕ Reading) :=
 bif (decide (x_537 < (l_1.length:Int))) then
  (idx l_1 x_537).bind fun x555 =>
  (show Option Reading from
   (Arr6_Tracker.get x_538.trackers x_537).bind fun x584 =>
   (qaZ N x584 x555 (x_538.phase == 3) symbol_2).bind fun r586 =>
   (Arr6_Tracker.get x_538.trackers x_537).bind fun _x593 =>
   (Arr6_Tracker.set x_538.trackers x_537 r586).bind fun z595 =>
   some (Reading.mk x_538.phase z595)).bind fun o569 =>
  some (.inl ((x_537 + 1),o569))
 else
  some (.inr x_538)
def qfv (N:Nat) (s_0:Reading) (l_1:List (Relation)) (symbol_2:Int):Option Reading :=
 bif (symbol_2 == 10) then
  bif (s_0.phase == 1) then
   some (Reading.mk 2 s_0.trackers)
  else
   bif (symbol_2 == 10) then
    some (Reading.mk 4 (Arr6_Tracker.mk (Tracker.mk 0 0) (Tracker.mk 0 0) (Tracker.mk 0 0) (Tracker.mk 0 0) (Tracker.mk 0 0) (Tracker.mk 0 0)))
   else
    bif (s_0.phase == 4) then
     some (Reading.mk 4 (Arr6_Tracker.mk (Tracker.mk 0 0) (Tracker.mk 0 0) (Tracker.mk 0 0) (Tracker.mk 0 0) (Tracker.mk 0 0) (Tracker.mk 0 0)))
    else
     bif (s_0.phase == 0) then
      (iter (fun s=>qbb N l_1 symbol_2 s.1 s.2) N (0,(Reading.mk 1 s_0.trackers))).bind fun o36 =>
      some o36
     else
      (show Option Reading from
       bif (s_0.phase == 1) then
        some (Reading.mk 1 s_0.trackers)
       else
        some (Reading.mk 3 s_0.trackers)).bind fun o163 =>
      (iter (fun s=>qeE N l_1 symbol_2 s.1 s.2) N (0,o163)).bind fun o206 =>
      some o206
 else
  bif (symbol_2 == 10) then
   some (Reading.mk 4 (Arr6_Tracker.mk (Tracker.mk 0 0) (Tracker.mk 0 0) (Tracker.mk 0 0) (Tracker.mk 0 0) (Tracker.mk 0 0) (Tracker.mk 0 0)))
  else
   bif (s_0.phase == 4) then
    some (Reading.mk 4 (Arr6_Tracker.mk (Tracker.mk 0 0) (Tracker.mk 0 0) (Tracker.mk 0 0) (Tracker.mk 0 0) (Tracker.mk 0 0) (Tracker.mk 0 0)))
   else
    bif (s_0.phase == 0) then
     (iter (fun s=>qeD N l_1 symbol_2 s.1 s.2) N (0,(Reading.mk 1 s_0.trackers))).bind fun o351 =>
     some o351
    else
     (show Option Reading from
      bif (s_0.phase == 1) then
       some (Reading.mk 1 s_0.trackers)
      else
       some (Reading.mk 3 s_0.trackers)).bind fun o478 =>
     (iter (fun s=>qeC N l_1 symbol_2 s.1 s.2) N (0,o478)).bind fun o521 =>
     some o521
def qce (N:Nat) (s_0:Reading) (symbol_1:Int) (x0:List (Relation)):Option Reading :=
 (qfv N s_0 x0 symbol_1).bind fun r18 =>
 some r18
def qei (N:Nat) (i_0:Int) (x0:Reading) (x1:List (Relation)):Option Bool :=
 (Arr6_Tracker.get x0.trackers i_0).bind fun x16 =>
 (idx x1 i_0).bind fun x18 =>
 (qcc N x16 x18).bind fun r31 =>
 some r31
def qcZ (N:Nat) (x0:Reading) (x1:List (Relation)) (x27:List (Relation)) (at_43:Int) (all_44:Bool) (x_45:Int):Option ((Int × Bool × Int) ⊕ ((Int × Bool))) :=
 bif (decide (x_45 < (x27.length:Int))) then
  bif all_44 then
   (qei N at_43 x0 x1).bind fun r50 =>
   some (.inl ((IntKind.wrap .i64 (at_43 + 1)),r50,(x_45 + 1)))
  else
   some (.inl ((IntKind.wrap .i64 (at_43 + 1)),false,(x_45 + 1)))
 else
  some (.inr (at_43,all_44))
def qc2 (N:Nat) (c_0:List (List (Relation))) (x0:Reading) (x1:List (Relation)) (at_21:Int) (found_22:Bool) (x_23:Int):Option ((Int × Bool × Int) ⊕ Bool) :=
 bif (decide (x_23 < (c_0.length:Int))) then
  (idx c_0 x_23).bind fun x27 =>
  (iter (fun s=>qcZ N x0 x1 x27 s.1 s.2.1 s.2.2) N (at_21,true,0)).bind fun o40 =>
  bif found_22 then
   some (.inl (o40.1,true,(x_23 + 1)))
  else
   some (.inl (o40.1,o40.2,(x_23 + 1)))
 else
  some (.inr found_22)
def qey (N:Nat) (c_0:List (List (Relation))) (x0:Reading) (x1:List (Relation)):Option Bool :=
 (iter (fun s=>qc2 N c_0 x0 x1 s.1 s.2.1 s.2.2) N (0,false,0)).bind fun o18 =>
 some o18
def qcD (N:Nat) (s_0:Reading) (x0:List (List (Relation))) (x1:List (Relation)):Option Bool :=
 bif (s_0.phase == 1) then
  (qey N x0 s_0 x1).bind fun r20 =>
  some r20
 else
  bif (s_0.phase == 3) then
   (qey N x0 s_0 x1).bind fun r23 =>
   some r23
  else
   some false
end Go.Proofs.YtidfofhmnlhfjaaDoor
namespace Go.Proofs.YtidfofhmnlhfjaaDoor
open Go.X
def qa2 (N:Nat) (x0:List (Relation)) (i_68:Int) (states_129:List (Reading)) (x_130:Int) (x_131:Arr11_Int) (number_132:List (Reading × Int)):Option (((List (Reading)) × Int × Arr11_Int × (List (Reading × Int))) ⊕ ((Arr11_Int × (List (Reading × Int)) × (List (Reading))))) :=
 bif (decide (x_130 < 11)) then
  (idx states_129 i_68).bind fun x153 =>
  (qce N x153 x_130 x0).bind fun r176 =>
  bif (!((mget number_132 r176).isSome)) then
   (mset number_132 r176 (states_129.length:Int)).bind fun l201 =>
   (app states_129 ([r176]:List (Reading))).bind fun l208 =>
   (Arr11_Int.get x_131 x_130).bind fun _x213 =>
   (Arr11_Int.set x_131 x_130 (states_129.length:Int)).bind fun z215 =>
   some (.inl (l208,(x_130 + 1),z215,l201))
  else
   (Arr11_Int.get x_131 x_130).bind fun _x219 =>
   (Arr11_Int.set x_131 x_130 ((mget number_132 r176).getD 0)).bind fun z221 =>
   some (.inl (states_129,(x_130 + 1),z221,number_132))
 else
  some (.inr (x_131,number_132,states_129))
def qbd (N:Nat) (x0:List (Relation)) (x1:List (List (Relation))) (states_67:List (Reading)) (i_68:Int) (x_69:Table) (number_70:List (Reading × Int)):Option (((List (Reading)) × Int × Table × (List (Reading × Int))) ⊕ Table) :=
 bif (decide (i_68 < (states_67.length:Int))) then
  (iter (fun s=>qa2 N x0 i_68 s.1 s.2.1 s.2.2.1 s.2.2.2) N (states_67,0,(Arr11_Int.mk 0 0 0 0 0 0 0 0 0 0 0),number_70)).bind fun o109 =>
  (app x_69.next ([o109.1]:List (Arr11_Int))).bind fun l246 =>
  (show Option Table from
   (idx o109.2.2 i_68).bind fun x258 =>
   (qcD N x258 x1 x0).bind fun r281 =>
   (app x_69.accept ([r281]:List (Bool))).bind fun l286 =>
   some (Table.mk l246 l286)).bind fun o251 =>
  some (.inl (o109.2.2,(i_68 + 1),o251,o109.2.1))
 else
  some (.inr x_69)
def qbJ (N:Nat) (start_0:Reading) (x0:List (Relation)) (x1:List (List (Relation))):Option Table :=
 (mset ([]:List (Reading × Int)) start_0 0).bind fun l23 =>
 (iter (fun s=>qbd N x0 x1 s.1 s.2.1 s.2.2.1 s.2.2.2) N (([start_0]:List (Reading)),0,(Table.mk ([]) ([])),l23)).bind fun o52 =>
 some o52
def qc6 (_N:Nat) (c_0:Int) (symbol_1:Int) (x0:List (Int)) (x1:Table) (x2:List (Int)):Option Int :=
 (idx x2 c_0).bind fun x11 =>
 (idx x1.next x11).bind fun x22 =>
 (Arr11_Int.get x22 symbol_1).bind fun x42 =>
 (idx x0 x42).bind fun x44 =>
 some x44
def qd2 (_N:Nat) (c_0:Int) (x0:Table) (x1:List (Int)):Option Bool :=
 (idx x1 c_0).bind fun x8 =>
 (idx x0.accept x8).bind fun x19 =>
 some x19
def qby (N:Nat) (x0:List (Int)) (x1:Table) (x2:List (Int)) (i_59:Int) (states_118:List (Int)) (x_119:Int) (x_120:Arr11_Int) (number_121:List (Int × Int)):Option (((List (Int)) × Int × Arr11_Int × (List (Int × Int))) ⊕ ((Arr11_Int × (List (Int × Int)) × (List (Int))))) :=
 bif (decide (x_119 < 11)) then
  (idx states_118 i_59).bind fun x141 =>
  (qc6 N x141 x_119 x0 x1 x2).bind fun r152 =>
  bif (!((mget number_121 r152).isSome)) then
   (mset number_121 r152 (states_118.length:Int)).bind fun l161 =>
   (app states_118 ([r152]:List (Int))).bind fun l168 =>
   (Arr11_Int.get x_120 x_119).bind fun _x173 =>
   (Arr11_Int.set x_120 x_119 (states_118.length:Int)).bind fun z175 =>
   some (.inl (l168,(x_119 + 1),z175,l161))
  else
   (Arr11_Int.get x_120 x_119).bind fun _x179 =>
   (Arr11_Int.set x_120 x_119 ((mget number_121 r152).getD 0)).bind fun z181 =>
   some (.inl (states_118,(x_119 + 1),z181,number_121))
 else
  some (.inr (x_120,number_121,states_118))
def qbU (N:Nat) (x0:List (Int)) (x1:Table) (x2:List (Int)) (states_58:List (Int)) (i_59:Int) (x_60:Table) (number_61:List (Int × Int)):Option (((List (Int)) × Int × Table × (List (Int × Int))) ⊕ Table) :=
 bif (decide (i_59 < (states_58.length:Int))) then
  (iter (fun s=>qby N x0 x1 x2 i_59 s.1 s.2.1 s.2.2.1 s.2.2.2) N (states_58,0,(Arr11_Int.mk 0 0 0 0 0 0 0 0 0 0 0),number_61)).bind fun o99 =>
  (app x_60.next ([o99.1]:List (Arr11_Int))).bind fun l205 =>
  (show Option Table from
   (idx o99.2.2 i_59).bind fun x217 =>
   (qd2 N x217 x1 x2).bind fun r228 =>
   (app x_60.accept ([r228]:List (Bool))).bind fun l233 =>
   some (Table.mk l205 l233)).bind fun o210 =>
  some (.inl (o99.2.2,(i_59 + 1),o210,o99.2.1))
 else
  some (.inr x_60)
def qcO (N:Nat) (start_0:Int) (x0:List (Int)) (x1:Table) (x2:List (Int)):Option Table :=
 (mset ([]:List (Int × Int)) start_0 0).bind fun l15 =>
 (iter (fun s=>qbU N x0 x1 x2 s.1 s.2.1 s.2.2.1 s.2.2.2) N (([start_0]:List (Int)),0,(Table.mk ([]) ([])),l15)).bind fun o44 =>
 some o44
def qck (_N:Nat) (t_0:Table) (x_23:Int) (x_24:List (Int)):Option ((Int × (List (Int))) ⊕ (((List (Int))))) :=
 bif (decide (x_23 < (t_0.accept.length:Int))) then
  (idx t_0.accept x_23).bind fun x30 =>
  bif x30 then
   (idx x_24 x_23).bind fun _x40 =>
   (setI x_24 x_23 1).bind fun l46 =>
   some (.inl ((x_23 + 1),l46))
  else
   some (.inl ((x_23 + 1),x_24))
 else
  some (.inr x_24)
def qb4 (_N:Nat) (x_64:List (Int)) (x104:Arr11_Int) (x_165:Int) (x_166:Key):Option ((Int × Key) ⊕ Key) :=
 bif (decide (x_165 < 11)) then
  (idx [(x104.e0:Int),(x104.e1:Int),(x104.e2:Int),(x104.e3:Int),(x104.e4:Int),(x104.e5:Int),(x104.e6:Int),(x104.e7:Int),(x104.e8:Int),(x104.e9:Int),(x104.e10:Int)] x_165).bind fun z181 =>
  (idx x_64 z181).bind fun x183 =>
  (Arr11_Int.get x_166.next x_165).bind fun _x194 =>
  (Arr11_Int.set x_166.next x_165 x183).bind fun z196 =>
  some (.inl ((x_165 + 1),(Key.mk x_166.class_ z196)))
 else
  some (.inr x_166)
def qcW (N:Nat) (t_0:Table) (x_64:List (Int)) (x_93:Int) (known_94:List (Key × Int)) (finer_95:List (Int)):Option ((Int × (List (Key × Int)) × (List (Int))) ⊕ (((List (Key × Int)) × (List (Int))))) :=
 bif (decide (x_93 < (t_0.next.length:Int))) then
  (idx t_0.next x_93).bind fun x104 =>
  (idx x_64 x_93).bind fun x125 =>
  (iter (fun s=>qb4 N x_64 x104 s.1 s.2) N (0,(Key.mk x125 (Arr11_Int.mk 0 0 0 0 0 0 0 0 0 0 0)))).bind fun o151 =>
  (show Option ((List (Key × Int)) × Int) from
   bif (!((mget known_94 o151).isSome)) then
    (mset known_94 o151 (known_94.length:Int)).bind fun l223 =>
    some (l223,(known_94.length:Int))
   else
    some (known_94,((mget known_94 o151).getD 0))).bind fun o217 =>
  (idx finer_95 x_93).bind fun _x231 =>
  (setI finer_95 x_93 o217.2).bind fun l237 =>
  some (.inl ((x_93 + 1),o217.1,l237))
 else
  some (.inr (known_94,finer_95))
def qb3 (N:Nat) (t_0:Table) (count_63:Int) (x_64:List (Int)):Option ((Int × (List (Int))) ⊕ (((List (Int)) × Int))) :=
 (mk (x_64.length:Int) (0:Int)).bind fun l72 =>
 (iter (fun s=>qcW N t_0 x_64 s.1 s.2.1 s.2.2) N (0,([]:List (Key × Int)),l72)).bind fun o85 =>
 bif ((o85.1.length:Int) == count_63) then
  some (.inr (o85.2,count_63))
 else
  some (.inl ((o85.1.length:Int),o85.2))
def qcl (_N:Nat) (o58:((List (Int)) × Int)) (i_286:Int) (x_287:List (Int)):Option ((Int × (List (Int))) ⊕ (((List (Int))))) :=
 bif (decide (i_286 ≥ 0)) then
  (show Option ((List (Int))) from
   (idx o58.1 i_286).bind fun x297 =>
   (idx x_287 x297).bind fun _x308 =>
   (setI x_287 x297 i_286).bind fun l314 =>
   some l314).bind fun o293 =>
  some (.inl ((IntKind.wrap .i64 (i_286 - 1)),o293))
 else
  some (.inr x_287)
def qdG (N:Nat) (t_0:Table):Option Table :=
 (mk (t_0.next.length:Int) (0:Int)).bind fun l7 =>
 (iter (fun s=>qck N t_0 s.1 s.2) N (0,l7)).bind fun o18 =>
 (iter (fun s=>qb3 N t_0 s.1 s.2) N (0,o18)).bind fun o58 =>
 (mk o58.2 (0:Int)).bind fun l270 =>
 (iter (fun s=>qcl N o58 s.1 s.2) N ((IntKind.wrap .i64 ((o58.1.length:Int) - 1)),l270)).bind fun o281 =>
 (idx o58.1 0).bind fun x339 =>
 (qcO N x339 o58.1 t_0 o281).bind fun r350 =>
 some r350
def qc1 (_N:Nat) (t_0:Table) (x_27:Int) (x_28:DFA):Option ((Int × DFA) ⊕ DFA) :=
 bif (decide (x_27 < (t_0.next.length:Int))) then
  (idx t_0.next x_27).bind fun x38 =>
  (show Option DFA from
   (app x_28.Next ([([x38.e0,x38.e1,x38.e2,x38.e3,x38.e4,x38.e5,x38.e6,x38.e7,x38.e8,x38.e9,x38.e10]:List (Int))]:List (List (Int)))).bind fun l71 =>
   some (DFA.mk x_28.Start l71 x_28.Accept)).bind fun o61 =>
  some (.inl ((x_27 + 1),o61))
 else
  some (.inr x_28)
def qeu (N:Nat) (t_0:Table):Option DFA :=
 (iter (fun s=>qc1 N t_0 s.1 s.2) N (0,(DFA.mk 0 ([]) t_0.accept))).bind fun o18 =>
 some o18
def qev (N:Nat) (c_0:List (List (Relation))):Option (DFA × Int) :=
 (qfC N c_0).bind fun r3 =>
 bif (r3.2 != 0) then
  some ((DFA.mk 0 ([]) ([])),r3.2)
 else
  bif (decide (r3.1 > 4000)) then
   some ((DFA.mk 0 ([]) ([])),6)
  else
   (qcM N c_0).bind fun r9 =>
   (qbJ N (Reading.mk 0 (Arr6_Tracker.mk (Tracker.mk 0 0) (Tracker.mk 0 0) (Tracker.mk 0 0) (Tracker.mk 0 0) (Tracker.mk 0 0) (Tracker.mk 0 0))) r9 c_0).bind fun r15 =>
   (qdG N r15).bind fun r24 =>
   bif (decide ((r24.next.length:Int) > 2000)) then
    some ((DFA.mk 0 ([]) ([])),6)
   else
    (qeu N r24).bind fun r35 =>
    some (r35,0)
end Go.Proofs.YtidfofhmnlhfjaaDoor
namespace Go.Proofs.YtidfofhmnlhfjaaDoor
open Go.X
def qaT (_N:Nat) (s_0:DigitsRead) (symbol_1:Int):Option DigitsRead :=
 bif (symbol_1 == 10) then
  bif (s_0.phase == 1) then
   some (DigitsRead.mk 2 0 false)
  else
   bif (symbol_1 == 10) then
    some (DigitsRead.mk 4 0 false)
   else
    bif (s_0.phase == 4) then
     some (DigitsRead.mk 4 0 false)
    else
     bif s_0.zero then
      some (DigitsRead.mk 4 0 false)
     else
      bif (s_0.phase == 0) then
       some (DigitsRead.mk 1 1 (symbol_1 == 0))
      else
       bif (s_0.phase == 1) then
        bif (decide (s_0.count < 15)) then
         some (DigitsRead.mk 1 (s_0.count + 1) false)
        else
         bif (s_0.phase == 2) then
          some (DigitsRead.mk 3 1 false)
         else
          bif (s_0.phase == 3) then
           bif (decide (s_0.count < 6)) then
            some (DigitsRead.mk 3 (s_0.count + 1) false)
           else
            some (DigitsRead.mk 4 0 false)
          else
           some (DigitsRead.mk 4 0 false)
       else
        bif (s_0.phase == 2) then
         some (DigitsRead.mk 3 1 false)
        else
         bif (s_0.phase == 3) then
          bif (decide (s_0.count < 6)) then
           some (DigitsRead.mk 3 (s_0.count + 1) false)
          else
           some (DigitsRead.mk 4 0 false)
         else
          some (DigitsRead.mk 4 0 false)
 else
  bif (symbol_1 == 10) then
   some (DigitsRead.mk 4 0 false)
  else
   bif (s_0.phase == 4) then
    some (DigitsRead.mk 4 0 false)
   else
    bif s_0.zero then
     some (DigitsRead.mk 4 0 false)
    else
     bif (s_0.phase == 0) then
      some (DigitsRead.mk 1 1 (symbol_1 == 0))
     else
      bif (s_0.phase == 1) then
       bif (decide (s_0.count < 15)) then
        some (DigitsRead.mk 1 (s_0.count + 1) false)
       else
        bif (s_0.phase == 2) then
         some (DigitsRead.mk 3 1 false)
        else
         bif (s_0.phase == 3) then
          bif (decide (s_0.count < 6)) then
           some (DigitsRead.mk 3 (s_0.count + 1) false)
          else
           some (DigitsRead.mk 4 0 false)
         else
          some (DigitsRead.mk 4 0 false)
      else
       bif (s_0.phase == 2) then
        some (DigitsRead.mk 3 1 false)
       else
        bif (s_0.phase == 3) then
         bif (decide (s_0.count < 6)) then
          some (DigitsRead.mk 3 (s_0.count + 1) false)
         else
          some (DigitsRead.mk 4 0 false)
        else
         some (DigitsRead.mk 4 0 false)
def qdS (_N:Nat) (s_0:DigitsRead):Option Bool :=
 bif (s_0.phase == 1) then
  some true
 else
  some (s_0.phase == 3)
def qaY (N:Nat) (i_53:Int) (states_114:List (DigitsRead)) (x_115:Int) (x_116:Arr11_Int) (number_117:List (DigitsRead × Int)):Option (((List (DigitsRead)) × Int × Arr11_Int × (List (DigitsRead × Int))) ⊕ ((Arr11_Int × (List (DigitsRead × Int)) × (List (DigitsRead))))) :=
 bif (decide (x_115 < 11)) then
  (idx states_114 i_53).bind fun x138 =>
  (qaT N x138 x_115).bind fun r150 =>
  bif (!((mget number_117 r150).isSome)) then
   (mset number_117 r150 (states_114.length:Int)).bind fun l164 =>
   (app states_114 ([r150]:List (DigitsRead))).bind fun l171 =>
   (Arr11_Int.get x_116 x_115).bind fun _x176 =>
   (Arr11_Int.set x_116 x_115 (states_114.length:Int)).bind fun z178 =>
   some (.inl (l171,(x_115 + 1),z178,l164))
  else
   (Arr11_Int.get x_116 x_115).bind fun _x182 =>
   (Arr11_Int.set x_116 x_115 ((mget number_117 r150).getD 0)).bind fun z184 =>
   some (.inl (states_114,(x_115 + 1),z184,number_117))
 else
  some (.inr (x_116,number_117,states_114))
def qa4 (N:Nat) (states_52:List (DigitsRead)) (i_53:Int) (x_54:Table) (number_55:List (DigitsRead × Int)):Option (((List (DigitsRead)) × Int × Table × (List (DigitsRead × Int))) ⊕ Table) :=
 bif (decide (i_53 < (states_52.length:Int))) then
  (iter (fun s=>qaY N i_53 s.1 s.2.1 s.2.2.1 s.2.2.2) N (states_52,0,(Arr11_Int.mk 0 0 0 0 0 0 0 0 0 0 0),number_55)).bind fun o94 =>
  (app x_54.next ([o94.1]:List (Arr11_Int))).bind fun l209 =>
  (show Option Table from
   (idx o94.2.2 i_53).bind fun x221 =>
   (qdS N x221).bind fun r233 =>
   (app x_54.accept ([r233]:List (Bool))).bind fun l238 =>
   some (Table.mk l209 l238)).bind fun o214 =>
  some (.inl (o94.2.2,(i_53 + 1),o214,o94.2.1))
 else
  some (.inr x_54)
def qbq (N:Nat) (start_0:DigitsRead):Option Table :=
 (mset ([]:List (DigitsRead × Int)) start_0 0).bind fun l8 =>
 (iter (fun s=>qa4 N s.1 s.2.1 s.2.2.1 s.2.2.2) N (([start_0]:List (DigitsRead)),0,(Table.mk ([]) ([])),l8)).bind fun o37 =>
 some o37
def qe9 (N:Nat):Option DFA :=
 (qbq N (DigitsRead.mk 0 0 false)).bind fun r2 =>
 (qdG N r2).bind fun r11 =>
 (qeu N r11).bind fun r20 =>
 some r20
def qgB (_N:Nat) (c_0:List (List (Relation))) (out_13:List (Relation)) (i_14:Int):Option (((List (Relation)) × Int) ⊕ (((List (Relation))))) :=
 bif (decide (i_14 < (c_0.length:Int))) then
  (idx c_0 i_14).bind fun x20 =>
  (app out_13 x20).bind fun l31 =>
  some (.inl (l31,(i_14 + 1)))
 else
  some (.inr out_13)
def qgr (N:Nat) (c_0:List (List (Relation))):Option (List (Relation)) :=
 (iter (fun s=>qgB N c_0 s.1 s.2) N ([],0)).bind fun o8 =>
 some o8
def qgl (_N:Nat) (r_0:Relation) (n_11:Int) (i_12:Int):Option ((Int × Int) ⊕ Int) :=
 bif (decide (i_12 < (r_0.Spans.length:Int))) then
  (idx r_0.Spans i_12).bind fun x16 =>
  some (.inl ((max n_11 x16.To),(i_12 + 1)))
 else
  some (.inr n_11)
def qfh (N:Nat) (r_0:Relation):Option Int :=
 (iter (fun s=>qgl N r_0 s.1 s.2) N (0,0)).bind fun o8 =>
 some o8
def qcy (N:Nat) (r4:(List (Relation))) (n_14:Int) (i_15:Int):Option ((Int × Int) ⊕ Int) :=
 bif (decide (i_15 < (r4.length:Int))) then
  (idx r4 i_15).bind fun x19 =>
  (show Option Int from
   bif (x19.Mod == 0) then
    (idx r4 i_15).bind fun x35 =>
    (qfh N x35).bind fun r48 =>
    some (IntKind.wrap .i64 (r48 + 2))
   else
    some x19.Mod).bind fun o32 =>
  (idx r4 i_15).bind fun x52 =>
  (show Option Int from
   bif (x52.Operand == 6) then
    some (IntKind.wrap .i64 (o32 * o32))
   else
    some o32).bind fun o65 =>
  some (.inl ((min 1000000 (IntKind.wrap .i64 (n_14 * o65))),(i_15 + 1)))
 else
  some (.inr n_14)
def qcA (N:Nat) (c_0:List (List (Relation))):Option (Int × Int) :=
 (qeU N c_0).bind fun r1 =>
 bif (!r1) then
  some (0,1)
 else
  (qgr N c_0).bind fun r4 =>
  (iter (fun s=>qcy N r4 s.1 s.2) N (1,0)).bind fun o11 =>
  some (o11,0)
end Go.Proofs.YtidfofhmnlhfjaaDoor
namespace Go.Proofs.YtidfofhmnlhfjaaDoor
open Go.X
def qcY (_N:Nat) (l_0:List (Bool)):Option Bool :=
 (idx l_0 0).bind fun x1 =>
 (idx l_0 1).bind fun x10 =>
 some (x1 != x10)
def qbE (N:Nat) (x0:Option (qak)) (x1:Part) (x2:Part) (x3:List (List (List (Relation)))) (x4:List (Int)) (x_28:Int) (conds_29:List (Bool)):Option ((Int × (List (Bool))) ⊕ (((List (Bool))))) :=
 bif (decide (x_28 < (x3.length:Int))) then
  (idx x3 x_28).bind fun x35 =>
  (show Option ((List (Bool))) from
   (qex N x35 x4 x_28 x0 x1 x2).bind fun r51 =>
   (idx conds_29 x_28).bind fun _x53 =>
   (setI conds_29 x_28 r51).bind fun l59 =>
   some l59).bind fun o47 =>
  some (.inl ((x_28 + 1),o47))
 else
  some (.inr conds_29)
def qcQ (N:Nat) (x0:Option (qak)) (x1:Part) (x2:Part) (x3:List (List (List (Relation)))) (x4:List (Int)):Option Bool :=
 (mk (x3.length:Int) (false:Bool)).bind fun l13 =>
 (iter (fun s=>qbE N x0 x1 x2 x3 x4 s.1 s.2) N (0,l13)).bind fun o23 =>
 (qcY N o23).bind fun r80 =>
 some r80
def qbv (N:Nat) (x_0:Option (qak)) (x0:List (List (List (Relation)))) (x1:List (Int)) (x33:Part) (y45:qak) (found_65:List UInt8) (ok_66:Bool) (x_67:Int):Option (((List UInt8) × Bool × Int) ⊕ (((List UInt8) × Bool))) :=
 bif (decide (x_67 < (y45.fraction.length:Int))) then
  (idx y45.fraction x_67).bind fun x71 =>
  (show Option ((List UInt8)) from
   bif (x71.text != ([])) then
    (cat ([46]) x71.text).bind fun s86 =>
    (cat x33.text s86).bind fun s88 =>
    some s88
   else
    some x33.text).bind fun o83 =>
  bif (!ok_66) then
   (qcQ N x_0 x33 x71 x0 x1).bind fun r92 =>
   bif r92 then
    some (.inl (o83,true,(x_67 + 1)))
   else
    some (.inl (found_65,ok_66,(x_67 + 1)))
  else
   (qfA N o83 found_65).bind fun r95 =>
   bif r95 then
    (qcQ N x_0 x33 x71 x0 x1).bind fun r98 =>
    bif r98 then
     some (.inl (o83,true,(x_67 + 1)))
    else
     some (.inl (found_65,ok_66,(x_67 + 1)))
   else
    some (.inl (found_65,ok_66,(x_67 + 1)))
 else
  some (.inr (found_65,ok_66))
def qbO (N:Nat) (x_0:Option (qak)) (x0:List (List (List (Relation)))) (x1:List (Int)) (y7:qak) (found_27:List UInt8) (ok_28:Bool) (x_29:Int):Option (((List UInt8) × Bool × Int) ⊕ (((List UInt8) × Bool))) :=
 bif (decide (x_29 < (y7.wholes.length:Int))) then
  (idx y7.wholes x_29).bind fun x33 =>
  (x_0).bind fun y45 =>
  (iter (fun s=>qbv N x_0 x0 x1 x33 y45 s.1 s.2.1 s.2.2) N (found_27,ok_28,0)).bind fun o62 =>
  some (.inl (o62.1,o62.2,(x_29 + 1)))
 else
  some (.inr (found_27,ok_28))
def qcF (N:Nat) (x_0:Option (qak)) (x0:List (List (List (Relation)))) (x1:List (Int)):Option ((List UInt8) × Bool) :=
 (x_0).bind fun y7 =>
 (iter (fun s=>qbO N x_0 x0 x1 y7 s.1 s.2.1 s.2.2) N ([],false,0)).bind fun o24 =>
 some (o24.1,o24.2)
def qbV (N:Nat) (l_0:List (List (List (Relation)))) (all_28:List (Relation)) (x_29:Int) (x_30:List (Int)):Option (((List (Relation)) × Int × (List (Int))) ⊕ (((List (Int)) × (List (Relation))))) :=
 bif (decide (x_29 < (l_0.length:Int))) then
  (idx l_0 x_29).bind fun x40 =>
  (idx x_30 x_29).bind fun _x51 =>
  (setI x_30 x_29 (all_28.length:Int)).bind fun l57 =>
  (qcM N x40).bind fun r61 =>
  (app all_28 r61).bind fun l66 =>
  some (.inl (l66,(x_29 + 1),l57))
 else
  some (.inr (x_30,all_28))
def qe3 (N:Nat) (l_0:List (List (List (Relation)))):Option ((List UInt8) × Bool) :=
 (mk (l_0.length:Int) (0:Int)).bind fun l3 =>
 (iter (fun s=>qbV N l_0 s.1 s.2.1 s.2.2) N ([],0,l3)).bind fun o19 =>
 (qel N o19.2).bind fun r80 =>
 (qcF N r80 l_0 o19.1).bind fun r85 =>
 some (r85.1,r85.2)
def qeT (N:Nat) (a_0:List (List (Relation))) (b_1:List (List (Relation))):Option ((List UInt8) × Bool × Int) :=
 (qdD N a_0).bind fun r1 =>
 bif (!r1) then
  some ([],false,1)
 else
  (qdD N b_1).bind fun r4 =>
  bif (!r4) then
   some ([],false,1)
  else
   (qe3 N ([a_0,b_1]:List (List (List (Relation))))).bind fun r15 =>
   some (r15.1,(!r15.2),0)
end Go.Proofs.YtidfofhmnlhfjaaDoor
namespace Go.Proofs.YtidfofhmnlhfjaaDoor
open Go.X
structure Arr2_Int where
 e0:Int
 e1:Int
 deriving DecidableEq
def Arr2_Int.list (a:Arr2_Int):List (Int):=[a.e0,a.e1]
def Arr2_Int.of:List (Int) → Option Arr2_Int
 | [x0,x1]=>some ⟨x0,x1⟩
 | _=>none
def Arr2_Int.get (a:Arr2_Int) (i:Int):Option (Int):=idx a.list i
def Arr2_Int.set (a:Arr2_Int) (i:Int) (x:Int):Option Arr2_Int:=(setI a.list i x).bind Arr2_Int.of
def qgq (_N:Nat) (x_0:Bool) (y_1:Bool):Option Bool :=
 bif x_0 then
  some y_1
 else
  some false
def qc9 (_N:Nat) (d_0:DFA) (x18:List (Int)) (x_33:Int):Option (Int ⊕ ((Unit ⊕ Bool))) :=
 bif (decide (x_33 < (x18.length:Int))) then
  (idx x18 x_33).bind fun x36 =>
  bif (decide (x36 < 0)) then
   some (.inr (.inr false))
  else
   bif (decide (x36 ≥ (d_0.Next.length:Int))) then
    some (.inr (.inr false))
   else
    some (.inl (x_33 + 1))
 else
  some (.inr (.inl ()))
def qdg (N:Nat) (d_0:DFA) (x_15:Int):Option (Int ⊕ ((Unit ⊕ Bool))) :=
 bif (decide (x_15 < (d_0.Next.length:Int))) then
  (idx d_0.Next x_15).bind fun x18 =>
  bif ((x18.length:Int) != 11) then
   some (.inr (.inr false))
  else
   (iter (fun s=>qc9 N d_0 x18 s) N 0).bind fun o31 =>
   Sum.elim (fun _o31 =>
    some (.inl (x_15 + 1)))
   (fun o31 =>
    some (.inr (.inr o31))) o31
 else
  some (.inr (.inl ()))
def qeN (N:Nat) (d_0:DFA):Option Bool :=
 bif (decide ((d_0.Next.length:Int) < 1)) then
  some false
 else
  bif (decide ((d_0.Next.length:Int) > 2000)) then
   some false
  else
   bif ((d_0.Accept.length:Int) != (d_0.Next.length:Int)) then
    some false
   else
    bif (decide (d_0.Start < 0)) then
     some false
    else
     bif (decide (d_0.Start ≥ (d_0.Next.length:Int))) then
      some false
     else
      (iter (fun s=>qdg N d_0 s) N 0).bind fun o13 =>
      Sum.elim (fun _o13 =>
       some true)
      (fun o13 =>
       some o13) o13
def qe8 (_N:Nat) (n:Int):Option (List (List Int)):=Go.X.grid n
def qcS (_N:Nat) (l8:List (Int)) (x_23:Int) (number_24:List (Int)):Option ((Int × (List (Int))) ⊕ (((List (Int))))) :=
 bif (decide (x_23 < (l8.length:Int))) then
  (idx number_24 x_23).bind fun _x30 =>
  (setI number_24 x_23 (-1)).bind fun l36 =>
  some (.inl ((x_23 + 1),l36))
 else
  some (.inr number_24)
def qcU (_N:Nat) (x97:List (Int)) (order_127:List (Int)) (x_128:Int) (number_129:List (Int)):Option (((List (Int)) × Int × (List (Int))) ⊕ (((List (Int)) × (List (Int))))) :=
 bif (decide (x_128 < (x97.length:Int))) then
  (idx x97 x_128).bind fun x138 =>
  (idx number_129 x138).bind fun x148 =>
  bif (decide (x148 < 0)) then
   (idx number_129 x138).bind fun _x160 =>
   (setI number_129 x138 (order_127.length:Int)).bind fun l166 =>
   (app order_127 ([x138]:List (Int))).bind fun l173 =>
   some (.inl (l173,(x_128 + 1),l166))
  else
   some (.inl (order_127,(x_128 + 1),number_129))
 else
  some (.inr (number_129,order_127))
def qcR (N:Nat) (d_0:DFA) (order_75:List (Int)) (i_76:Int) (number_77:List (Int)):Option (((List (Int)) × Int × (List (Int))) ⊕ (((List (Int)) × (List (Int))))) :=
 bif (decide (i_76 < (order_75.length:Int))) then
  (idx order_75 i_76).bind fun x86 =>
  (idx d_0.Next x86).bind fun x97 =>
  (iter (fun s=>qcU N x97 s.1 s.2.1 s.2.2) N (order_75,0,number_77)).bind fun o119 =>
  some (.inl (o119.2,(i_76 + 1),o119.1))
 else
  some (.inr (number_77,order_75))
def qcV (_N:Nat) (o67:((List (Int)) × (List (Int)))) (x_285:Int) (x354:List (Int)) (x_383:Int) (x_384:DFA):Option ((Int × DFA) ⊕ DFA) :=
 bif (decide (x_383 < (x354.length:Int))) then
  (idx x354 x_383).bind fun x394 =>
  (show Option DFA from
   (idx x_384.Next x_285).bind fun x412 =>
   (idx o67.1 x394).bind fun x421 =>
   (idx x412 x_383).bind fun _x432 =>
   (setI x412 x_383 x421).bind fun l438 =>
   (setI x_384.Next x_285 l438).bind fun g440 =>
   some (DFA.mk x_384.Start g440 x_384.Accept)).bind fun o404 =>
  some (.inl ((x_383 + 1),o404))
 else
  some (.inr x_384)
def qcT (N:Nat) (d_0:DFA) (o67:((List (Int)) × (List (Int)))) (x_285:Int) (x_286:DFA):Option ((Int × DFA) ⊕ DFA) :=
 bif (decide (x_285 < (o67.2.length:Int))) then
  (idx o67.2 x_285).bind fun x296 =>
  (show Option DFA from
   (idx d_0.Accept x296).bind fun x315 =>
   (idx x_286.Accept x_285).bind fun _x324 =>
   (setI x_286.Accept x_285 x315).bind fun l330 =>
   some (DFA.mk x_286.Start x_286.Next l330)).bind fun o307 =>
  (idx d_0.Next x296).bind fun x354 =>
  (iter (fun s=>qcV N o67 x_285 x354 s.1 s.2) N (0,o307)).bind fun o374 =>
  some (.inl ((x_285 + 1),o374))
 else
  some (.inr x_286)
def qdF (N:Nat) (d_0:DFA):Option DFA :=
 (mk (d_0.Next.length:Int) (0:Int)).bind fun l8 =>
 (iter (fun s=>qcS N l8 s.1 s.2) N (0,l8)).bind fun o18 =>
 (idx o18 d_0.Start).bind fun _x46 =>
 (setI o18 d_0.Start 0).bind fun l52 =>
 (iter (fun s=>qcR N d_0 s.1 s.2.1 s.2.2) N (([d_0.Start]:List (Int)),0,l52)).bind fun o67 =>
 (show Option DFA from
  (qe8 N (o67.2.length:Int)).bind fun g206 =>
  (mk (o67.2.length:Int) (false:Bool)).bind fun l212 =>
  some (DFA.mk 0 g206 l212)).bind fun o196 =>
 (iter (fun s=>qcT N d_0 o67 s.1 s.2) N (0,o196)).bind fun o276 =>
 some o276
def qdr (_N:Nat) (d_0:DFA) (count_25:Int) (x_26:Int) (class_27:List (Int)):Option ((Int × Int × (List (Int))) ⊕ (((List (Int)) × Int))) :=
 bif (decide (x_26 < (d_0.Accept.length:Int))) then
  (idx d_0.Accept x_26).bind fun x34 =>
  (show Option ((List (Int))) from
   bif x34 then
    (idx class_27 x_26).bind fun _x48 =>
    (setI class_27 x_26 1).bind fun l54 =>
    some l54
   else
    some class_27).bind fun o43 =>
  (idx d_0.Accept 0).bind fun x61 =>
  bif (x34 != x61) then
   some (.inl (2,(x_26 + 1),o43))
  else
   some (.inl (count_25,(x_26 + 1),o43))
 else
  some (.inr (class_27,count_25))
def qcb (_N:Nat) (class_84:List (Int)) (x125:List (Int)) (x_176:Int) (x_177:Key):Option ((Int × Key) ⊕ Key) :=
 bif (decide (x_176 < (x125.length:Int))) then
  (idx x125 x_176).bind fun x192 =>
  (idx class_84 x192).bind fun x202 =>
  (Arr11_Int.get x_177.next x_176).bind fun _x213 =>
  (Arr11_Int.set x_177.next x_176 x202).bind fun z215 =>
  some (.inl ((x_176 + 1),(Key.mk x_177.class_ z215)))
 else
  some (.inr x_177)
def qdm (N:Nat) (d_0:DFA) (class_84:List (Int)) (x_114:Int) (known_115:List (Key × Int)) (finer_116:List (Int)):Option ((Int × (List (Key × Int)) × (List (Int))) ⊕ (((List (Key × Int)) × (List (Int))))) :=
 bif (decide (x_114 < (d_0.Next.length:Int))) then
  (idx d_0.Next x_114).bind fun x125 =>
  (idx class_84 x_114).bind fun x136 =>
  (iter (fun s=>qcb N class_84 x125 s.1 s.2) N (0,(Key.mk x136 (Arr11_Int.mk 0 0 0 0 0 0 0 0 0 0 0)))).bind fun o162 =>
  (show Option ((List (Key × Int)) × Int) from
   bif (!((mget known_115 o162).isSome)) then
    (mset known_115 o162 (known_115.length:Int)).bind fun l242 =>
    some (l242,(known_115.length:Int))
   else
    some (known_115,((mget known_115 o162).getD 0))).bind fun o236 =>
  (idx finer_116 x_114).bind fun _x250 =>
  (setI finer_116 x_114 o236.2).bind fun l256 =>
  some (.inl ((x_114 + 1),o236.1,l256))
 else
  some (.inr (known_115,finer_116))
def qdj (N:Nat) (d_0:DFA) (class_84:List (Int)) (count_85:Int):Option (((List (Int)) × Int) ⊕ (((List (Int)) × Int))) :=
 (mk (class_84.length:Int) (0:Int)).bind fun l93 =>
 (iter (fun s=>qdm N d_0 class_84 s.1 s.2.1 s.2.2) N (0,([]:List (Key × Int)),l93)).bind fun o106 =>
 bif ((o106.1.length:Int) == count_85) then
  some (.inr (o106.2,count_85))
 else
  some (.inl (o106.2,(o106.1.length:Int)))
def qe0 (N:Nat) (d_0:DFA):Option ((List (Int)) × Int) :=
 (mk (d_0.Next.length:Int) (0:Int)).bind fun l7 =>
 (iter (fun s=>qdr N d_0 s.1 s.2.1 s.2.2) N (1,0,l7)).bind fun o19 =>
 (iter (fun s=>qdj N d_0 s.1 s.2) N (o19.1,o19.2)).bind fun o79 =>
 some (o79.1,o79.2)
def qdu (_N:Nat) (r18:(List (Int)) × Int) (x_131:Int) (x142:List (Int)) (x_236:Int) (x_237:DFA):Option ((Int × DFA) ⊕ DFA) :=
 bif (decide (x_236 < (x142.length:Int))) then
  (idx x142 x_236).bind fun x247 =>
  (show Option DFA from
   (idx r18.1 x_131).bind fun x265 =>
   (idx x_237.Next x265).bind fun x275 =>
   (idx r18.1 x247).bind fun x284 =>
   (idx x275 x_236).bind fun _x294 =>
   (setI x275 x_236 x284).bind fun l300 =>
   (setI x_237.Next x265 l300).bind fun g302 =>
   some (DFA.mk x_237.Start g302 x_237.Accept)).bind fun o257 =>
  some (.inl ((x_236 + 1),o257))
 else
  some (.inr x_237)
def qdt (N:Nat) (r8:DFA) (r18:(List (Int)) × Int) (x_131:Int) (x_132:DFA):Option ((Int × DFA) ⊕ DFA) :=
 bif (decide (x_131 < (r8.Next.length:Int))) then
  (idx r8.Next x_131).bind fun x142 =>
  (show Option DFA from
   (idx r18.1 x_131).bind fun x161 =>
   (idx r8.Accept x_131).bind fun x171 =>
   (idx x_132.Accept x161).bind fun _x180 =>
   (setI x_132.Accept x161 x171).bind fun l186 =>
   some (DFA.mk x_132.Start x_132.Next l186)).bind fun o153 =>
  (iter (fun s=>qdu N r18 x_131 x142 s.1 s.2) N (0,o153)).bind fun o227 =>
  some (.inl ((x_131 + 1),o227))
 else
  some (.inr x_132)
def qeV (N:Nat) (d_0:DFA):Option DFA :=
 (qdF N d_0).bind fun r8 =>
 (qe0 N r8).bind fun r18 =>
 (show Option DFA from
  (idx r18.1 r8.Start).bind fun x34 =>
  (qe8 N r18.2).bind fun g44 =>
  (mk r18.2 (false:Bool)).bind fun l50 =>
  some (DFA.mk x34 g44 l50)).bind fun o24 =>
 (iter (fun s=>qdt N r8 r18 s.1 s.2) N (0,o24)).bind fun o122 =>
 (qdF N o122).bind fun r367 =>
 some r367
end Go.Proofs.YtidfofhmnlhfjaaDoor
namespace Go.Proofs.YtidfofhmnlhfjaaDoor
open Go.X
def qbu (_N:Nat) (a_0:DFA) (b_1:DFA) (x89:Arr2_Int) (x101:Arr2_Int) (pairs_143:List (Arr2_Int)) (x_144:Int) (number_145:List (Arr2_Int × Int)) (row_146:List (Int)):Option (((List (Arr2_Int)) × Int × (List (Arr2_Int × Int)) × (List (Int))) ⊕ (((List (Arr2_Int × Int)) × (List (Arr2_Int)) × (List (Int))))) :=
 bif (decide (x_144 < 11)) then
  (show Option Arr2_Int from
   (idx a_0.Next x89.e0).bind fun x162 =>
   (idx x162 x_144).bind fun x173 =>
   (idx b_1.Next x101.e1).bind fun x183 =>
   (idx x183 x_144).bind fun x194 =>
   some (Arr2_Int.mk x173 x194)).bind fun o158 =>
  (show Option ((List (Arr2_Int × Int)) × (List (Arr2_Int)) × Int) from
   bif (!((mget number_145 o158).isSome)) then
    (mset number_145 o158 (pairs_143.length:Int)).bind fun l257 =>
    (app pairs_143 ([o158]:List (Arr2_Int))).bind fun l264 =>
    some (l257,l264,(pairs_143.length:Int))
   else
    some (number_145,pairs_143,((mget number_145 o158).getD 0))).bind fun o248 =>
  (idx row_146 x_144).bind fun _x276 =>
  (setI row_146 x_144 o248.2.2).bind fun l282 =>
  some (.inl (o248.2.1,(x_144 + 1),o248.1,l282))
 else
  some (.inr (number_145,pairs_143,row_146))
def qda (N:Nat) (a_0:DFA) (b_1:DFA) (pairs_69:List (Arr2_Int)) (i_70:Int) (x_71:DFA) (number_72:List (Arr2_Int × Int)):Option (((List (Arr2_Int)) × Int × DFA × (List (Arr2_Int × Int))) ⊕ DFA) :=
 bif (decide (i_70 < (pairs_69.length:Int))) then
  (idx pairs_69 i_70).bind fun x89 =>
  (idx pairs_69 i_70).bind fun x101 =>
  (mk 11 (0:Int)).bind fun l113 =>
  (iter (fun s=>qbu N a_0 b_1 x89 x101 s.1 s.2.1 s.2.2.1 s.2.2.2) N (pairs_69,0,number_72,l113)).bind fun o132 =>
  (app x_71.Next ([o132.2.2]:List (List (Int)))).bind fun l300 =>
  (show Option DFA from
   (idx a_0.Accept x89.e0).bind fun x313 =>
   (idx b_1.Accept x101.e1).bind fun x322 =>
   (qgq N x313 x322).bind fun r331 =>
   (app x_71.Accept ([r331]:List (Bool))).bind fun l336 =>
   some (DFA.mk x_71.Start l300 l336)).bind fun o305 =>
  some (.inl (o132.2.1,(i_70 + 1),o305,o132.1))
 else
  some (.inr x_71)
def qeP (N:Nat) (a_0:DFA) (b_1:DFA):Option (DFA × Int) :=
 (qeN N a_0).bind fun r14 =>
 bif (!r14) then
  some ((DFA.mk 0 ([]) ([])),1)
 else
  (qeN N b_1).bind fun r17 =>
  bif (!r17) then
   some ((DFA.mk 0 ([]) ([])),1)
  else
   (mset ([]:List (Arr2_Int × Int)) (Arr2_Int.mk a_0.Start b_1.Start) 0).bind fun l23 =>
   (iter (fun s=>qda N a_0 b_1 s.1 s.2.1 s.2.2.1 s.2.2.2) N (([(Arr2_Int.mk a_0.Start b_1.Start)]:List (Arr2_Int)),0,(DFA.mk 0 ([]) ([])),l23)).bind fun o53 =>
   (qeV N o53).bind fun r389 =>
   bif (decide ((r389.Next.length:Int) > 2000)) then
    some ((DFA.mk 0 ([]) ([])),6)
   else
    some (r389,0)
def qfE (N:Nat) (a_0:DFA) (b_1:DFA):Option (DFA × Int) :=
 (qeP N a_0 b_1).bind fun r14 =>
 some (r14.1,r14.2)
def qb0 (_N:Nat) (a_0:DFA) (b_1:DFA) (i_19:Int) (c_48:Int):Option (Int ⊕ ((Unit ⊕ Bool))) :=
 (idx a_0.Next i_19).bind fun x50 =>
 bif (decide (c_48 < (x50.length:Int))) then
  (idx a_0.Next i_19).bind fun x62 =>
  (idx x62 c_48).bind fun x73 =>
  (idx b_1.Next i_19).bind fun x83 =>
  (idx x83 c_48).bind fun x94 =>
  bif (x73 != x94) then
   some (.inr (.inr false))
  else
   some (.inl (c_48 + 1))
 else
  some (.inr (.inl ()))
def qcL (N:Nat) (a_0:DFA) (b_1:DFA) (i_19:Int):Option (Int ⊕ ((Unit ⊕ Bool))) :=
 bif (decide (i_19 < (a_0.Next.length:Int))) then
  (idx a_0.Next i_19).bind fun x22 =>
  (idx b_1.Next i_19).bind fun x33 =>
  bif ((x22.length:Int) != (x33.length:Int)) then
   some (.inr (.inr false))
  else
   (iter (fun s=>qb0 N a_0 b_1 i_19 s) N 0).bind fun o46 =>
   Sum.elim (fun _o46 =>
    some (.inl (i_19 + 1)))
   (fun o46 =>
    some (.inr (.inr o46))) o46
 else
  some (.inr (.inl ()))
def qcJ (_N:Nat) (a_0:DFA) (b_1:DFA) (i_110:Int):Option (Int ⊕ ((Unit ⊕ Bool))) :=
 bif (decide (i_110 < (a_0.Accept.length:Int))) then
  (idx a_0.Accept i_110).bind fun x113 =>
  (idx b_1.Accept i_110).bind fun x122 =>
  bif (x113 != x122) then
   some (.inr (.inr false))
  else
   some (.inl (i_110 + 1))
 else
  some (.inr (.inl ()))
def qeX (N:Nat) (a_0:DFA) (b_1:DFA):Option Bool :=
 bif (a_0.Start != b_1.Start) then
  some false
 else
  bif ((a_0.Next.length:Int) != (b_1.Next.length:Int)) then
   some false
  else
   bif ((a_0.Accept.length:Int) != (b_1.Accept.length:Int)) then
    some false
   else
    (iter (fun s=>qcL N a_0 b_1 s) N 0).bind fun o17 =>
    Sum.elim (fun _o17 =>
     (iter (fun s=>qcJ N a_0 b_1 s) N 0).bind fun o108 =>
     Sum.elim (fun _o108 =>
      some true)
     (fun o108 =>
      some o108) o108)
    (fun o17 =>
     some o17) o17
end Go.Proofs.YtidfofhmnlhfjaaDoor
namespace Go.Proofs.YtidfofhmnlhfjaaDoor
open Go.X
def qcm (N:Nat) (a_0:List (List (Relation))) (b_1:List (List (Relation))):Option Bool :=
 (qdy N ).bind fun r1 =>
 bif (!r1) then
  (qdy N ).bind fun r4 =>
  some r4
 else
  (qc3 N ([a_0,b_1]:List (List (List (Relation))))).bind fun r14 =>
  bif (!r14) then
   (qdy N ).bind fun r17 =>
   some r17
  else
   (qcA N a_0).bind fun r19 =>
   (qcA N b_1).bind fun r23 =>
   bif (r19.2 != 0) then
    some true
   else
    bif (r23.2 != 0) then
     some true
    else
     bif (decide (r19.1 > 60)) then
      some true
     else
      bif (decide (r23.1 > 60)) then
       some true
      else
       (qev N a_0).bind fun r31 =>
       (qev N b_1).bind fun r43 =>
       (show Option (DFA × Int) from
        (qe9 N ).bind fun r64 =>
        (qfE N r31.1 r64).bind fun r74 =>
        some (r74.1,r74.2)).bind fun o55 =>
       (show Option (DFA × Int) from
        (qe9 N ).bind fun r149 =>
        (qfE N r43.1 r149).bind fun r159 =>
        some (r159.1,r159.2)).bind fun o140 =>
       (qeT N a_0 b_1).bind fun r225 =>
       bif (o55.2 == 6) then
        some true
       else
        bif (o140.2 == 6) then
         some true
        else
         bif (r31.2 == 0) then
          bif (r43.2 == 0) then
           bif (o55.2 == 0) then
            bif (o140.2 == 0) then
             bif (r225.2.2 == 0) then
              (qeX N o55.1 o140.1).bind fun r236 =>
              some (r225.2.1 == r236)
             else
              some false
            else
             some false
           else
            some false
          else
           some false
         else
          some false
end Go.Proofs.YtidfofhmnlhfjaaDoor
namespace Go.Proofs
open Go.Shelf
def Tryd.laysM171_ren:Go.Shelf.Ren:=⟨fun | 171=>70 | 243=>84 | 246=>88 | 283=>90 | 284=>91 | 285=>92 | 286=>93 | 129=>95 | 317=>94 | 318=>96 | 319=>97 | 320=>98 | 337=>99 | 338=>100 | n=>n,fun | 3=>3 | 9=>9 | 2=>2 | 4=>4 | 171=>156 | 0=>0 | 53=>134 | 37=>159 | 5=>5 | 173=>160 | 212=>163 | 51=>164 | 20=>20 | 213=>165 | 46=>166 | 232=>169 | 233=>170 | n=>n,fun | 17=>0 | 18=>1 | 19=>2 | n=>n⟩
theorem Tryd.laysM171:Go.Proofs.LaysM.n171 Tryd.prog Tryd.laysM171_ren:={
 mixed:=by kernel_rfl
 f129:=Tryd.func95.trans (congrArg some (by kernel_rfl))
 f171:=Tryd.func70.trans (congrArg some (by kernel_rfl))
 f243:=Tryd.func84.trans (congrArg some (by kernel_rfl))
 f246:=Tryd.func88.trans (congrArg some (by kernel_rfl))
 f283:=Tryd.func90.trans (congrArg some (by kernel_rfl))
 f284:=Tryd.func91.trans (congrArg some (by kernel_rfl))
 f285:=Tryd.func92.trans (congrArg some (by kernel_rfl))
 f286:=Tryd.func93.trans (congrArg some (by kernel_rfl))
 f317:=Tryd.func94.trans (congrArg some (by kernel_rfl))
 f318:=Tryd.func96.trans (congrArg some (by kernel_rfl))
 f319:=Tryd.func97.trans (congrArg some (by kernel_rfl))
 f320:=Tryd.func98.trans (congrArg some (by kernel_rfl))
 f337:=Tryd.func99.trans (congrArg some (by kernel_rfl))
 f338:=Tryd.func100.trans (congrArg some (by kernel_rfl))
 t0:=Tryd.underlying0
 a0:=Tryd.isAgg0
 z0:=Tryd.sizeOf0
 v0:=Tryd.zeroValue0
 t2:=Tryd.underlying2
 a2:=Tryd.isAgg2
 z2:=Tryd.sizeOf2
 v2:=Tryd.zeroValue2
 t3:=Tryd.underlying3
 a3:=Tryd.isAgg3
 z3:=Tryd.sizeOf3
 v3:=Tryd.zeroValue3
 t4:=Tryd.underlying4
 a4:=Tryd.isAgg4
 z4:=Tryd.sizeOf4
 v4:=Tryd.zeroValue4
 t5:=Tryd.underlying5
 a5:=Tryd.isAgg5
 z5:=Tryd.sizeOf5
 v5:=Tryd.zeroValue5
 t9:=Tryd.underlying9
 a9:=Tryd.isAgg9
 z9:=Tryd.sizeOf9
 v9:=Tryd.zeroValue9
 t20:=Tryd.underlying20
 a20:=Tryd.isAgg20
 z20:=Tryd.sizeOf20
 v20:=Tryd.zeroValue20
 t37:=Tryd.underlying159
 a37:=Tryd.isAgg159
 z37:=Tryd.sizeOf159
 v37:=Tryd.zeroValue159
 t46:=Tryd.underlying166
 a46:=Tryd.isAgg166
 z46:=Tryd.sizeOf166
 v46:=Tryd.zeroValue166
 t51:=Tryd.underlying164
 a51:=Tryd.isAgg164
 z51:=Tryd.sizeOf164
 v51:=Tryd.zeroValue164
 t53:=Tryd.underlying134
 a53:=Tryd.isAgg134
 z53:=Tryd.sizeOf134
 v53:=Tryd.zeroValue134
 t171:=Tryd.underlying156
 a171:=Tryd.isAgg156
 z171:=Tryd.sizeOf156
 v171:=Tryd.zeroValue156
 t173:=Tryd.underlying160
 a173:=Tryd.isAgg160
 z173:=Tryd.sizeOf160
 v173:=Tryd.zeroValue160
 t212:=Tryd.underlying163
 a212:=Tryd.isAgg163
 z212:=Tryd.sizeOf163
 v212:=Tryd.zeroValue163
 t213:=Tryd.underlying165
 a213:=Tryd.isAgg165
 z213:=Tryd.sizeOf165
 t232:=Tryd.underlying169
 a232:=Tryd.isAgg169
 z232:=Tryd.sizeOf169
 v232:=Tryd.zeroValue169
 t233:=Tryd.underlying170
 a233:=Tryd.isAgg170
 z233:=Tryd.sizeOf170
 v233:=Tryd.zeroValue170
 g17:=by kernel_rfl
 g18:=by kernel_rfl
 g19:=by kernel_rfl
 i0:=by kernel_rfl
 i2:=by kernel_rfl
 i3:=by kernel_rfl
 i4:=by kernel_rfl
 i5:=by kernel_rfl
 i9:=by kernel_rfl
 i20:=by kernel_rfl
 i37:=by kernel_rfl
 i46:=by kernel_rfl
 i51:=by kernel_rfl
 i53:=by kernel_rfl
 i171:=by kernel_rfl
 i173:=by kernel_rfl
 i212:=by kernel_rfl
 i232:=by kernel_rfl
 i233:=by kernel_rfl
 m17:=by kernel_rfl
 m18:=by kernel_rfl
 m19:=by kernel_rfl }
end Go.Proofs
namespace Go.Proofs.YtidfofhmnlhfjaaDoor
open Go.X
variable {u:World} {m0:Mem} {S:Segs} {w:World}
set_option maxHeartbeats 4000000
set_option maxRecDepth 100000
def Tab (u:World):Prop:=Lib.TabIs Tryd.prog u "internal/strconv.uint64pow10" .u64 Lib.pow10Tab
def qd7:Rp Span:=fun _ cs x=>cs = [.int .i64 x.From,.int .i64 x.To] ∧ InR .i64 x.From ∧ InR .i64 x.To
theorem qdL:Mono qd7:=⟨fun _ h=>by
 obtain ⟨e,h0,h1⟩:=h
 exact ⟨e,h0,h1⟩,fun h=>by
 obtain ⟨rfl,h0,h1⟩:=h
 exact ⟨rfl,rfl,trivial⟩⟩
def qan:Rp Relation:=fun m cs x=>∃ c3,cs = [.int .i64 x.Operand,.int .i64 x.Mod,.bool x.Not,c3] ∧ InR .i64 x.Operand ∧ InR .i64 x.Mod ∧ (pL 2 qd7) m [c3] x.Spans
theorem qad:Mono qan:=⟨fun hm h=>by
 obtain ⟨c3,e,h0,h1,h3⟩:=h
 exact ⟨c3,e,h0,h1,(mL qdL).up hm h3⟩,fun h=>by
 obtain ⟨c3,rfl,h0,h1,h3⟩:=h
 exact ⟨rfl,rfl,rfl,((mL qdL).one h3).1,trivial⟩⟩
def qpZ:Rp Rule:=fun m cs x=>∃ c1,cs = [.string (bs x.Class),c1] ∧ x.Class.length ≤ LIMS ∧ (pL 1 (pL 4 qan)) m [c1] x.Cond
theorem qse:Mono qpZ:=⟨fun hm h=>by
 obtain ⟨c1,e,h0,h1⟩:=h
 exact ⟨c1,e,h0,(mL (mL qad)).up hm h1⟩,fun h=>by
 obtain ⟨c1,rfl,h0,h1⟩:=h
 exact ⟨rfl,((mL (mL qad)).one h1).1,trivial⟩⟩
def qb7:Rp Part:=fun _ cs x=>cs = [.int .u64 x.bits,.string (bs x.text)] ∧ InR .u64 x.bits ∧ x.text.length ≤ LIMS
theorem qcu:Mono qb7:=⟨fun _ h=>by
 obtain ⟨e,h0,h1⟩:=h
 exact ⟨e,h0,h1⟩,fun h=>by
 obtain ⟨rfl,h0,h1⟩:=h
 exact ⟨rfl,rfl,trivial⟩⟩
def qeR:Rp qak:=fun m cs x=>∃ c0 c1 c2,cs = [c0,c1,c2] ∧ (pL 4 qan) m [c0] x.l ∧ (pL 2 qb7) m [c1] x.wholes ∧ (pL 2 qb7) m [c2] x.fraction
theorem ql9:Mono qeR:=⟨fun hm h=>by
 obtain ⟨c0,c1,c2,e,h0,h1,h2⟩:=h
 exact ⟨c0,c1,c2,e,(mL qad).up hm h0,(mL qcu).up hm h1,(mL qcu).up hm h2⟩,fun h=>by
 obtain ⟨c0,c1,c2,rfl,h0,h1,h2⟩:=h
 exact ⟨((mL qad).one h0).1,((mL qcu).one h1).1,((mL qcu).one h2).1,trivial⟩⟩
def qbz:Rp Tracker:=fun _ cs x=>cs = [.int .i64 x.a,.int .i64 x.b] ∧ InR .i64 x.a ∧ InR .i64 x.b
theorem qbm:Mono qbz:=⟨fun _ h=>by
 obtain ⟨e,h0,h1⟩:=h
 exact ⟨e,h0,h1⟩,fun h=>by
 obtain ⟨rfl,h0,h1⟩:=h
 exact ⟨rfl,rfl,trivial⟩⟩
def qg3:Rp State:=fun m cs x=>∃ c1,cs = [.string (bs x.s),c1,.bool x.integer] ∧ x.s.length ≤ LIMS ∧ (pL 2 qbz) m [c1] x.trackers
theorem qdT:Mono qg3:=⟨fun hm h=>by
 obtain ⟨c1,e,h0,h1⟩:=h
 exact ⟨c1,e,h0,(mL qbm).up hm h1⟩,fun h=>by
 obtain ⟨c1,rfl,h0,h1⟩:=h
 exact ⟨rfl,((mL qbm).one h1).1,rfl,trivial⟩⟩
def qr7:Rp Word:=fun _ cs x=>cs = [.string (bs x.text),.int .i64 x.at_] ∧ x.text.length ≤ LIMS ∧ InR .i64 x.at_
theorem qnj:aggB Tryd.prog 112 2 = true:=by kernel_rfl
theorem qhu:aggB Tryd.prog 137 2 = true:=by kernel_rfl
theorem qpw:aggB Tryd.prog 149 3 = true:=by kernel_rfl
theorem qtD:aggB Tryd.prog 47 2 = true:=by kernel_rfl
theorem qbK:aggB Tryd.prog 54 4 = true:=by kernel_rfl
theorem qbS:aggB Tryd.prog 61 2 = true:=by kernel_rfl
theorem qfF:aggB Tryd.prog 87 2 = true:=by kernel_rfl
theorem qkr:qaV Tryd.prog 112 0 0 = true:=by kernel_rfl
theorem qmc:qaV Tryd.prog 112 1 1 = true:=by kernel_rfl
theorem qoG:qaV Tryd.prog 114 0 0 = true:=by kernel_rfl
theorem qov:qaV Tryd.prog 114 1 1 = true:=by kernel_rfl
theorem qf8:qaV Tryd.prog 114 2 2 = true:=by kernel_rfl
theorem qoT:qaV Tryd.prog 114 3 4 = true:=by kernel_rfl
theorem qhl:qaV Tryd.prog 114 4 5 = true:=by kernel_rfl
theorem qhQ:qaV Tryd.prog 130 0 0 = true:=by kernel_rfl
theorem qkf:qaV Tryd.prog 130 1 1 = true:=by kernel_rfl
theorem qkt:qaV Tryd.prog 130 2 2 = true:=by kernel_rfl
theorem qhh:qaV Tryd.prog 137 0 0 = true:=by kernel_rfl
theorem qgD:qaV Tryd.prog 137 1 1 = true:=by kernel_rfl
theorem qmm:qaV Tryd.prog 149 0 0 = true:=by kernel_rfl
theorem qiN:qaV Tryd.prog 149 1 1 = true:=by kernel_rfl
theorem qj7:qaV Tryd.prog 149 2 2 = true:=by kernel_rfl
theorem qsM:qaV Tryd.prog 47 1 1 = true:=by kernel_rfl
theorem qa6:qaV Tryd.prog 54 0 0 = true:=by kernel_rfl
theorem qej:qaV Tryd.prog 54 1 1 = true:=by kernel_rfl
theorem qho:qaV Tryd.prog 54 2 2 = true:=by kernel_rfl
theorem qbn:qaV Tryd.prog 54 3 3 = true:=by kernel_rfl
theorem qfB:qaV Tryd.prog 61 0 0 = true:=by kernel_rfl
theorem qf3:qaV Tryd.prog 61 1 1 = true:=by kernel_rfl
theorem qfZ:qaV Tryd.prog 87 0 0 = true:=by kernel_rfl
theorem qeL:qaV Tryd.prog 87 1 1 = true:=by kernel_rfl
theorem que:goB Tryd.prog 12 = true:=by kernel_rfl
theorem qqa:goB Tryd.prog 13 = true:=by kernel_rfl
theorem qss:goB Tryd.prog 14 = true:=by kernel_rfl
theorem qun:goB Tryd.prog 15 = true:=by kernel_rfl
theorem qp3:goB Tryd.prog 19 = true:=by kernel_rfl
theorem qnV:goB Tryd.prog 24 = true:=by kernel_rfl
theorem qso:goB Tryd.prog 26 = true:=by kernel_rfl
theorem qnX:goB Tryd.prog 34 = true:=by kernel_rfl
theorem qsb:goB Tryd.prog 35 = true:=by kernel_rfl
theorem qux:goB Tryd.prog 37 = true:=by kernel_rfl
theorem qt8:goB Tryd.prog 38 = true:=by kernel_rfl
theorem quq:goB Tryd.prog 39 = true:=by kernel_rfl
theorem qr8:goB Tryd.prog 40 = true:=by kernel_rfl
theorem qms:goB Tryd.prog 42 = true:=by kernel_rfl
theorem quD:goB Tryd.prog 48 = true:=by kernel_rfl
theorem quO:goB Tryd.prog 49 = true:=by kernel_rfl
theorem quo:goB Tryd.prog 50 = true:=by kernel_rfl
theorem qsi:goB Tryd.prog 51 = true:=by kernel_rfl
theorem qr5:goB Tryd.prog 52 = true:=by kernel_rfl
theorem qnR:goB Tryd.prog 53 = true:=by kernel_rfl
theorem quP:goB Tryd.prog 54 = true:=by kernel_rfl
theorem qen:goB Tryd.prog 55 = true:=by kernel_rfl
theorem quy:goB Tryd.prog 56 = true:=by kernel_rfl
theorem qft:goB Tryd.prog 57 = true:=by kernel_rfl
theorem qsk:goB Tryd.prog 58 = true:=by kernel_rfl
theorem qfp:goB Tryd.prog 59 = true:=by kernel_rfl
theorem qn7:goB Tryd.prog 60 = true:=by kernel_rfl
theorem qn5:goB Tryd.prog 61 = true:=by kernel_rfl
theorem qmL:goB Tryd.prog 62 = true:=by kernel_rfl
theorem qnY:goB Tryd.prog 63 = true:=by kernel_rfl
theorem quj:goB Tryd.prog 67 = true:=by kernel_rfl
theorem quS:goB Tryd.prog 68 = true:=by kernel_rfl
theorem qr6:goB Tryd.prog 69 = true:=by kernel_rfl
theorem qgL:goB Tryd.prog 70 = true:=by kernel_rfl
theorem qmD:goB Tryd.prog 71 = true:=by kernel_rfl
theorem qsa:goB Tryd.prog 72 = true:=by kernel_rfl
theorem qsc:goB Tryd.prog 73 = true:=by kernel_rfl
theorem qt2:goB Tryd.prog 74 = true:=by kernel_rfl
theorem qr9:goB Tryd.prog 75 = true:=by kernel_rfl
theorem qtY:goB Tryd.prog 76 = true:=by kernel_rfl
theorem quF:goB Tryd.prog 77 = true:=by kernel_rfl
theorem quK:goB Tryd.prog 78 = true:=by kernel_rfl
theorem qn6:goB Tryd.prog 79 = true:=by kernel_rfl
theorem qn0:goB Tryd.prog 80 = true:=by kernel_rfl
theorem qnZ:goB Tryd.prog 81 = true:=by kernel_rfl
theorem qnU:goB Tryd.prog 82 = true:=by kernel_rfl
theorem qul:goB Tryd.prog 83 = true:=by kernel_rfl
theorem quC:goB Tryd.prog 85 = true:=by kernel_rfl
theorem qsp:goB Tryd.prog 86 = true:=by kernel_rfl
theorem quu:goB Tryd.prog 87 = true:=by kernel_rfl
theorem quE:goB Tryd.prog 89 = true:=by kernel_rfl
theorem qnl:∃ i,Tryd.prog.info? 112 = some i ∧ i.size = 2:=⟨_,rfl,by kernel_rfl⟩
theorem qsN:∃ i,Tryd.prog.info? 114 = some i ∧ i.size = 6:=⟨_,rfl,by kernel_rfl⟩
theorem qpy:∃ i,Tryd.prog.info? 128 = some i ∧ i.size = 1:=⟨_,rfl,by kernel_rfl⟩
theorem qjV:∃ i,Tryd.prog.info? 137 = some i ∧ i.size = 2:=⟨_,rfl,by kernel_rfl⟩
theorem qfc:∃ i,Tryd.prog.info? 149 = some i ∧ i.size = 3:=⟨_,rfl,by kernel_rfl⟩
theorem qto:∃ i,Tryd.prog.info? 27 = some i ∧ i.size = 1:=⟨_,rfl,by kernel_rfl⟩
theorem qbp:∃ i,Tryd.prog.info? 3 = some i ∧ i.size = 1:=⟨_,rfl,by kernel_rfl⟩
theorem qmV:∃ i,Tryd.prog.info? 4 = some i ∧ i.size = 1:=⟨_,rfl,by kernel_rfl⟩
theorem qtI:∃ i,Tryd.prog.info? 47 = some i ∧ i.size = 2:=⟨_,rfl,by kernel_rfl⟩
theorem qom:∃ i,Tryd.prog.info? 50 = some i ∧ i.size = 1:=⟨_,rfl,by kernel_rfl⟩
theorem qmI:∃ i,Tryd.prog.info? 52 = some i ∧ i.size = 1:=⟨_,rfl,by kernel_rfl⟩
theorem qgE:∃ i,Tryd.prog.info? 54 = some i ∧ i.size = 4:=⟨_,rfl,by kernel_rfl⟩
theorem qeq:∃ i,Tryd.prog.info? 61 = some i ∧ i.size = 2:=⟨_,rfl,by kernel_rfl⟩
theorem qj1:∃ i,Tryd.prog.info? 83 = some i ∧ i.size = 1:=⟨_,rfl,by kernel_rfl⟩
theorem qgs:∃ i,Tryd.prog.info? 87 = some i ∧ i.size = 2:=⟨_,rfl,by kernel_rfl⟩
theorem qjv:oneB Tryd.prog 106 = true:=by kernel_rfl
theorem qiK:oneB Tryd.prog 128 = true:=by kernel_rfl
theorem qjw:oneB Tryd.prog 132 = true:=by kernel_rfl
theorem qhR:oneB Tryd.prog 134 = true:=by kernel_rfl
theorem qfV:oneB Tryd.prog 23 = true:=by kernel_rfl
theorem qib:oneB Tryd.prog 26 = true:=by kernel_rfl
theorem qjD:oneB Tryd.prog 27 = true:=by kernel_rfl
theorem qam:oneB Tryd.prog 3 = true:=by kernel_rfl
theorem qdk:oneB Tryd.prog 4 = true:=by kernel_rfl
theorem qdJ:oneB Tryd.prog 50 = true:=by kernel_rfl
theorem qca:oneB Tryd.prog 52 = true:=by kernel_rfl
theorem qtk:oneB Tryd.prog 69 = true:=by kernel_rfl
theorem qqC:oneB Tryd.prog 82 = true:=by kernel_rfl
theorem qcs:oneB Tryd.prog 83 = true:=by kernel_rfl
theorem qfH:oneB Tryd.prog 9 = true:=by kernel_rfl
theorem qmP:qeQ Tryd.prog 112 = some [(0,1),(1,1)]:=by kernel_rfl
theorem qmx:qeQ Tryd.prog 114 = some [(0,1),(1,1),(2,2),(4,1),(5,1)]:=by kernel_rfl
theorem qp0:qeQ Tryd.prog 130 = some [(0,1),(1,1),(2,1)]:=by kernel_rfl
theorem qmr:qeQ Tryd.prog 137 = some [(0,1),(1,1)]:=by kernel_rfl
theorem qdo:qeQ Tryd.prog 149 = some [(0,1),(1,1),(2,1)]:=by kernel_rfl
theorem qnG:qeQ Tryd.prog 47 = some [(0,1),(1,1)]:=by kernel_rfl
theorem qqO:qeQ Tryd.prog 87 = some [(0,1),(1,1)]:=by kernel_rfl
theorem qgg:SlT Tryd.prog 128 137 2:=SlT.of (by kernel_rfl)
theorem qer:SlT Tryd.prog 132 61 2:=SlT.of (by kernel_rfl)
theorem qlr:SlT Tryd.prog 150 149 3:=SlT.of (by kernel_rfl)
theorem qdq:SlT Tryd.prog 23 50 1:=SlT.of (by kernel_rfl)
theorem qdM:SlT Tryd.prog 26 23 1:=SlT.of (by kernel_rfl)
theorem qbD:SlT Tryd.prog 31 4 1:=SlT.of (by kernel_rfl)
theorem qmF:SlT Tryd.prog 48 47 2:=SlT.of (by kernel_rfl)
theorem qbr:SlT Tryd.prog 50 54 4:=SlT.of (by kernel_rfl)
theorem qbX:SlT Tryd.prog 52 87 2:=SlT.of (by kernel_rfl)
theorem qaR:SlT Tryd.prog 83 3 1:=SlT.of (by kernel_rfl)
theorem qte:qmJ Tryd.prog 4 = some (vb false):=by kernel_rfl
theorem qmb:qco Tryd.prog 112 = some [(vs ([])),vi 0]:=by kernel_rfl
theorem ql1:qco Tryd.prog 114 = some [(vs ([])),vi 0,(vs ([])),vi 0,vi 0,vi 0]:=by kernel_rfl
theorem qrx:qco Tryd.prog 130 = some [(Value.slice none 0 0),(Value.slice none 0 0),(Value.slice none 0 0)]:=by kernel_rfl
theorem qf9:qco Tryd.prog 137 = some [vu 0,(vs ([]))]:=by kernel_rfl
theorem qbF:qco Tryd.prog 149 = some [(vs ([])),(Value.slice none 0 0),vb false]:=by kernel_rfl
theorem qjF:qco Tryd.prog 23 = some [(Value.slice none 0 0)]:=by kernel_rfl
theorem qdI:qco Tryd.prog 3 = some [vi 0]:=by kernel_rfl
theorem qd0:qco Tryd.prog 4 = some [vb false]:=by kernel_rfl
theorem qlt:qco Tryd.prog 47 = some [(vs ([])),(Value.slice none 0 0)]:=by kernel_rfl
theorem qpB:qco Tryd.prog 50 = some [(Value.slice none 0 0)]:=by kernel_rfl
theorem qds:qco Tryd.prog 54 = some [vi 0,vi 0,vb false,(Value.slice none 0 0)]:=by kernel_rfl
theorem qfb:qco Tryd.prog 61 = some [vi 0,vi 0]:=by kernel_rfl
theorem qgO:qco Tryd.prog 83 = some [(Value.slice none 0 0)]:=by kernel_rfl
theorem qd3:qco Tryd.prog 87 = some [vi 0,vi 0]:=by kernel_rfl
def qk9 (u:World) (m0:Mem) (S:Segs) (r:(List (Relation))) (a:Act) (w:World):Prop :=
 ∃ m1 v0,m0.le m1 ∧ Ok u m1 S w ∧ a.defers = [] ∧ RVs Tryd.prog a w [.t 2 v0] ∧ (pL 4 qan) m1 [v0] r
theorem qgH (N:Nat) (vc_0:Value) (c_0:List (List (Relation))) (hc_0:(pL 1 (pL 4 qan)) m0 [vc_0] c_0) {r:(List (Relation))} (hF:qcM N c_0 = some r) (ok:Ok u m0 S w) :
  Calls Tryd.prog 19 [vc_0].toArray w fun e w'=>∃ m1 v0,e = .returned v0 ∧ m0.le m1 ∧ Ok u m1 S w' ∧ (pL 4 qan) m1 [v0] r:=by
 have le_m0:=Mem.le.refl m0
 unfold qcM at hF
 refine en (qk9 u m0 S) r Tryd.func19 rfl rfl rfl (fun _ _ h=>rc h fun _=>rfl) fun fin a E=>sg<|aw E rfl fun a E=>sg<|aw E rfl fun a E=>wp_seq<|sg<|mv E rfl fun a E=>lv E ok (qaz qdq hc_0 rfl) fun a E=>mv E rfl fun a E=>wn<|wp_block ?_
 obtain ⟨M6,ok,h7⟩:=qd1 (e:=54) (k:=4) (R:=qan) ok
 refine bd hF fun o8 hL hF=>qaH _ (fun (s:(List (Relation)) × Int) a w=>∃ c9 M10,Ok u m0 (M10 :: S) w ∧ Env 17 a [(3,c9),(6,vc_0),(7,(vi (c_0.length:Int))),(8,vi s.2)] ∧ ORow 54 4 qan m0 c9 s.1 M10 ∧ InR .i64 s.2) (fun (b:((List (Relation)))) e a w=>e = (.exit 0) ∧ ∃ c41 M42,Ok u m0 (M42 :: S) w ∧ Env 17 a [(3,c41)] ∧ ORow 54 4 qan m0 c41 b M42) ?_ ?_ N _ a w hL ⟨(Value.slice none 0 0),M6,ok,E.keep [3,6,7,8],h7,(ir 0)⟩
 rotate_left
 ·intro e a w _ hO
  obtain ⟨rfl,c36,M37,ok,E,h38⟩:=hO
  refine qaN<|qaa<|sg<|mv E rfl fun a E=>aw E rfl fun a E=>wp_ret ?_
  obtain ⟨m39,hle,ok,hfz⟩:=(ok.frs 0 rfl).freeze
  have h40:=ORow.froz qad h38 hle hfz (by decide)
  have le_m0:=le_m0.trans hle
  have hc_0:=(mL (mL qad)).up hle hc_0
  exact fin hF ⟨m39,c36,le_m0,ok,E.d,rz E rfl,h40⟩
 rintro ⟨v13,v14⟩ a w r ⟨c15,M16,ok,E,h17,r18⟩ hF
 replace hF:qbk N c_0 v13 v14 = some r:=hF
 unfold qbk at hF
 refine sg<|lw E (qaC rfl rfl) fun a E=>wn<|wp_seq<|cg E rfl hF (fun c19 hF=>?_) fun c19 hF=>?_
 ·refine wp_exit<|qaE ?_
  cases hF
  exact so (⟨rfl,⟨c15,M16,ok,E.keep [3],h17⟩⟩)
 refine wp_skip<|qaa<|wp_seq<|wp_block<|sg ?_
 obtain ⟨x20,e21,hF⟩:=bnd hF
 obtain ⟨b22,o23,es24,hl25,rr26,at27,yy28⟩:=ia E 6 8 qdq hc_0 e21
 obtain ⟨c29,rfl,h30⟩:=qbG rr26
 refine lv E ok (yy28 _ _) fun a E=>lv E ok (qai qdJ rfl (qab.ro at27)) fun a E=>aw E rfl fun a E=>qac<|mz E rfl rfl fun a E=>bd hF fun l31 e32 hF=>qdn (R:=qan) E ok 0 qad qbr Tryd.underlying50 rfl h17 (qbP.ofL h30 ok) e32 ⟨_,qds,rfl⟩ rfl rfl rfl rfl fun c33 M34 a w E ok h35=>av E rfl fun a E=>wpList_nil<|qap<|qaa<|qac<|lw E (qaA rfl rfl (InR.inc r18 (qal hc_0) c19)) fun a E=>mv E rfl fun a E=>wpList_nil ?_
 cases hF
 exact qau ⟨c33,M34,ok,E.keep [3,6,7,8],h35,(InR.inc r18 (qal hc_0) c19)⟩
def qlT (u:World) (m0:Mem) (S:Segs) (r:Int) (a:Act) (w:World):Prop :=
 Ok u m0 S w ∧ a.defers = [] ∧ RVs Tryd.prog a w [.t 2 (.int .i64 r)] ∧ InR .i64 r
theorem qir (N:Nat) (vr_0:List Value) (r_0:Relation) (hr_0:qan m0 vr_0 r_0) {r:Int} (hF:qec N r_0 = some r) (ok:Ok u m0 S w) :
  Calls Tryd.prog 40 [.agg vr_0.toArray].toArray w fun e w'=>(e = .returned (.int .i64 r) ∧ Ok u m0 S w') ∧ InR .i64 r:=by
 obtain ⟨c3,rfl,r1,r2,h4⟩:=hr_0
 unfold qec at hF
 refine en (qlT u m0 S) r Tryd.func40 rfl rfl rfl (fun _ _ h=>rb h rfl) fun fin a E=>sg<|qbQ E ok rfl rfl rfl fun b5 a w E ok=>aw E rfl fun a E=>sg<|aw E rfl fun a E=>wp_seq<|sg<|fv E qbn rfl fun a E=>ld E ok qca 0 rfl rfl rfl fun a E=>lv E ok (qaz qbX h4 rfl) fun a E=>mv E rfl fun a E=>wn<|wp_block<|bd hF fun o8 hL hF=>qaH _ (fun (s:Int × Int) a w=>Ok u m0 ([(b5,oc 54 [vi r_0.Operand,vi r_0.Mod,vb r_0.Not,c3])] :: S) w ∧ Env 19 a [(3,vi s.1),(7,c3),(8,(vi (r_0.Spans.length:Int))),(9,vi s.2)] ∧ InR .i64 s.1 ∧ InR .i64 s.2) (fun (b:Int) e a w=>e = (.exit 0) ∧ Ok u m0 ([(b5,oc 54 [vi r_0.Operand,vi r_0.Mod,vb r_0.Not,c3])] :: S) w ∧ Env 19 a [(3,vi b)] ∧ InR .i64 b) ?_ ?_ N _ a w hL ⟨ok,E.keep [3,7,8,9],(ir 0),(ir 0)⟩
 rotate_left
 ·intro e a w _ hO
  obtain ⟨rfl,ok,E,r28⟩:=hO
  refine qaN<|qaa<|sg<|mv E rfl fun a E=>aw E rfl fun a E=>wp_ret ?_
  exact fin hF ⟨ok.drop,E.d,rz E rfl,r28⟩
 rintro ⟨v11,v12⟩ a w r ⟨ok,E,r13,r14⟩ hF
 replace hF:qcE N r_0 v11 v12 = some r:=hF
 unfold qcE at hF
 refine sg<|lw E (qaC rfl rfl) fun a E=>wn<|wp_seq<|cg E rfl hF (fun c15 hF=>?_) fun c15 hF=>?_
 ·refine wp_exit<|qaE ?_
  cases hF
  exact so (⟨rfl,⟨ok,E.keep [3],r13⟩⟩)
 refine wp_skip<|qaa<|wp_seq<|wp_block<|sg ?_
 obtain ⟨x16,e17,hF⟩:=bnd hF
 obtain ⟨b18,o19,es20,hl21,rr22,at23,yy24⟩:=ia E 7 9 qbX h4 e17
 obtain ⟨rfl,r25,r26⟩:=rr22
 refine lv E ok (yy24 _ _) fun a E=>lv E ok (qaj (cs:=[vi x16.From,vi x16.To]) qfF rfl rfl (qab.ro at23)) fun a E=>qaw E ok qd3 rfl rfl fun b27 a w E ok=>qaf E ok 0 rfl rfl rfl qgs rfl rfl ⟨rfl,rfl,trivial⟩ rfl rfl fun w ok=>wn<|qac<|mv E rfl fun a E=>fk E ok qeL qam rfl 0 rfl rfl fun a E=>lw E (qsm rfl rfl) fun a E=>av E rfl fun a E=>wpList_nil<|qap<|qaa<|qac<|lw E (qaA rfl rfl (InR.inc r14 (qal h4) c15)) fun a E=>mv E rfl fun a E=>wpList_nil ?_
 cases hF
 exact qau ⟨(ok.pk 2 [1] rfl (by decide)),E.keep [3,7,8,9],(InR.max r13 r26),(InR.inc r14 (qal h4) c15)⟩
def qmj (u:World) (m0:Mem) (S:Segs) (r:Int) (a:Act) (w:World):Prop :=
 Ok u m0 S w ∧ a.defers = [] ∧ RVs Tryd.prog a w [.t 4 (.int .i64 r)] ∧ InR .i64 r
theorem qgc (N:Nat) (vr_0:List Value) (r_0:Relation) (hr_0:qan m0 vr_0 r_0) (n_1:Int) (rn_1:InR .i64 n_1) {r:Int} (hF:qdY N r_0 n_1 = some r) (ok:Ok u m0 S w) :
  Calls Tryd.prog 63 [.agg vr_0.toArray,vi n_1].toArray w fun e w'=>(e = .returned (.int .i64 r) ∧ Ok u m0 S w') ∧ InR .i64 r:=by
 obtain ⟨c3,rfl,r1,r2,h4⟩:=hr_0
 unfold qdY at hF
 refine en (qmj u m0 S) r Tryd.func63 rfl rfl rfl (fun _ _ h=>rb h rfl) fun fin a E=>sg<|qbQ E ok rfl rfl rfl fun b5 a w E ok=>aw E rfl fun a E=>wp_seq<|sg<|fk E ok qej qam rfl 0 rfl rfl fun a E=>lw E (qd5 rfl rfl) fun a E=>wn<|cf E rfl hF (fun c6 hF=>?_) fun c6 hF=>?_
 ·refine sg<|mv E rfl fun a E=>fk E ok qej qam rfl 0 rfl rfl fun a E=>bd hF fun q7 e8 hF=>lw E (y_rm rfl rfl e8) fun a E=>aw E rfl fun a E=>wp_ret<|qav ?_
  exact fin hF ⟨ok.drop,E.d,rz E rfl,(qtt e8 rn_1)⟩
 refine wp_skip<|qaa<|sg<|mv E rfl fun a E=>lv E ok (qaj (cs:=[vi r_0.Operand,vi r_0.Mod,vb r_0.Not,c3]) qbK rfl rfl (qab.own 0 rfl rfl)) fun a E=>bd hF fun r9 e10 hF=>qao E qr8 rfl (qir N _ r_0 ⟨_,rfl,r1,r2,h4⟩ e10 ok) rfl rfl ?_
 rintro _ w ⟨⟨rfl,ok⟩,r11⟩
 refine ⟨_,rfl,fun a E=>?_⟩
 refine lw E (qcg rfl rfl) fun a E=>lw E (qp5 rfl rfl) fun a E=>aw E rfl fun a E=>wp_ret ?_
 exact fin hF ⟨ok.drop,E.d,rz E rfl,(InR.min rn_1 (InR.wrap _ _))⟩
theorem qbt {u:World} {m0:Mem} {S:Segs} {w:World} (N:Nat) (p0_0:Int) (rp0_0:InR .i64 p0_0) {r:(List UInt8)} (hF:qdi N p0_0 = some r) (hTb:Tab u) (ok:Ok u m0 S w) :
 Calls Tryd.prog 70 [vi p0_0].toArray w fun e w'=>(e = .returned (.string (bs r)) ∧ Ok u m0 S w') ∧ r.length ≤ LIMS:=qqE Tryd.laysM171 hTb p0_0 rp0_0 hF ok
def ql3 (u:World) (m0:Mem) (S:Segs) (r:Bool) (a:Act) (w:World):Prop :=
 Ok u m0 S w ∧ a.defers = [] ∧ RVs Tryd.prog a w [.t 2 (.bool r)]
theorem qfm (N:Nat) (vr_0:List Value) (r_0:Relation) (hr_0:qan m0 vr_0 r_0) {r:Bool} (hF:qdl N r_0 = some r) (ok:Ok u m0 S w) :
  Calls Tryd.prog 71 [.agg vr_0.toArray].toArray w fun e w'=>(e = .returned (.bool r) ∧ Ok u m0 S w'):=by
 obtain ⟨c3,rfl,r1,r2,h4⟩:=hr_0
 unfold qdl at hF
 refine en (ql3 u m0 S) r Tryd.func71 rfl rfl rfl (fun _ _ h=>ra h rfl) fun fin a E=>sg<|qbQ E ok rfl rfl rfl fun b5 a w E ok=>aw E rfl fun a E=>sg<|fk E ok qa6 qam rfl 0 rfl rfl fun a E=>lw E (qax rfl rfl) fun a E=>mv E rfl fun a E=>bu E 6 hF (fun c6 hF E=>?_) fun c6 hF E=>?_
 ·refine lsq E fun a E=>ls E fun a E=>pt E rfl rfl fun a E=>aw E rfl fun a E=>wp_ret ?_
  exact fin hF ⟨ok.drop,E.d,rz E rfl⟩
 refine fk E ok qa6 qam rfl 0 rfl rfl fun a E=>lw E (qax rfl rfl) fun a E=>pf E rfl rfl fun a E=>aw E rfl fun a E=>wp_ret ?_
 exact fin hF ⟨ok.drop,E.d,rz E rfl⟩
def qkv (u:World) (m0:Mem) (S:Segs) (r:(List (Part))) (a:Act) (w:World):Prop :=
 ∃ m1 v0 M0,m0.le m1 ∧ Ok u m1 (M0 :: S) w ∧ a.defers = [] ∧ RVs Tryd.prog a w [.t 4 v0] ∧ ORow 137 2 qb7 m1 v0 r M0
theorem qkw (N:Nat) (vl_0:Value) (l_0:List (Part)) {Ml_0:List (Nat × Obj)} (hl_0:ORow 137 2 qb7 m0 vl_0 l_0 Ml_0) (vp_1:List Value) (p_1:Part) (hp_1:qb7 m0 vp_1 p_1) {r:(List (Part))} (hF:qgk N l_0 p_1 = some r) (ok:Ok u m0 (Ml_0 :: S) w) :
  Calls Tryd.prog 72 [vl_0,.agg vp_1.toArray].toArray w fun e w'=>∃ m1 v0 M0,e = .returned v0 ∧ m0.le m1 ∧ Ok u m1 (M0 :: S) w' ∧ ORow 137 2 qb7 m1 v0 r M0:=by
 obtain ⟨rfl,r1,l2⟩:=hp_1
 have le_m0:=Mem.le.refl m0
 unfold qgk at hF
 refine en (qkv u m0 S) r Tryd.func72 rfl rfl rfl (by rintro a w ⟨m1,v0,M0,hle,ok,hd,hrv,h0⟩; exact qbC [.t 4 v0] hd rfl hrv ⟨m1,v0,M0,rfl,hle,ok,h0⟩) fun fin a E=>sg<|qbQ E ok rfl rfl rfl fun b3 a w E ok=>aw E rfl fun a E=>wp_seq<|sg<|mv E rfl fun a E=>lv E ok (qcz qgg hl_0 rfl) fun a E=>mv E rfl fun a E=>wn<|wp_block<|bd hF fun o5 hL hF=>qaH _ (fun (s:Int) a w=>Ok u m0 ([(b3,oc 137 [vu p_1.bits,vs p_1.text])] :: Ml_0 :: S) w ∧ Env 33 a [(0,vl_0),(3,vp b3),(7,vl_0),(8,(vi (l_0.length:Int))),(9,vi s)] ∧ InR .i64 s) (fun (b:(Unit ⊕ ((List (Part))))) e a w=>(Sum.elim (fun b33=>e = (.exit 0) ∧ Ok u m0 ([(b3,oc 137 [vu p_1.bits,vs p_1.text])] :: Ml_0 :: S) w ∧ Env 33 a [(0,vl_0),(3,vp b3)]) (fun b34=>e = .ret ∧ qkv u m0 S b34 a w)) b) ?_ ?_ N _ a w hL ⟨ok,E.keep [0,3,7,8,9],(ir 0)⟩
 rotate_left
 ·intro e a w _ hO
  rcases o5 with o5 | o5
  rotate_left
  ·obtain ⟨rfl,hret⟩:=hO
   refine qaI<|qav ?_
   exact fin hF hret
  have hF:=qcN hF
  obtain ⟨rfl,ok,E⟩:=hO
  refine qaN<|qaa<|sg<|mv E rfl fun a E=>lv E ok (qaj (cs:=[vu p_1.bits,vs p_1.text]) qhu rfl rfl (qab.own 0 rfl rfl)) fun a E=>qbH (R:=qb7) (xo:=[.tmp 30]) (xs:=([p_1]:List (Part))) E ok qgg qf9 rfl ⟨⟨_,rfl,rfl,⟨rfl,r1,l2⟩⟩,trivial⟩ rfl rfl rfl rfl fun c25 M26 a w E ok h27=>bd hF fun l28 e29 hF=>qdn (R:=qb7) E ok 2 qcu qgg Tryd.underlying128 rfl hl_0 (qbP.ofRow h27 0 rfl ok) e29 ⟨_,qf9,rfl⟩ rfl rfl rfl rfl fun c30 M31 a w E ok h32=>aw E rfl fun a E=>wp_ret ?_
  exact fin hF ⟨m0,c30,M31,le_m0,ok.drop.drop,E.d,rz E rfl,h32⟩
 rintro v7 a w r ⟨ok,E,r8⟩ hF
 replace hF:qfa N l_0 p_1 v7 = some r:=hF
 unfold qfa at hF
 refine sg<|lw E (qaC rfl rfl) fun a E=>wn<|wp_seq<|cg E rfl hF (fun c9 hF=>?_) fun c9 hF=>?_
 ·refine wp_exit<|qaE ?_
  cases hF
  exact so (sl ⟨rfl,⟨ok,E.keep [0,3]⟩⟩)
 refine wp_skip<|qaa<|wp_seq<|wp_block<|sg ?_
 obtain ⟨x10,e11,hF⟩:=bnd hF
 obtain ⟨b12,o13,hp14,yy15⟩:=qbf qgg hl_0 e11 (P:=Tryd.prog) (X:=.tmp 7) (I:=.tmp 9) (kd:=.i64) (qay E rfl) (qay E rfl)
 refine lv E ok (yy15 _ _) fun a E=>?_
 obtain ⟨es16,hl17,rr18,hh19⟩:=qbT hl_0 e11 hp14 (by decide)
 obtain ⟨rfl,r20,l21⟩:=rr18
 refine lv E ok (qaj (cs:=[vu x10.bits,vs x10.text]) qhu rfl rfl (hh19 _ _ _ 1 rfl)) fun a E=>qaw E ok qf9 rfl rfl fun b22 a w E ok=>qaf E ok 0 rfl rfl rfl qjV rfl rfl ⟨rfl,rfl,trivial⟩ rfl rfl fun w ok=>wn<|sg<|fv E qhh rfl fun a E=>ld E ok qhR 0 rfl rfl rfl fun a E=>fk E ok qhh qhR rfl 1 rfl rfl fun a E=>lw E (qax rfl rfl) fun a E=>mv E rfl fun a E=>bw E 18 hF (fun c23 hF E=>?_) fun c23 hF E=>?_
 ·refine lsz E fun a E=>lsq E fun a E=>ls E fun a E=>pf E rfl rfl fun a E=>wn<|c_if E rfl (fun h=>by cases h) (fun _=>?_)
  refine wp_skip<|qap<|qaa<|qac<|lw E (qaA rfl rfl (InR.inc r8 (ORow.InR hl_0) c9)) fun a E=>mv E rfl fun a E=>wpList_nil ?_
  cases hF
  exact qau ⟨(ok.pk 3 [1,2] rfl (by decide)),E.keep [0,3,7,8,9],(InR.inc r8 (ORow.InR hl_0) c9)⟩
 refine fk E ok qgD qfH rfl 0 rfl rfl fun a E=>lw E (qeZ Tryd.underlying9 rfl) fun a E=>fk E ok qgD qfH rfl 1 rfl rfl fun a E=>lw E (qeZ Tryd.underlying9 rfl) fun a E=>lw E (qax rfl rfl) fun a E=>pt E rfl rfl fun a E=>wn<|cg E rfl hF (fun c24 hF=>?_) fun c24 hF=>?_
 ·refine wp_skip<|qap<|qaa<|qac<|lw E (qaA rfl rfl (InR.inc r8 (ORow.InR hl_0) c9)) fun a E=>mv E rfl fun a E=>wpList_nil ?_
  cases hF
  exact qau ⟨(ok.pk 3 [1,2] rfl (by decide)),E.keep [0,3,7,8,9],(InR.inc r8 (ORow.InR hl_0) c9)⟩
 refine sg<|mv E rfl fun a E=>aw E rfl fun a E=>wp_ret<|qaI<|qav ?_
 cases hF
 exact so (sr ⟨rfl,⟨m0,vl_0,Ml_0,le_m0,ok.drop.drop,E.d,rz E rfl,hl_0⟩⟩)
def qfM (u:World) (m0:Mem) (S:Segs) (r:Bool) (a:Act) (w:World):Prop :=
 Ok u m0 S w ∧ a.defers = [] ∧ RVs Tryd.prog a w [.t 4 (.bool r)]
theorem qg2 (N:Nat) (vt_0:List Value) (t_0:Tracker) (ht_0:qbz m0 vt_0 t_0) (vr_1:List Value) (r_1:Relation) (hr_1:qan m0 vr_1 r_1) {r:Bool} (hF:qcc N t_0 r_1 = some r) (ok:Ok u m0 S w) :
  Calls Tryd.prog 26 [.agg vt_0.toArray,.agg vr_1.toArray].toArray w fun e w'=>(e = .returned (.bool r) ∧ Ok u m0 S w'):=by
 obtain ⟨rfl,r1,r2⟩:=ht_0
 obtain ⟨c5,rfl,r3,r4,h6⟩:=hr_1
 unfold qcc at hF
 refine en (qfM u m0 S) r Tryd.func26 rfl rfl rfl (fun _ _ h=>ra h rfl) fun fin a E=>sg<|qbQ E ok rfl rfl rfl fun b7 a w E ok=>qbQ E ok rfl rfl rfl fun b8 a w E ok=>aw E rfl fun a E=>wp_seq<|sg<|fk E ok qa6 qam rfl 0 rfl rfl fun a E=>lw E (qax rfl rfl) fun a E=>mv E rfl fun a E=>bw E 10 hF (fun c9 hF E=>?_) fun c9 hF E=>?_
 ·as_aux_lemma =>
   refine lsq E fun a E=>ls E fun a E=>pf E rfl rfl fun a E=>wn<|c_if E rfl (fun h=>by cases h) (fun _=>?_)
   refine wp_skip<|qaa<|wp_seq<|sg<|fk E ok qbn qca rfl 0 rfl rfl fun a E=>lv E ok (qaz qbX h6 rfl) fun a E=>mv E rfl fun a E=>wn<|wp_block<|bd hF fun o34 hL hF=>qaH _ (fun (s:Int) a w=>Ok u m0 ([(b8,oc 54 [vi r_1.Operand,vi r_1.Mod,vb r_1.Not,c5])] :: [(b7,oc 61 [vi t_0.a,vi t_0.b])] :: S) w ∧ Env 42 a [(2,vp b7),(3,vp b8),(18,c5),(19,(vi (r_1.Spans.length:Int))),(20,vi s)] ∧ InR .i64 s) (fun (b:(Unit ⊕ Bool)) e a w=>(Sum.elim (fun b53=>e = (.exit 0) ∧ Ok u m0 ([(b8,oc 54 [vi r_1.Operand,vi r_1.Mod,vb r_1.Not,c5])] :: [(b7,oc 61 [vi t_0.a,vi t_0.b])] :: S) w ∧ Env 42 a [(3,vp b8)]) (fun b54=>e = .ret ∧ qfM u m0 S b54 a w)) b) ?_ ?_ N _ a w hL ⟨ok,E.keep [2,3,18,19,20],(ir 0)⟩
   rotate_left
   ·intro e a w _ hO
    rcases o34 with o34 | o34
    rotate_left
    ·obtain ⟨rfl,hret⟩:=hO
     refine qaI<|qav ?_
     exact fin hF hret
    have hF:=qcN hF
    obtain ⟨rfl,ok,E⟩:=hO
    refine qaN<|qaa<|sg<|fk E ok qho qdk rfl 0 rfl rfl fun a E=>av E rfl fun a E=>wn<|wp_ret ?_
    exact fin hF ⟨ok.drop.drop,E.d,rz E rfl⟩
   rintro v36 a w r ⟨ok,E,r37⟩ hF
   replace hF:qcH N t_0 r_1 v36 = some r:=hF
   unfold qcH at hF
   refine sg<|lw E (qaC rfl rfl) fun a E=>wn<|wp_seq<|cg E rfl hF (fun c38 hF=>?_) fun c38 hF=>?_
   ·refine wp_exit<|qaE ?_
    cases hF
    exact so (sl ⟨rfl,⟨ok,E.keep [3]⟩⟩)
   refine wp_skip<|qaa<|wp_seq<|wp_block<|sg ?_
   obtain ⟨x39,e40,hF⟩:=bnd hF
   obtain ⟨b41,o42,es43,hl44,rr45,at46,yy47⟩:=ia E 18 20 qbX h6 e40
   obtain ⟨rfl,r48,r49⟩:=rr45
   refine lv E ok (yy47 _ _) fun a E=>lv E ok (qaj (cs:=[vi x39.From,vi x39.To]) qfF rfl rfl (qab.ro at46)) fun a E=>qaw E ok qd3 rfl rfl fun b50 a w E ok=>qaf E ok 0 rfl rfl rfl qgs rfl rfl ⟨rfl,rfl,trivial⟩ rfl rfl fun w ok=>wn<|sg<|fk E ok qfB qam rfl 2 rfl rfl fun a E=>fk E ok qfZ qam rfl 0 rfl rfl fun a E=>lw E (qjh rfl rfl) fun a E=>mv E rfl fun a E=>bw E 29 hF (fun c51 hF E=>?_) fun c51 hF E=>?_
   ·refine lsz E fun a E=>ls E fun a E=>pf E rfl rfl fun a E=>wn<|c_if E rfl (fun h=>by cases h) (fun _=>?_)
    refine wp_skip<|qap<|qaa<|qac<|lw E (qaA rfl rfl (InR.inc r37 (qal h6) c38)) fun a E=>mv E rfl fun a E=>wpList_nil ?_
    cases hF
    exact qau ⟨(ok.pk 3 [1,2] rfl (by decide)),E.keep [2,3,18,19,20],(InR.inc r37 (qal h6) c38)⟩
   refine fk E ok qfB qam rfl 2 rfl rfl fun a E=>fk E ok qeL qam rfl 0 rfl rfl fun a E=>lw E (qhF rfl rfl) fun a E=>pt E rfl rfl fun a E=>wn<|cg E rfl hF (fun c52 hF=>?_) fun c52 hF=>?_
   ·refine wp_skip<|qap<|qaa<|qac<|lw E (qaA rfl rfl (InR.inc r37 (qal h6) c38)) fun a E=>mv E rfl fun a E=>wpList_nil ?_
    cases hF
    exact qau ⟨(ok.pk 3 [1,2] rfl (by decide)),E.keep [2,3,18,19,20],(InR.inc r37 (qal h6) c38)⟩
   refine sg<|fk E ok qho qdk rfl 1 rfl rfl fun a E=>lw E (qbW rfl) fun a E=>aw E rfl fun a E=>wp_ret<|qaI<|qav ?_
   cases hF
   exact so (sr ⟨rfl,⟨ok.drop.drop.drop,E.d,rz E rfl⟩⟩)
 refine fk E ok qf3 qam rfl 1 rfl rfl fun a E=>lw E (qax rfl rfl) fun a E=>pt E rfl rfl fun a E=>wn<|cf E rfl hF (fun c10 hF=>?_) fun c10 hF=>?_
 ·refine sg<|fk E ok qho qdk rfl 0 rfl rfl fun a E=>aw E rfl fun a E=>wp_ret<|qav ?_
  exact fin hF ⟨ok.drop.drop,E.d,rz E rfl⟩
 refine wp_skip<|qaa<|wp_seq<|sg<|fk E ok qbn qca rfl 0 rfl rfl fun a E=>lv E ok (qaz qbX h6 rfl) fun a E=>mv E rfl fun a E=>wn<|wp_block<|bd hF fun o12 hL hF=>qaH _ (fun (s:Int) a w=>Ok u m0 ([(b8,oc 54 [vi r_1.Operand,vi r_1.Mod,vb r_1.Not,c5])] :: [(b7,oc 61 [vi t_0.a,vi t_0.b])] :: S) w ∧ Env 42 a [(2,vp b7),(3,vp b8),(18,c5),(19,(vi (r_1.Spans.length:Int))),(20,vi s)] ∧ InR .i64 s) (fun (b:(Unit ⊕ Bool)) e a w=>(Sum.elim (fun b31=>e = (.exit 0) ∧ Ok u m0 ([(b8,oc 54 [vi r_1.Operand,vi r_1.Mod,vb r_1.Not,c5])] :: [(b7,oc 61 [vi t_0.a,vi t_0.b])] :: S) w ∧ Env 42 a [(3,vp b8)]) (fun b32=>e = .ret ∧ qfM u m0 S b32 a w)) b) ?_ ?_ N _ a w hL ⟨ok,E.keep [2,3,18,19,20],(ir 0)⟩
 rotate_left
 ·intro e a w _ hO
  rcases o12 with o12 | o12
  rotate_left
  ·obtain ⟨rfl,hret⟩:=hO
   refine qaI<|qav ?_
   exact fin hF hret
  have hF:=qcN hF
  obtain ⟨rfl,ok,E⟩:=hO
  refine qaN<|qaa<|sg<|fk E ok qho qdk rfl 0 rfl rfl fun a E=>av E rfl fun a E=>wn<|wp_ret ?_
  exact fin hF ⟨ok.drop.drop,E.d,rz E rfl⟩
 rintro v14 a w r ⟨ok,E,r15⟩ hF
 replace hF:qcG N t_0 r_1 v14 = some r:=hF
 unfold qcG at hF
 refine sg<|lw E (qaC rfl rfl) fun a E=>wn<|wp_seq<|cg E rfl hF (fun c16 hF=>?_) fun c16 hF=>?_
 ·refine wp_exit<|qaE ?_
  cases hF
  exact so (sl ⟨rfl,⟨ok,E.keep [3]⟩⟩)
 refine wp_skip<|qaa<|wp_seq<|wp_block<|sg ?_
 obtain ⟨x17,e18,hF⟩:=bnd hF
 obtain ⟨b19,o20,es21,hl22,rr23,at24,yy25⟩:=ia E 18 20 qbX h6 e18
 obtain ⟨rfl,r26,r27⟩:=rr23
 refine lv E ok (yy25 _ _) fun a E=>lv E ok (qaj (cs:=[vi x17.From,vi x17.To]) qfF rfl rfl (qab.ro at24)) fun a E=>qaw E ok qd3 rfl rfl fun b28 a w E ok=>qaf E ok 0 rfl rfl rfl qgs rfl rfl ⟨rfl,rfl,trivial⟩ rfl rfl fun w ok=>wn<|sg<|fk E ok qfB qam rfl 2 rfl rfl fun a E=>fk E ok qfZ qam rfl 0 rfl rfl fun a E=>lw E (qjh rfl rfl) fun a E=>mv E rfl fun a E=>bw E 29 hF (fun c29 hF E=>?_) fun c29 hF E=>?_
 ·refine lsz E fun a E=>ls E fun a E=>pf E rfl rfl fun a E=>wn<|c_if E rfl (fun h=>by cases h) (fun _=>?_)
  refine wp_skip<|qap<|qaa<|qac<|lw E (qaA rfl rfl (InR.inc r15 (qal h6) c16)) fun a E=>mv E rfl fun a E=>wpList_nil ?_
  cases hF
  exact qau ⟨(ok.pk 3 [1,2] rfl (by decide)),E.keep [2,3,18,19,20],(InR.inc r15 (qal h6) c16)⟩
 refine fk E ok qfB qam rfl 2 rfl rfl fun a E=>fk E ok qeL qam rfl 0 rfl rfl fun a E=>lw E (qhF rfl rfl) fun a E=>pt E rfl rfl fun a E=>wn<|cg E rfl hF (fun c30 hF=>?_) fun c30 hF=>?_
 ·refine wp_skip<|qap<|qaa<|qac<|lw E (qaA rfl rfl (InR.inc r15 (qal h6) c16)) fun a E=>mv E rfl fun a E=>wpList_nil ?_
  cases hF
  exact qau ⟨(ok.pk 3 [1,2] rfl (by decide)),E.keep [2,3,18,19,20],(InR.inc r15 (qal h6) c16)⟩
 refine sg<|fk E ok qho qdk rfl 1 rfl rfl fun a E=>lw E (qbW rfl) fun a E=>aw E rfl fun a E=>wp_ret<|qaI<|qav ?_
 cases hF
 exact so (sr ⟨rfl,⟨ok.drop.drop.drop,E.d,rz E rfl⟩⟩)
def qjI (u:World) (m0:Mem) (S:Segs) (pb0:Nat) (x0:qak) (c1:Value) (c3:Value) (M4:List (Nat × Obj)) (c6:Value) (M7:List (Nat × Obj)) (r:Int) (a:Act) (w:World):Prop :=
 Ok u m0 ([(pb0,oc 130 [c1,c3,c6])] :: M4 :: M7 :: S) w ∧ a.defers = [] ∧ RVs Tryd.prog a w [.t 6 (.int .u64 r)] ∧ InR .u64 r
theorem qhr (N:Nat) (behind_1:Bool) (vtrackers_2:Value) (trackers_2:List (Tracker)) (htrackers_2:(pL 2 qbz) m0 [vtrackers_2] trackers_2) {pb0:Nat} {c1:Value} {c3:Value} {M4:List (Nat × Obj)} {c6:Value} {M7:List (Nat × Obj)} (x0:qak) (h2:(pL 4 qan) m0 [c1] x0.l) (h5:ORow 137 2 qb7 m0 c3 x0.wholes M4) (h8:ORow 137 2 qb7 m0 c6 x0.fraction M7) {r:Int} (hF:qc0 N behind_1 trackers_2 x0 = some r) (ok:Ok u m0 ([(pb0,oc 130 [c1,c3,c6])] :: M4 :: M7 :: S) w) :
  Calls Tryd.prog 73 [vp pb0,vb behind_1,vtrackers_2].toArray w fun e w'=>(e = .returned (.int .u64 r) ∧ Ok u m0 ([(pb0,oc 130 [c1,c3,c6])] :: M4 :: M7 :: S) w') ∧ InR .u64 r:=by
 unfold qc0 at hF
 refine en (qjI u m0 S pb0 x0 c1 c3 M4 c6 M7) r Tryd.func73 rfl rfl rfl (fun _ _ h=>rb h rfl) fun fin a E=>sg<|aw E rfl fun a E=>sg<|aw E rfl fun a E=>wp_seq<|sg<|mv E rfl fun a E=>lw E (qa1 rfl) fun a E=>fk E ok qhQ qdJ rfl 0 rfl rfl fun a E=>lv E ok (qaz qbr h2 rfl) fun a E=>mv E rfl fun a E=>wn<|wp_block<|bd hF fun o11 hL hF=>qaH _ (fun (s:Int × Int) a w=>Ok u m0 ([(pb0,oc 130 [c1,c3,c6])] :: M4 :: M7 :: S) w ∧ Env 38 a [(1,vb behind_1),(2,vtrackers_2),(7,vu s.1),(13,c1),(14,(vi (x0.l.length:Int))),(15,vi s.2)] ∧ InR .u64 s.1 ∧ InR .i64 s.2) (fun (b:Int) e a w=>e = (.exit 0) ∧ Ok u m0 ([(pb0,oc 130 [c1,c3,c6])] :: M4 :: M7 :: S) w ∧ Env 38 a [(7,vu b)] ∧ InR .u64 b) ?_ ?_ N _ a w hL ⟨ok,E.keep [1,2,7,13,14,15],(show InR .u64 (0) by decide),(ir 0)⟩
 rotate_left
 ·intro e a w _ hO
  obtain ⟨rfl,ok,E,r52⟩:=hO
  refine qaN<|qaa<|sg<|mv E rfl fun a E=>aw E rfl fun a E=>wp_ret ?_
  exact fin hF ⟨ok,E.d,rz E rfl,r52⟩
 rintro ⟨v14,v15⟩ a w r ⟨ok,E,r16,r17⟩ hF
 replace hF:qb2 N behind_1 trackers_2 x0 v14 v15 = some r:=hF
 unfold qb2 at hF
 refine sg<|lw E (qaC rfl rfl) fun a E=>wn<|wp_seq<|cg E rfl hF (fun c18 hF=>?_) fun c18 hF=>?_
 ·refine wp_exit<|qaE ?_
  cases hF
  exact so (⟨rfl,⟨ok,E.keep [7],r16⟩⟩)
 refine wp_skip<|qaa<|wp_seq<|wp_block<|sg<|mv E rfl fun a E=>?_
 obtain ⟨x19,e20,hF⟩:=bnd hF
 obtain ⟨b21,o22,es23,hl24,rr25,at26,yy27⟩:=ia E 13 15 qbr h2 e20
 obtain ⟨c30,rfl,r28,r29,h31⟩:=rr25
 refine lv E ok (yy27 _ _) fun a E=>lv E ok (qaj (cs:=[vi x19.Operand,vi x19.Mod,vb x19.Not,c30]) qbK rfl rfl (qab.ro at26)) fun a E=>qaw E ok qds rfl rfl fun b32 a w E ok=>av E rfl fun a E=>qaf E ok 0 rfl rfl rfl qgE rfl rfl ⟨rfl,rfl,rfl,(qa9 h31),trivial⟩ rfl rfl fun w ok=>wn<|wp_seq<|qee (by kernel_rfl) (by kernel_rfl) ok<|qv E (qaj (cs:=[vi x19.Operand,vi x19.Mod,vb x19.Not,c30]) qbK rfl rfl (qab.own 0 rfl rfl)) fun a E=>bd hF fun r33 e34 hF=>qg0 E qmD rfl (fun w ok=>(qfm N _ x19 ⟨_,rfl,r28,r29,h31⟩ e34 ok).mono (fun _ _ h=>h)) rfl rfl fun a E=>qv E (qah rfl) fun a E=>qv E (qmn Tryd.underlying4 rfl rfl) fun a E=>qv E (qah rfl) fun a E=>bw E 24 hF (fun c35 hF E=>?_) fun c35 hF E=>?_
 ·refine qs E fun a E=>qs E fun a E=>qs E fun a E=>qs E fun a E=>qs E fun a E=>qs E fun a E=>qv E (qa5 rfl rfl) fun a E=>wpQuiet_nil ?_
  intro w ok
  refine qaa<|c_if E rfl (fun h=>by cases h) (fun _=>?_)
  refine wp_skip<|qap<|qaa<|qac<|lw E (qaA rfl rfl (InR.inc r17 (qal h2) c18)) fun a E=>mv E rfl fun a E=>wpList_nil ?_
  cases hF
  exact qau ⟨(ok.pk 4 [1,2,3] rfl (by decide)),E.keep [1,2,7,13,14,15],r16,(InR.inc r17 (qal h2) c18)⟩
 refine qv E (qah rfl) fun a E=>qv E (qah rfl) fun a E=>?_
 obtain ⟨x36,e37,hF⟩:=bnd hF
 obtain ⟨b38,o39,es40,hl41,rr42,at43,yy44⟩:=ia E 25 26 qer htrackers_2 e37
 obtain ⟨rfl,r45,r46⟩:=rr42
 refine qv E (yy44 _ _) fun a E=>qv E (qaj (cs:=[vi x36.a,vi x36.b]) qbS rfl rfl (qab.ro at43)) fun a E=>qv E (qaj (cs:=[vi x19.Operand,vi x19.Mod,vb x19.Not,c30]) qbK rfl rfl (qab.own 0 rfl rfl)) fun a E=>bd hF fun r47 e48 hF=>qg0 E qso rfl (fun w ok=>(qg2 N _ x36 ⟨rfl,r45,r46⟩ _ x19 ⟨_,rfl,r28,r29,h31⟩ e48 ok).mono (fun _ _ h=>h)) rfl rfl fun a E=>qv E (qbe rfl rfl) fun a E=>wpQuiet_nil ?_
 intro w ok
 refine qaa<|cg E rfl hF (fun c49 hF=>?_) fun c49 hF=>?_
 ·refine wp_skip<|qap<|qaa<|qac<|lw E (qaA rfl rfl (InR.inc r17 (qal h2) c18)) fun a E=>mv E rfl fun a E=>wpList_nil ?_
  cases hF
  exact qau ⟨(ok.pk 4 [1,2,3] rfl (by decide)),E.keep [1,2,7,13,14,15],r16,(InR.inc r17 (qal h2) c18)⟩
 refine qac<|mz E rfl rfl fun a E=>bd hF fun q50 e51 hF=>lv E ok (quJ rfl rfl e51) fun a E=>lw E (qiY .or (by decide) rfl rfl) fun a E=>av E rfl fun a E=>wpList_nil<|qap<|qaa<|qac<|lw E (qaA rfl rfl (InR.inc r17 (qal h2) c18)) fun a E=>mv E rfl fun a E=>wpList_nil ?_
 cases hF
 exact qau ⟨(ok.pk 4 [1,2,3] rfl (by decide)),E.keep [1,2,7,13,14,15],(qnu .or .u64 v14 q50),(InR.inc r17 (qal h2) c18)⟩
def qjC (u:World) (m0:Mem) (S:Segs) (r:Tracker) (a:Act) (w:World):Prop :=
 ∃ m1 v0,m0.le m1 ∧ Ok u m1 S w ∧ a.defers = [] ∧ RVs Tryd.prog a w [.c 8 61 (.agg v0.toArray)] ∧ qbz m1 v0 r
theorem qdX (N:Nat) (vt_0:List Value) (t_0:Tracker) (ht_0:qbz m0 vt_0 t_0) (vr_1:List Value) (r_1:Relation) (hr_1:qan m0 vr_1 r_1) (behind_2:Bool) (digit_3:Int) (rdigit_3:InR .i64 digit_3) {r:Tracker} (hF:qaZ N t_0 r_1 behind_2 digit_3 = some r) (ok:Ok u m0 S w) :
  Calls Tryd.prog 42 [.agg vt_0.toArray,.agg vr_1.toArray,vb behind_2,vi digit_3].toArray w fun e w'=>∃ m1 v0,e = .returned (.agg v0.toArray) ∧ m0.le m1 ∧ Ok u m1 S w' ∧ qbz m1 v0 r:=by
 obtain ⟨rfl,r1,r2⟩:=ht_0
 obtain ⟨c5,rfl,r3,r4,h6⟩:=hr_1
 have le_m0:=Mem.le.refl m0
 unfold qaZ at hF
 refine en (qjC u m0 S) r Tryd.func42 rfl rfl rfl (by rintro a w ⟨m1,v0,hle,ok,hd,hrv,h0⟩; exact qbC [.c 8 61 (.agg v0.toArray)] hd rfl hrv ⟨m1,v0,rfl,hle,ok,h0⟩) fun fin a E=>sg<|qbQ E ok rfl rfl rfl fun b7 a w E ok=>qbQ E ok rfl rfl rfl fun b8 a w E ok=>qaw E ok qfb rfl rfl fun b9 a w E ok=>wn<|wp_seq<|sg<|fk E ok qa6 qam rfl 1 rfl rfl fun a E=>wn<|wp_block<|wp_seq<|sg<|lw E (qax rfl rfl) fun a E=>aw E rfl fun a E=>bd hF fun o10 hJ hF=>qaO (Q':=fun e a w=>e = .normal ∧ Ok u m0 ([(b9,oc 61 [vi 0,vi 0])] :: [(b8,oc 54 [vi r_1.Operand,vi r_1.Mod,vb r_1.Not,c5])] :: [(b7,oc 61 [vi t_0.a,vi t_0.b])] :: S) w ∧ Env 75 a [(2,vb behind_2),(3,vi digit_3),(4,vp b7),(5,vp b8),(8,vp b9),(10,vi r_1.Operand),(11,vb o10)]) ?_ ?_
 ·have hF:=hJ
  refine cf E rfl hF (fun c11 hF=>?_) fun c11 hF=>?_
  ·refine wp_skip ?_
   cases hF
   exact ⟨rfl,⟨ok,E.keep [2,3,4,5,8,10,11]⟩⟩
  refine qac<|lw E (qax rfl rfl) fun a E=>av E rfl fun a E=>wpList_nil ?_
  cases hF
  exact ⟨rfl,⟨ok,E.keep [2,3,4,5,8,10,11]⟩⟩
 intro e a w hO
 obtain ⟨rfl,ok,E⟩:=hO
 refine qaa<|cf E rfl hF (fun c12 hF=>?_) fun c12 hF=>?_
 ·as_aux_lemma =>
   refine sg<|mv E rfl fun a E=>lw E (qbW rfl) fun a E=>wn<|cf E rfl hF (fun c13 hF=>?_) fun c13 hF=>?_
   ·refine qac<|lv E ok (qaj (cs:=[vi r_1.Operand,vi r_1.Mod,vb r_1.Not,c5]) qbK rfl rfl (qab.own 1 rfl rfl)) fun a E=>fk E ok qfB qam rfl 2 rfl rfl fun a E=>lw E (qgw rfl rfl) fun a E=>mv E rfl fun a E=>lw E (qcg rfl rfl) fun a E=>bd hF fun r14 e15 hF=>qao E qnY rfl (qgc N _ r_1 ⟨_,rfl,r3,r4,h6⟩ (IntKind.wrap .i64 ((IntKind.wrap .i64 ((10:Int) * t_0.a)) + digit_3)) (InR.wrap _ _) e15 ok) rfl rfl ?_
    rintro _ w ⟨⟨rfl,ok⟩,r16⟩
    refine ⟨_,rfl,fun a E=>?_⟩
    refine fv E qfB rfl fun a E=>qaf E ok 2 rfl rfl rfl qbp rfl rfl ⟨rfl,trivial⟩ rfl rfl fun w ok=>wpList_nil<|qap<|qaa<|sg<|lv E ok (qaj (cs:=[vi r14,vi t_0.b]) qbS rfl rfl (qab.own 2 rfl rfl)) fun a E=>qaf E ok 0 rfl rfl rfl qeq rfl rfl ⟨rfl,rfl,trivial⟩ rfl rfl fun w ok=>wn<|wp_ret ?_
    exact fin hF ⟨m0,[vi r14,vi t_0.b],le_m0,ok.drop.drop.drop,E.d,⟨rv_c (cs:=[vi r14,vi t_0.b]) E ok rfl qbS rfl (qab.own 0 rfl rfl),trivial⟩,⟨rfl,r16,r2⟩⟩
   refine sg<|mv E rfl fun a E=>lw E (qd5 rfl rfl) fun a E=>mv E rfl fun a E=>bw E 26 hF (fun c17 hF E=>?_) fun c17 hF E=>?_
   ·refine lsq E fun a E=>ls E fun a E=>pf E rfl rfl fun a E=>wn<|c_if E rfl (fun h=>by cases h) (fun _=>?_)
    refine wp_skip<|qap<|qaa<|sg<|lv E ok (qaj (cs:=[vi t_0.a,vi t_0.b]) qbS rfl rfl (qab.own 2 rfl rfl)) fun a E=>qaf E ok 0 rfl rfl rfl qeq rfl rfl ⟨rfl,rfl,trivial⟩ rfl rfl fun w ok=>wn<|wp_ret ?_
    exact fin hF ⟨m0,[vi t_0.a,vi t_0.b],le_m0,ok.drop.drop.drop,E.d,⟨rv_c (cs:=[vi t_0.a,vi t_0.b]) E ok rfl qbS rfl (qab.own 0 rfl rfl),trivial⟩,⟨rfl,r1,r2⟩⟩
   refine fk E ok qa6 qam rfl 1 rfl rfl fun a E=>lw E (qax rfl rfl) fun a E=>pt E rfl rfl fun a E=>wn<|cg E rfl hF (fun c18 hF=>?_) fun c18 hF=>?_
   ·refine wp_skip<|qap<|qaa<|sg<|lv E ok (qaj (cs:=[vi t_0.a,vi t_0.b]) qbS rfl rfl (qab.own 2 rfl rfl)) fun a E=>qaf E ok 0 rfl rfl rfl qeq rfl rfl ⟨rfl,rfl,trivial⟩ rfl rfl fun w ok=>wn<|wp_ret ?_
    exact fin hF ⟨m0,[vi t_0.a,vi t_0.b],le_m0,ok.drop.drop.drop,E.d,⟨rv_c (cs:=[vi t_0.a,vi t_0.b]) E ok rfl qbS rfl (qab.own 0 rfl rfl),trivial⟩,⟨rfl,r1,r2⟩⟩
   refine qac<|fv E qf3 rfl fun a E=>qaf E ok 2 rfl rfl rfl qbp rfl rfl ⟨rfl,trivial⟩ rfl rfl fun w ok=>wpList_nil<|qap<|qaa<|sg<|lv E ok (qaj (cs:=[vi t_0.a,vi 1]) qbS rfl rfl (qab.own 2 rfl rfl)) fun a E=>qaf E ok 0 rfl rfl rfl qeq rfl rfl ⟨rfl,rfl,trivial⟩ rfl rfl fun w ok=>wn<|wp_ret ?_
   exact fin hF ⟨m0,[vi t_0.a,vi 1],le_m0,ok.drop.drop.drop,E.d,⟨rv_c (cs:=[vi t_0.a,vi 1]) E ok rfl qbS rfl (qab.own 0 rfl rfl),trivial⟩,⟨rfl,r1,(ir 1)⟩⟩
 refine wp_seq<|sg<|lw E (qax rfl rfl) fun a E=>aw E rfl fun a E=>bd hF fun o19 hJ hF=>qaO (Q':=fun e a w=>e = .normal ∧ Ok u m0 ([(b9,oc 61 [vi 0,vi 0])] :: [(b8,oc 54 [vi r_1.Operand,vi r_1.Mod,vb r_1.Not,c5])] :: [(b7,oc 61 [vi t_0.a,vi t_0.b])] :: S) w ∧ Env 75 a [(2,vb behind_2),(3,vi digit_3),(4,vp b7),(5,vp b8),(8,vp b9),(10,vi r_1.Operand),(32,vb o19)]) ?_ ?_
 ·have hF:=hJ
  refine cf E rfl hF (fun c20 hF=>?_) fun c20 hF=>?_
  ·refine wp_skip ?_
   cases hF
   exact ⟨rfl,⟨ok,E.keep [2,3,4,5,8,10,32]⟩⟩
  refine qac<|lw E (qax rfl rfl) fun a E=>av E rfl fun a E=>wpList_nil ?_
  cases hF
  exact ⟨rfl,⟨ok,E.keep [2,3,4,5,8,10,32]⟩⟩
 intro e a w hO
 obtain ⟨rfl,ok,E⟩:=hO
 refine qaa<|cf E rfl hF (fun c21 hF=>?_) fun c21 hF=>?_
 ·as_aux_lemma =>
   refine sg<|mv E rfl fun a E=>wn<|cg E rfl hF (fun c22 hF=>?_) fun c22 hF=>?_
   ·refine wp_skip<|qap<|qaa<|sg<|lv E ok (qaj (cs:=[vi t_0.a,vi t_0.b]) qbS rfl rfl (qab.own 2 rfl rfl)) fun a E=>qaf E ok 0 rfl rfl rfl qeq rfl rfl ⟨rfl,rfl,trivial⟩ rfl rfl fun w ok=>wn<|wp_ret ?_
    exact fin hF ⟨m0,[vi t_0.a,vi t_0.b],le_m0,ok.drop.drop.drop,E.d,⟨rv_c (cs:=[vi t_0.a,vi t_0.b]) E ok rfl qbS rfl (qab.own 0 rfl rfl),trivial⟩,⟨rfl,r1,r2⟩⟩
   refine sg<|lv E ok (qaj (cs:=[vi r_1.Operand,vi r_1.Mod,vb r_1.Not,c5]) qbK rfl rfl (qab.own 1 rfl rfl)) fun a E=>fk E ok qf3 qam rfl 2 rfl rfl fun a E=>lw E (qcg rfl rfl) fun a E=>bd hF fun r23 e24 hF=>qao E qnY rfl (qgc N _ r_1 ⟨_,rfl,r3,r4,h6⟩ (IntKind.wrap .i64 (t_0.b + 1)) (InR.wrap _ _) e24 ok) rfl rfl ?_
   rintro _ w ⟨⟨rfl,ok⟩,r25⟩
   refine ⟨_,rfl,fun a E=>?_⟩
   refine fv E qf3 rfl fun a E=>qaf E ok 2 rfl rfl rfl qbp rfl rfl ⟨rfl,trivial⟩ rfl rfl fun w ok=>wn<|sg<|mv E rfl fun a E=>lw E (qd5 rfl rfl) fun a E=>mv E rfl fun a E=>bu E 44 hF (fun c26 hF E=>?_) fun c26 hF E=>?_
   ·refine lsq E fun a E=>ls E fun a E=>pt E rfl rfl fun a E=>wn<|c_if E rfl (fun _=>?_) (fun h=>by cases h)
    refine qac<|fk E ok qf3 qam rfl 2 rfl rfl fun a E=>fv E qfB rfl fun a E=>qaf E ok 2 rfl rfl rfl qbp rfl rfl ⟨rfl,trivial⟩ rfl rfl fun w ok=>wpList_nil<|qap<|qaa<|sg<|lv E ok (qaj (cs:=[vi r23,vi r23]) qbS rfl rfl (qab.own 2 rfl rfl)) fun a E=>qaf E ok 0 rfl rfl rfl qeq rfl rfl ⟨rfl,rfl,trivial⟩ rfl rfl fun w ok=>wn<|wp_ret ?_
    exact fin hF ⟨m0,[vi r23,vi r23],le_m0,ok.drop.drop.drop,E.d,⟨rv_c (cs:=[vi r23,vi r23]) E ok rfl qbS rfl (qab.own 0 rfl rfl),trivial⟩,⟨rfl,r25,r25⟩⟩
   refine fk E ok qa6 qam rfl 1 rfl rfl fun a E=>lw E (qax rfl rfl) fun a E=>pf E rfl rfl fun a E=>wn<|cg E rfl hF (fun c27 hF=>?_) fun c27 hF=>?_
   ·refine wp_skip<|qap<|qaa<|sg<|lv E ok (qaj (cs:=[vi t_0.a,vi r23]) qbS rfl rfl (qab.own 2 rfl rfl)) fun a E=>qaf E ok 0 rfl rfl rfl qeq rfl rfl ⟨rfl,rfl,trivial⟩ rfl rfl fun w ok=>wn<|wp_ret ?_
    exact fin hF ⟨m0,[vi t_0.a,vi r23],le_m0,ok.drop.drop.drop,E.d,⟨rv_c (cs:=[vi t_0.a,vi r23]) E ok rfl qbS rfl (qab.own 0 rfl rfl),trivial⟩,⟨rfl,r1,r25⟩⟩
   refine qac<|fk E ok qf3 qam rfl 2 rfl rfl fun a E=>fv E qfB rfl fun a E=>qaf E ok 2 rfl rfl rfl qbp rfl rfl ⟨rfl,trivial⟩ rfl rfl fun w ok=>wpList_nil<|qap<|qaa<|sg<|lv E ok (qaj (cs:=[vi r23,vi r23]) qbS rfl rfl (qab.own 2 rfl rfl)) fun a E=>qaf E ok 0 rfl rfl rfl qeq rfl rfl ⟨rfl,rfl,trivial⟩ rfl rfl fun w ok=>wn<|wp_ret ?_
   exact fin hF ⟨m0,[vi r23,vi r23],le_m0,ok.drop.drop.drop,E.d,⟨rv_c (cs:=[vi r23,vi r23]) E ok rfl qbS rfl (qab.own 0 rfl rfl),trivial⟩,⟨rfl,r25,r25⟩⟩
 refine wp_seq<|sg<|lw E (qax rfl rfl) fun a E=>aw E rfl fun a E=>bd hF fun o28 hJ hF=>qaO (Q':=fun e a w=>e = .normal ∧ Ok u m0 ([(b9,oc 61 [vi 0,vi 0])] :: [(b8,oc 54 [vi r_1.Operand,vi r_1.Mod,vb r_1.Not,c5])] :: [(b7,oc 61 [vi t_0.a,vi t_0.b])] :: S) w ∧ Env 75 a [(2,vb behind_2),(3,vi digit_3),(4,vp b7),(5,vp b8),(8,vp b9),(52,vb o28)]) ?_ ?_
 ·have hF:=hJ
  refine cf E rfl hF (fun c29 hF=>?_) fun c29 hF=>?_
  ·refine wp_skip ?_
   cases hF
   exact ⟨rfl,⟨ok,E.keep [2,3,4,5,8,52]⟩⟩
  refine qac<|lw E (qax rfl rfl) fun a E=>av E rfl fun a E=>wpList_nil ?_
  cases hF
  exact ⟨rfl,⟨ok,E.keep [2,3,4,5,8,52]⟩⟩
 intro e a w hO
 obtain ⟨rfl,ok,E⟩:=hO
 refine qaa<|cg E rfl hF (fun c30 hF=>?_) fun c30 hF=>?_
 ·refine wp_skip<|qap<|qaa<|sg<|lv E ok (qaj (cs:=[vi t_0.a,vi t_0.b]) qbS rfl rfl (qab.own 2 rfl rfl)) fun a E=>qaf E ok 0 rfl rfl rfl qeq rfl rfl ⟨rfl,rfl,trivial⟩ rfl rfl fun w ok=>wn<|wp_ret ?_
  exact fin hF ⟨m0,[vi t_0.a,vi t_0.b],le_m0,ok.drop.drop.drop,E.d,⟨rv_c (cs:=[vi t_0.a,vi t_0.b]) E ok rfl qbS rfl (qab.own 0 rfl rfl),trivial⟩,⟨rfl,r1,r2⟩⟩
 refine sg<|mv E rfl fun a E=>wn<|cg E rfl hF (fun c31 hF=>?_) fun c31 hF=>?_
 ·refine wp_skip<|qap<|qaa<|sg<|lv E ok (qaj (cs:=[vi t_0.a,vi t_0.b]) qbS rfl rfl (qab.own 2 rfl rfl)) fun a E=>qaf E ok 0 rfl rfl rfl qeq rfl rfl ⟨rfl,rfl,trivial⟩ rfl rfl fun w ok=>wn<|wp_ret ?_
  exact fin hF ⟨m0,[vi t_0.a,vi t_0.b],le_m0,ok.drop.drop.drop,E.d,⟨rv_c (cs:=[vi t_0.a,vi t_0.b]) E ok rfl qbS rfl (qab.own 0 rfl rfl),trivial⟩,⟨rfl,r1,r2⟩⟩
 refine sg<|lv E ok (qaj (cs:=[vi r_1.Operand,vi r_1.Mod,vb r_1.Not,c5]) qbK rfl rfl (qab.own 1 rfl rfl)) fun a E=>fk E ok qf3 qam rfl 2 rfl rfl fun a E=>lw E (qgw rfl rfl) fun a E=>mv E rfl fun a E=>lw E (qcg rfl rfl) fun a E=>bd hF fun r32 e33 hF=>qao E qnY rfl (qgc N _ r_1 ⟨_,rfl,r3,r4,h6⟩ (IntKind.wrap .i64 ((IntKind.wrap .i64 ((10:Int) * t_0.b)) + digit_3)) (InR.wrap _ _) e33 ok) rfl rfl ?_
 rintro _ w ⟨⟨rfl,ok⟩,r34⟩
 refine ⟨_,rfl,fun a E=>?_⟩
 refine fv E qf3 rfl fun a E=>qaf E ok 2 rfl rfl rfl qbp rfl rfl ⟨rfl,trivial⟩ rfl rfl fun w ok=>wn<|sg<|mv E rfl fun a E=>lw E (qd5 rfl rfl) fun a E=>mv E rfl fun a E=>bu E 66 hF (fun c35 hF E=>?_) fun c35 hF E=>?_
 ·refine lsq E fun a E=>ls E fun a E=>pt E rfl rfl fun a E=>wn<|c_if E rfl (fun _=>?_) (fun h=>by cases h)
  refine qac<|fk E ok qf3 qam rfl 2 rfl rfl fun a E=>fv E qfB rfl fun a E=>qaf E ok 2 rfl rfl rfl qbp rfl rfl ⟨rfl,trivial⟩ rfl rfl fun w ok=>wpList_nil<|qap<|qaa<|sg<|lv E ok (qaj (cs:=[vi r32,vi r32]) qbS rfl rfl (qab.own 2 rfl rfl)) fun a E=>qaf E ok 0 rfl rfl rfl qeq rfl rfl ⟨rfl,rfl,trivial⟩ rfl rfl fun w ok=>wn<|wp_ret ?_
  exact fin hF ⟨m0,[vi r32,vi r32],le_m0,ok.drop.drop.drop,E.d,⟨rv_c (cs:=[vi r32,vi r32]) E ok rfl qbS rfl (qab.own 0 rfl rfl),trivial⟩,⟨rfl,r34,r34⟩⟩
 refine fk E ok qa6 qam rfl 1 rfl rfl fun a E=>lw E (qax rfl rfl) fun a E=>pf E rfl rfl fun a E=>wn<|cg E rfl hF (fun c36 hF=>?_) fun c36 hF=>?_
 ·refine wp_skip<|qap<|qaa<|sg<|lv E ok (qaj (cs:=[vi t_0.a,vi r32]) qbS rfl rfl (qab.own 2 rfl rfl)) fun a E=>qaf E ok 0 rfl rfl rfl qeq rfl rfl ⟨rfl,rfl,trivial⟩ rfl rfl fun w ok=>wn<|wp_ret ?_
  exact fin hF ⟨m0,[vi t_0.a,vi r32],le_m0,ok.drop.drop.drop,E.d,⟨rv_c (cs:=[vi t_0.a,vi r32]) E ok rfl qbS rfl (qab.own 0 rfl rfl),trivial⟩,⟨rfl,r1,r34⟩⟩
 refine qac<|fk E ok qf3 qam rfl 2 rfl rfl fun a E=>fv E qfB rfl fun a E=>qaf E ok 2 rfl rfl rfl qbp rfl rfl ⟨rfl,trivial⟩ rfl rfl fun w ok=>wpList_nil<|qap<|qaa<|sg<|lv E ok (qaj (cs:=[vi r32,vi r32]) qbS rfl rfl (qab.own 2 rfl rfl)) fun a E=>qaf E ok 0 rfl rfl rfl qeq rfl rfl ⟨rfl,rfl,trivial⟩ rfl rfl fun w ok=>wn<|wp_ret ?_
 exact fin hF ⟨m0,[vi r32,vi r32],le_m0,ok.drop.drop.drop,E.d,⟨rv_c (cs:=[vi r32,vi r32]) E ok rfl qbS rfl (qab.own 0 rfl rfl),trivial⟩,⟨rfl,r34,r34⟩⟩
def qhH (u:World) (m0:Mem) (S:Segs) (r:(List UInt8)) (a:Act) (w:World):Prop :=
 Ok u m0 S w ∧ a.defers = [] ∧ RVs Tryd.prog a w [.t 2 (.string (bs r))] ∧ r.length ≤ LIMS
theorem qhI (N:Nat) (b_0:Bool) {r:(List UInt8)} (hF:qeJ N b_0 = some r) (ok:Ok u m0 S w) :
  Calls Tryd.prog 89 [vb b_0].toArray w fun e w'=>(e = .returned (.string (bs r)) ∧ Ok u m0 S w') ∧ r.length ≤ LIMS:=by
 unfold qeJ at hF
 refine en (qhH u m0 S) r Tryd.func89 rfl rfl rfl (fun _ _ h=>rb h rfl) fun fin a E=>sg<|aw E rfl fun a E=>wp_seq<|sg<|mv E rfl fun a E=>wn<|cf E rfl hF (fun c1 hF=>?_) fun c1 hF=>?_
 ·refine sg<|aw E rfl fun a E=>wp_ret<|qav ?_
  exact fin hF ⟨ok,E.d,rz E rfl,(show ([116,114,117,101]:List UInt8).length ≤ LIMS by decide)⟩
 refine wp_skip<|qaa<|sg<|aw E rfl fun a E=>wp_ret ?_
 exact fin hF ⟨ok,E.d,rz E rfl,(show ([102,97,108,115,101]:List UInt8).length ≤ LIMS by decide)⟩
def qkh (u:World) (m0:Mem) (S:Segs) (r:(List UInt8)) (a:Act) (w:World):Prop :=
 Ok u m0 S w ∧ a.defers = [] ∧ RVs Tryd.prog a w [.t 2 (.string (bs r))] ∧ r.length ≤ LIMS
theorem qkg (N:Nat) (b_0:Bool) {r:(List UInt8)} (hF:qfJ N b_0 = some r) (ok:Ok u m0 S w) :
  Calls Tryd.prog 85 [vb b_0].toArray w fun e w'=>(e = .returned (.string (bs r)) ∧ Ok u m0 S w') ∧ r.length ≤ LIMS:=by
 unfold qfJ at hF
 refine en (qkh u m0 S) r Tryd.func85 rfl rfl rfl (fun _ _ h=>rb h rfl) fun fin a E=>sg<|aw E rfl fun a E=>sg<|mv E rfl fun a E=>bd hF fun r1 e2 hF=>qao E quE rfl (qhI N b_0 e2 ok) rfl rfl ?_
 rintro _ w ⟨⟨rfl,ok⟩,l3⟩
 refine ⟨_,rfl,fun a E=>?_⟩
 refine aw E rfl fun a E=>wp_ret ?_
 exact fin hF ⟨ok,E.d,rz E rfl,l3⟩
end Go.Proofs.YtidfofhmnlhfjaaDoor
namespace Go.Proofs.YtidfofhmnlhfjaaDoor
open Go.X
variable {u:World} {m0:Mem} {S:Segs} {w:World}
set_option maxHeartbeats 4000000
set_option maxRecDepth 100000
def qip (u:World) (m0:Mem) (S:Segs) (pb0:Nat) (x0:qak) (c1:Value) (c3:Value) (M4:List (Nat × Obj)) (c6:Value) (M7:List (Nat × Obj)) (r:qak) (a:Act) (w:World):Prop :=
 ∃ m1 c9 c11 M12 c14 M15,m0.le m1 ∧ Ok u m1 ([(pb0,oc 130 [c9,c11,c14])] :: M12 :: M15 :: S) w ∧ a.defers = [] ∧ RVs Tryd.prog a w [] ∧ (pL 4 qan) m1 [c9] r.l ∧ ORow 137 2 qb7 m1 c11 r.wholes M12 ∧ ORow 137 2 qb7 m1 c14 r.fraction M15
theorem qii (N:Nat) {pb0:Nat} {c1:Value} {c3:Value} {M4:List (Nat × Obj)} {c6:Value} {M7:List (Nat × Obj)} (x0:qak) (h2:(pL 4 qan) m0 [c1] x0.l) (h5:ORow 137 2 qb7 m0 c3 x0.wholes M4) (h8:ORow 137 2 qb7 m0 c6 x0.fraction M7) {r:qak} (hF:qdf N x0 = some r) (hTb:Tab u) (ok:Ok u m0 ([(pb0,oc 130 [c1,c3,c6])] :: M4 :: M7 :: S) w) :
  Calls Tryd.prog 74 [vp pb0].toArray w fun e w'=>∃ m1 c9 c11 M12 c14 M15,e = .returned (.tuple [].toArray) ∧ m0.le m1 ∧ Ok u m1 ([(pb0,oc 130 [c9,c11,c14])] :: M12 :: M15 :: S) w' ∧ (pL 4 qan) m1 [c9] r.l ∧ ORow 137 2 qb7 m1 c11 r.wholes M12 ∧ ORow 137 2 qb7 m1 c14 r.fraction M15:=by
 have le_m0:=Mem.le.refl m0
 unfold qdf at hF
 refine en (qip u m0 S pb0 x0 c1 c3 M4 c6 M7) r Tryd.func74 rfl rfl rfl (by rintro a w ⟨m1,c9,c11,M12,c14,M15,hle,ok,hd,hrv,h0,h1,h2⟩; exact qbC [] hd rfl hrv ⟨m1,c9,c11,M12,c14,M15,rfl,hle,ok,h0,h1,h2⟩) fun fin a E=>sg<|mv E rfl fun a E=>lw E (qa1 rfl) fun a E=>fk E ok qhQ qdJ rfl 0 rfl rfl fun a E=>lv E ok (qaz qbr h2 rfl) fun a E=>bd hF fun l17 e18 hF=>qbR (R:=qbz) E ok qer qfb rfl ⟨rfl,(ir 0),(ir 0)⟩ rfl e18 rfl rfl fun c19 M20 a w E ok h21=>lw E (qaG (ps:=[(0,.const (vs ([]))),(1,.tmp 19),(2,.const (vb true))]) (qs:=[(0,[(vs ([]))]),(1,[c19]),(2,[vb true])]) (cs:=[(vs ([])),c19,vb true]) qbF qdo rfl ⟨rfl,rfl,rfl,⟨rfl,(ORow.cells h21),rfl,⟨rfl,rfl,rfl,trivial⟩⟩⟩ rfl) fun a E=>?_
 obtain ⟨m22,hle,ok,hfz⟩:=(ok.frs 0 rfl).freeze
 have h23:=ORow.froz qbm h21 hle hfz (by decide)
 have le_m0:=le_m0.trans hle
 have h2:=(mL qad).up hle h2
 have h5:=ORow.up qcu hle h5
 have h8:=ORow.up qcu hle h8
 refine qbH (R:=qg3) (xo:=[.tmp 20]) (xs:=([(State.mk ([]) l17 true)]:List (State))) E ok qlr qbF rfl ⟨⟨_,rfl,rfl,⟨_,rfl,(show ([]:List UInt8).length ≤ LIMS by decide),h23⟩⟩,trivial⟩ rfl rfl rfl rfl fun c24 M25 a w E ok h26=>aw E rfl fun a E=>sg<|av E rfl fun a E=>wn<|wp_block<|bd hF fun o43 hL hF=>qaH _ (fun (s:(List (State)) × Int × qak) a w=>∃ m44 c45 M46 c49 c51 M52 c54 M55,m22.le m44 ∧ Ok u m44 (M46 :: [(pb0,oc 130 [c49,c51,c54])] :: M52 :: M55 :: S) w ∧ Env 136 a [(0,vp pb0),(2,c45),(3,vi s.2.1)] ∧ ORow 149 3 qg3 m44 c45 s.1 M46 ∧ InR .i64 s.2.1 ∧ (pL 4 qan) m44 [c49] s.2.2.l ∧ ORow 137 2 qb7 m44 c51 s.2.2.wholes M52 ∧ ORow 137 2 qb7 m44 c54 s.2.2.fraction M55) (fun (b:qak) e a w=>e = (.exit 0) ∧ ∃ m522 c523 c525 M526 c528 M529,m22.le m522 ∧ Ok u m522 ([(pb0,oc 130 [c523,c525,c528])] :: M526 :: M529 :: S) w ∧ Env 136 a [] ∧ (pL 4 qan) m522 [c523] b.l ∧ ORow 137 2 qb7 m522 c525 b.wholes M526 ∧ ORow 137 2 qb7 m522 c528 b.fraction M529) ?_ ?_ N _ a w hL ⟨m22,c24,M25,c1,c3,M4,c6,M7,Mem.le.refl _,ok,E.keep [0,2,3],h26,(ir 0),h2,h5,h8⟩
 rotate_left
 ·intro e a w _ hO
  obtain ⟨rfl,m513,c514,c516,M517,c519,M520,hle,ok,E,h515,h518,h521⟩:=hO
  have le_m0:=le_m0.trans hle
  have h2:=(mL qad).up hle h2
  have h23:=(mL qbm).up hle h23
  refine qaN ?_
  exact fin hF ⟨m513,c514,c516,M517,c519,M520,le_m0,ok,E.d,trivial,h515,h518,h521⟩
 rintro ⟨v57,v58,v59⟩ a w r ⟨m60,c61,M62,c65,c67,M68,c70,M71,hle,ok,E,h63,r64,h66,h69,h72⟩ hF
 replace hF:qbo N v57 v58 v59 = some r:=hF
 unfold qbo at hF
 have le_m22:=Mem.le.refl m22
 have le_m0:=le_m0.trans hle
 have le_m22:=le_m22.trans hle
 have h2:=(mL qad).up hle h2
 have h23:=(mL qbm).up hle h23
 refine wp_seq<|sg<|mv E rfl fun a E=>lw E (qhF rfl rfl) fun a E=>wn<|cg E rfl hF (fun c73 hF=>?_) fun c73 hF=>?_
 ·refine wp_exit<|qaE ?_
  cases hF
  exact so (⟨rfl,⟨m60,c65,c67,M68,c70,M71,le_m22,(ok.pk 4 [1,2,3] rfl (by decide)),E.keep [],h66,h69,h72⟩⟩)
 refine wp_skip<|qaa<|wp_seq<|wp_block<|sg<|av E rfl fun a E=>wn<|sg<|qgF kS (oneV pB) E ok rfl rfl fun c74 M75 a w E ok h76=>aw E rfl fun a E=>wp_seq<|sg<|mv E rfl fun a E=>lv E ok (qcz qlr h63 rfl) fun a E=>mv E rfl fun a E=>wn<|wp_block ?_
 obtain ⟨M93,ok,h94⟩:=qd1 (e:=149) (k:=3) (R:=qg3) ok
 refine bd hF fun o95 hL hF=>qaH _ (fun (s:(List (State)) × Int × qak × (List (List UInt8 × Bool))) a w=>∃ m96 c97 M98 c101 c103 M104 c106 M107 c109 M110,m60.le m96 ∧ Ok u m96 (M98 :: M110 :: M62 :: [(pb0,oc 130 [c101,c103,c106])] :: M104 :: M107 :: S) w ∧ Env 136 a [(0,vp pb0),(3,vi v58),(4,c97),(5,c109),(27,c61),(28,(vi (v57.length:Int))),(29,vi s.2.1)] ∧ ORow 149 3 qg3 m96 c97 s.1 M98 ∧ InR .i64 s.2.1 ∧ (pL 4 qan) m96 [c101] s.2.2.1.l ∧ ORow 137 2 qb7 m96 c103 s.2.2.1.wholes M104 ∧ ORow 137 2 qb7 m96 c106 s.2.2.1.fraction M107 ∧ OMap kS (oneV pB) m96 c109 s.2.2.2 M110) (fun (b:(qak × (List (State)))) e a w=>e = (.exit 2) ∧ ∃ m501 c502 c504 M505 c507 M508 c510 M511,m60.le m501 ∧ Ok u m501 (M511 :: M62 :: [(pb0,oc 130 [c502,c504,c507])] :: M505 :: M508 :: S) w ∧ Env 136 a [(0,vp pb0),(3,vi v58),(4,c510)] ∧ (pL 4 qan) m501 [c502] b.1.l ∧ ORow 137 2 qb7 m501 c504 b.1.wholes M505 ∧ ORow 137 2 qb7 m501 c507 b.1.fraction M508 ∧ ORow 149 3 qg3 m501 c510 b.2 M511) ?_ ?_ N _ a w hL ⟨m60,(Value.slice none 0 0),M93,c65,c67,M68,c70,M71,c74,M75,Mem.le.refl _,ok,E.keep [0,3,4,5,27,28,29],h94,(ir 0),h66,h69,h72,h76⟩
 rotate_left
 ·intro e a w _ hO
  obtain ⟨rfl,m489,c490,c492,M493,c495,M496,c498,M499,hle,ok,E,h491,h494,h497,h500⟩:=hO
  have le_m0:=le_m0.trans hle
  have le_m22:=le_m22.trans hle
  have h2:=(mL qad).up hle h2
  have h23:=(mL qbm).up hle h23
  have h66:=(mL qad).up hle h66
  refine qaN<|qaa<|qac<|mv E rfl fun a E=>av E rfl fun a E=>wpList_nil<|qap<|qaa<|qac<|mv E rfl fun a E=>lw E (qcg rfl rfl) fun a E=>av E rfl fun a E=>wpList_nil ?_
  cases hF
  exact qau ⟨m489,c498,M499,c490,c492,M493,c495,M496,le_m22,(ok.pk 5 [0,2,3,4] rfl (by decide)),E.keep [0,2,3],h500,(InR.wrap _ _),h491,h494,h497⟩
 rintro ⟨v112,v113,v114,v115⟩ a w r ⟨m116,c117,M118,c121,c123,M124,c126,M127,c129,M130,hle,ok,E,h119,r120,h122,h125,h128,h131⟩ hF
 replace hF:qbj N v57 v112 v113 v114 v115 = some r:=hF
 unfold qbj at hF
 have le_m60:=Mem.le.refl m60
 have le_m0:=le_m0.trans hle
 have le_m22:=le_m22.trans hle
 have le_m60:=le_m60.trans hle
 have h2:=(mL qad).up hle h2
 have h23:=(mL qbm).up hle h23
 have h63:=ORow.up qdT hle h63
 have h66:=(mL qad).up hle h66
 refine sg<|lw E (qaC rfl rfl) fun a E=>wn<|wp_seq<|cg E rfl hF (fun c132 hF=>?_) fun c132 hF=>?_
 ·refine wp_exit<|qaE ?_
  cases hF
  exact so (⟨rfl,⟨m116,c121,c123,M124,c126,M127,c117,M118,le_m60,(ok.pk 6 [0,2,3,4,5] rfl (by decide)),E.keep [0,3,4],h122,h125,h128,h119⟩⟩)
 refine wp_skip<|qaa<|wp_seq<|wp_block<|sg ?_
 obtain ⟨x133,e134,hF⟩:=bnd hF
 obtain ⟨b135,o136,hp137,yy138⟩:=qbf qlr h63 e134 (P:=Tryd.prog) (X:=.tmp 27) (I:=.tmp 29) (kd:=.i64) (qay E rfl) (qay E rfl)
 refine lv E ok (yy138 _ _) fun a E=>?_
 obtain ⟨es139,hl140,rr141,hh142⟩:=qbT h63 e134 hp137 (by decide)
 obtain ⟨c144,rfl,l143,h145⟩:=rr141
 refine lv E ok (qaj (cs:=[vs x133.s,c144,vb x133.integer]) qpw rfl rfl (hh142 _ _ _ 2 rfl)) fun a E=>qaw E ok qbF rfl rfl fun b146 a w E ok=>qaf E ok 0 rfl rfl rfl qfc rfl rfl ⟨rfl,(qa9 h145),rfl,trivial⟩ rfl rfl fun w ok=>wn<|sg<|mv E rfl fun a E=>fk E ok qiN qjw rfl 0 rfl rfl fun a E=>?_
 obtain ⟨r147,e148,hF⟩:=bnd hF
 replace ok:Ok u m116 ([(pb0,oc 130 [c121,c123,c126])] :: M124 :: M127 :: [(b146,oc 149 [vs x133.s,c144,vb x133.integer])] :: M118 :: M130 :: M62 :: S) w:=(ok.pk 7 [4,5,6,0,1,2,3] rfl (by decide))
 refine qao E qsc rfl (qhr N true _ x133.trackers h145 v114 h122 h125 h128 e148 ok) rfl rfl ?_
 rintro _ w ⟨⟨rfl,ok⟩,r149⟩
 refine ⟨_,rfl,fun a E=>?_⟩
 refine aw E rfl fun a E=>wp_seq<|sg<|fk E ok qj7 qdk rfl 3 rfl rfl fun a E=>lw E (qbW rfl) fun a E=>wn<|bd hF fun o150 hJ hF=>qaO (Q':=fun e a w=>e = .normal ∧ Ok u m116 ([(pb0,oc 130 [c121,c123,c126])] :: M124 :: M127 :: [(b146,oc 149 [vs x133.s,c144,vb x133.integer])] :: M118 :: M130 :: M62 :: S) w ∧ Env 136 a [(0,vp pb0),(3,vi v58),(4,c117),(5,c129),(7,vp b146),(8,vu o150),(27,c61),(28,(vi (v57.length:Int))),(29,vi v113)] ∧ InR .u64 o150) ?_ ?_
 ·have hF:=hJ
  refine cg E rfl hF (fun c152 hF=>?_) fun c152 hF=>?_
  ·refine wp_skip ?_
   cases hF
   exact ⟨rfl,⟨ok,E.keep [0,3,4,5,7,8,27,28,29],r149⟩⟩
  refine qac<|mv E rfl fun a E=>lw E (qiY .or (by decide) rfl rfl) fun a E=>av E rfl fun a E=>wpList_nil ?_
  cases hF
  exact ⟨rfl,⟨ok,E.keep [0,3,4,5,7,8,27,28,29],(qnu .or .u64 r147 9223372036854775808)⟩⟩
 intro e a w hO
 obtain ⟨rfl,ok,E,r153⟩:=hO
 refine qaa<|wp_seq<|bd hF fun o154 hJ hF=>qaO (Q':=fun e a w=>e = .normal ∧ ∃ m155 c156 c158 M159 c161 M162,m116.le m155 ∧ Ok u m155 ([(pb0,oc 130 [c156,c158,c161])] :: M159 :: M162 :: [(b146,oc 149 [vs x133.s,c144,vb x133.integer])] :: M118 :: M130 :: M62 :: S) w ∧ Env 136 a [(0,vp pb0),(3,vi v58),(4,c117),(5,c129),(7,vp b146),(27,c61),(28,(vi (v57.length:Int))),(29,vi v113)] ∧ (pL 4 qan) m155 [c156] o154.l ∧ ORow 137 2 qb7 m155 c158 o154.wholes M159 ∧ ORow 137 2 qb7 m155 c161 o154.fraction M162) ?_ ?_
 ·have hF:=hJ
  have le_m116:=Mem.le.refl m116
  obtain ⟨r164,e165,hF⟩:=bnd hF
  obtain rfl:=sj hF
  refine qaX [4,7] (Cls u m116 ([(pb0,oc 130 [c121,c123,c126])] :: M124 :: [(b146,oc 149 [vs x133.s,c144,vb x133.integer])] :: M118 :: M130 :: M62 :: [])) (Cls u m116 (M124 :: [(b146,oc 149 [vs x133.s,c144,vb x133.integer])] :: M118 :: M130 :: M62 :: [])) (by kernel_rfl) ?_
  intro w hw
  replace ok:=qa3 ok hw
  clear hw
  have h122_o:=h122
  have h145_o:=h145
  refine qag (cl1 (cq le_m116 ok [0,1,3,4,5,6] rfl) (cq le_m116 ok [1,3,4,5,6] rfl)) fun hT=>kt 0 E rfl hT (qah rfl) fun a E=>kt 1 E rfl hT (qah rfl) fun a E=>kt 2 E rfl hT (qa1 rfl) fun a E=>kt 3 E rfl hT (qae qkt rfl) fun a E=>qaU 4 E rfl (by kernel_rfl) nP hT (qai qiK rfl (qab.cown 0 rfl rfl)) rfl rfl fun a E=>kt 5 E rfl hT (qah rfl) fun a E=>kt 6 E rfl hT (qae qmm rfl) fun a E=>qaU 7 E rfl (by kernel_rfl) nP hT (qai qfH rfl (qab.cown 2 rfl rfl)) rfl rfl fun a E=>kt 8 E rfl hT (qaG (ps:=[(0,.tmp 47),(1,.tmp 49)]) (qs:=[(0,[vu o150]),(1,[vs x133.s])]) (cs:=[vu o150,vs x133.s]) qf9 qmr rfl ⟨rfl,rfl,rfl,⟨rfl,rfl,rfl,trivial⟩⟩ rfl) fun a E=>qar [9] (by kernel_rfl) rfl (qas ?_)
  ·refine qbM (o:=_) rfl ?_
   replace ok:Ok u m116 (M127 :: [(pb0,oc 130 [c121,c123,c126])] :: M124 :: [(b146,oc 149 [vs x133.s,c144,vb x133.integer])] :: M118 :: M130 :: M62 :: S) w:=(ok.pk 7 [2,0,1,3,4,5,6] rfl (by decide))
   refine qao E qsa rfl (qkw N _ v114.fraction h128 _ (Part.mk o150 x133.s) ⟨rfl,r153,l143⟩ e165 ok) rfl rfl ?_
   rintro _ w ⟨m170,c171,M172,rfl,hle,ok,h173⟩
   have le_m0:=le_m0.trans hle
   have le_m22:=le_m22.trans hle
   have le_m60:=le_m60.trans hle
   have le_m116:=le_m116.trans hle
   have h2:=(mL qad).up hle h2
   have h23:=(mL qbm).up hle h23
   have h63:=ORow.up qdT hle h63
   have h66:=(mL qad).up hle h66
   have h119:=ORow.up qdT hle h119
   have h122:=(mL qad).up hle h122
   have h125:=ORow.up qcu hle h125
   have h131:=OMap.up (qfW mB) hle h131
   have h145:=(mL qbm).up hle h145
   refine ⟨_,rfl,fun a E=>?_⟩
   refine wn<|qag (cl1 (cq le_m116 ok [1,2,3,4,5,6] rfl) (cq le_m116 ok [2,3,4,5,6] rfl)) fun hT=>kt 10 E rfl hT (qa1 rfl) fun a E=>kt 11 E rfl hT (qae qkt rfl) fun a E=>qar [12] (by kernel_rfl) rfl (qas ?_)
   ·refine wo rfl<|qaf E ok 1 rfl rfl rfl qpy (ORow.cells h173) rfl ⟨(ORow.one h173),trivial⟩ rfl rfl fun w ok=>wn<|qag (cl2 (by kernel_rfl) (cq le_m116 ok [2,3,4,5,6] rfl)) fun hT=>qaM (by kernel_rfl) ?_
    exact ⟨rfl,⟨m170,c121,c123,M124,c171,M172,le_m116,(ok.pk 7 [1,2,0,3,4,5,6] rfl (by decide)),E.keep [0,3,4,5,7,27,28,29],h122,h125,h173⟩⟩
 intro e a w hO
 obtain ⟨rfl,m174,c175,c177,M178,c180,M181,hle,ok,E,h176,h179,h182⟩:=hO
 have le_m0:=le_m0.trans hle
 have le_m22:=le_m22.trans hle
 have le_m60:=le_m60.trans hle
 have h2:=(mL qad).up hle h2
 have h23:=(mL qbm).up hle h23
 have h63:=ORow.up qdT hle h63
 have h66:=(mL qad).up hle h66
 have h119:=ORow.up qdT hle h119
 have h122:=(mL qad).up hle h122
 have h131:=OMap.up (qfW mB) hle h131
 have h145:=(mL qbm).up hle h145
 refine qaa<|sg<|mv E rfl fun a E=>wn<|wp_block<|bd hF fun o194 hL hF=>qaH _ (fun (s:(List (State)) × Int × (List (List UInt8 × Bool))) a w=>∃ m195 c196 M197 c200 M201,m174.le m195 ∧ Ok u m195 ([(pb0,oc 130 [c175,c177,c180])] :: M178 :: M181 :: [(b146,oc 149 [vs x133.s,c144,vb x133.integer])] :: M197 :: M201 :: M62 :: S) w ∧ Env 136 a [(0,vp pb0),(3,vi v58),(4,c196),(5,c200),(7,vp b146),(27,c61),(28,(vi (v57.length:Int))),(29,vi v113),(54,vi s.2.1)] ∧ ORow 149 3 qg3 m195 c196 s.1 M197 ∧ InR .i64 s.2.1 ∧ OMap kS (oneV pB) m195 c200 s.2.2 M201) (fun (b:((List (State)) × (List (List UInt8 × Bool)))) e a w=>e = (.exit 4) ∧ ∃ m482 c483 M484 c486 M487,m174.le m482 ∧ Ok u m482 ([(pb0,oc 130 [c175,c177,c180])] :: M178 :: M181 :: [(b146,oc 149 [vs x133.s,c144,vb x133.integer])] :: M484 :: M487 :: M62 :: S) w ∧ Env 136 a [(0,vp pb0),(3,vi v58),(4,c483),(5,c486),(27,c61),(28,(vi (v57.length:Int))),(29,vi v113)] ∧ ORow 149 3 qg3 m482 c483 b.1 M484 ∧ OMap kS (oneV pB) m482 c486 b.2 M487) ?_ ?_ N _ a w hL ⟨m174,c117,M118,c129,M130,Mem.le.refl _,ok,E.keep [0,3,4,5,7,27,28,29,54],h119,(ir 0),h131⟩
 rotate_left
 ·intro e a w _ hO
  obtain ⟨rfl,m475,c476,M477,c479,M480,hle,ok,E,h478,h481⟩:=hO
  have le_m0:=le_m0.trans hle
  have le_m22:=le_m22.trans hle
  have le_m60:=le_m60.trans hle
  have h2:=(mL qad).up hle h2
  have h23:=(mL qbm).up hle h23
  have h63:=ORow.up qdT hle h63
  have h66:=(mL qad).up hle h66
  have h122:=(mL qad).up hle h122
  have h145:=(mL qbm).up hle h145
  have h176:=(mL qad).up hle h176
  have h179:=ORow.up qcu hle h179
  have h182:=ORow.up qcu hle h182
  refine qaN<|qap<|qaa<|qac<|lw E (qaA rfl rfl (InR.inc r120 (ORow.InR h63) c132)) fun a E=>mv E rfl fun a E=>wpList_nil ?_
  cases hF
  exact qau ⟨m475,c476,M477,c175,c177,M178,c180,M181,c479,M480,le_m60,(ok.pk 7 [4,5,6,0,1,2] rfl (by decide)),E.keep [0,3,4,5,27,28,29],h478,(InR.inc r120 (ORow.InR h63) c132),h176,h179,h182,h481⟩
 rintro ⟨v203,v204,v205⟩ a w r ⟨m206,c207,M208,c211,M212,hle,ok,E,h209,r210,h213⟩ hF
 replace hF:qbi N x133 o154 v203 v204 v205 = some r:=hF
 unfold qbi at hF
 have le_m174:=Mem.le.refl m174
 have le_m0:=le_m0.trans hle
 have le_m22:=le_m22.trans hle
 have le_m60:=le_m60.trans hle
 have le_m174:=le_m174.trans hle
 have h2:=(mL qad).up hle h2
 have h23:=(mL qbm).up hle h23
 have h63:=ORow.up qdT hle h63
 have h66:=(mL qad).up hle h66
 have h122:=(mL qad).up hle h122
 have h145:=(mL qbm).up hle h145
 have h176:=(mL qad).up hle h176
 have h179:=ORow.up qcu hle h179
 have h182:=ORow.up qcu hle h182
 refine sg<|lw E (qaC rfl rfl) fun a E=>wn<|wp_seq<|cg E rfl hF (fun c214 hF=>?_) fun c214 hF=>?_
 ·refine wp_exit<|qaE ?_
  cases hF
  exact so (⟨rfl,⟨m206,c207,M208,c211,M212,le_m174,ok,E.keep [0,3,4,5,27,28,29],h209,h213⟩⟩)
 refine wp_skip<|qaa<|wp_seq<|wp_block<|sg<|mv E rfl fun a E=>av E rfl fun a E=>wn<|wp_seq<|bd hF fun o215 hJ hF=>qaO (Q':=fun e a w=>e = .normal ∧ ∃ b220 c217 M218,Ok u m206 ([(b220,oc 149 [vs o215.s,c217,vb o215.integer])] :: M218 :: [(pb0,oc 130 [c175,c177,c180])] :: M178 :: M181 :: [(b146,oc 149 [vs x133.s,c144,vb x133.integer])] :: M208 :: M212 :: M62 :: S) w ∧ Env 136 a [(0,vp pb0),(3,vi v58),(4,c207),(5,c211),(7,vp b146),(9,vi v204),(10,vp b220),(27,c61),(28,(vi (v57.length:Int))),(29,vi v113),(54,vi v204)] ∧ o215.s.length ≤ LIMS ∧ ORow 61 2 qbz m206 c217 o215.trackers M218) ?_ ?_
 rotate_left
 ·as_aux_lemma =>
   intro e a w hO
   obtain ⟨rfl,b288,c285,M286,ok,E,l284,h287⟩:=hO
   refine qaa<|sg<|fk E ok qj7 qdk rfl 0 rfl rfl fun a E=>bd hF fun r289 e290 hF=>qao E quC rfl (qkg N o215.integer e290 ok) rfl rfl ?_
   rintro _ w ⟨⟨rfl,ok⟩,l291⟩
   refine ⟨_,rfl,fun a E=>?_⟩
   refine aw E rfl fun a E=>wp_seq<|sg<|mv E rfl fun a E=>lw E (qa1 rfl) fun a E=>fk E ok qhQ qdJ rfl 2 rfl rfl fun a E=>lv E ok (qaz qbr h176 rfl) fun a E=>mv E rfl fun a E=>wn<|wp_block<|bd hF fun o300 hL hF=>qaH _ (fun (s:(List UInt8) × Int × State) a w=>∃ m301 c305 M306,m206.le m301 ∧ Ok u m301 ([(b288,oc 149 [vs s.2.2.s,c305,vb s.2.2.integer])] :: M306 :: [(pb0,oc 130 [c175,c177,c180])] :: M178 :: M181 :: [(b146,oc 149 [vs x133.s,c144,vb x133.integer])] :: M208 :: M212 :: M62 :: S) w ∧ Env 136 a [(0,vp pb0),(3,vi v58),(4,c207),(5,c211),(7,vp b146),(9,vi v204),(10,vp b288),(11,vs s.1),(27,c61),(28,(vi (v57.length:Int))),(29,vi v113),(54,vi v204),(81,c175),(82,(vi (o154.l.length:Int))),(83,vi s.2.1)] ∧ s.1.length ≤ LIMS ∧ InR .i64 s.2.1 ∧ s.2.2.s.length ≤ LIMS ∧ ORow 61 2 qbz m301 c305 s.2.2.trackers M306) (fun (b:(State × (List UInt8))) e a w=>e = (.exit 6) ∧ ∃ m469 c471 M472,m206.le m469 ∧ Ok u m469 ([(b288,oc 149 [vs b.1.s,c471,vb b.1.integer])] :: M472 :: [(pb0,oc 130 [c175,c177,c180])] :: M178 :: M181 :: [(b146,oc 149 [vs x133.s,c144,vb x133.integer])] :: M208 :: M212 :: M62 :: S) w ∧ Env 136 a [(0,vp pb0),(3,vi v58),(4,c207),(5,c211),(7,vp b146),(10,vp b288),(11,vs b.2),(27,c61),(28,(vi (v57.length:Int))),(29,vi v113),(54,vi v204)] ∧ b.1.s.length ≤ LIMS ∧ ORow 61 2 qbz m469 c471 b.1.trackers M472 ∧ b.2.length ≤ LIMS) ?_ ?_ N _ a w hL ⟨m206,c285,M286,Mem.le.refl _,ok,E.keep [0,3,4,5,7,9,10,11,27,28,29,54,81,82,83],l291,(ir 0),l284,h287⟩
   rotate_left
   ·as_aux_lemma =>
     intro e a w _ hO
     obtain ⟨rfl,m444,c446,M447,hle,ok,E,l445,h448,l449⟩:=hO
     have le_m0:=le_m0.trans hle
     have le_m22:=le_m22.trans hle
     have le_m60:=le_m60.trans hle
     have le_m174:=le_m174.trans hle
     have h2:=(mL qad).up hle h2
     have h23:=(mL qbm).up hle h23
     have h63:=ORow.up qdT hle h63
     have h66:=(mL qad).up hle h66
     have h122:=(mL qad).up hle h122
     have h145:=(mL qbm).up hle h145
     have h176:=(mL qad).up hle h176
     have h179:=ORow.up qcu hle h179
     have h182:=ORow.up qcu hle h182
     have h209:=ORow.up qdT hle h209
     have h213:=OMap.up (qfW mB) hle h213
     refine qaN<|qaa<|sg<|mz E rfl rfl fun a E=>?_
     obtain ⟨xv450,h451,yy452,yy453⟩:=qkm (P:=Tryd.prog) (mo:=.tmp 123) (ko:=.tmp 124) (zx:=(false:Bool)) ok 7 (qol Tryd.underlying9) Tryd.underlying151 h213 rfl (qay E rfl) (qay E rfl) ⟨rfl,l449⟩ qte qeo
     obtain rfl:=qqu h451
     refine lv E ok (yy452 _) fun a E=>lw E (qbW rfl) fun a E=>wn<|cg E rfl hF (fun c454 hF=>?_) fun c454 hF=>?_
     ·refine wp_skip<|qap<|qaa<|qac<|lw E (qaA rfl rfl (InR.inc r210 (ir 10) c214)) fun a E=>mv E rfl fun a E=>wpList_nil ?_
      cases hF
      exact qau ⟨m444,c207,M208,c211,M212,le_m174,(ok.pk 9 [2,3,4,5,6,7,8] rfl (by decide)),E.keep [0,3,4,5,7,27,28,29,54],h209,(InR.inc r210 (ir 10) c214),h213⟩
     refine sg<|mz E rfl rfl fun a E=>bd hF fun l455 e456 hF=>qgA (.inl rfl) E ok 7 (qol Tryd.underlying9) Tryd.underlying151 h213 rfl rfl rfl rfl ⟨rfl,l449⟩ qeo e456 rfl fun M457 w ok h458=>wn<|qac<|mv E rfl fun a E=>lv E ok (qaj (cs:=[vs o300.1.s,c446,vb o300.1.integer]) qpw rfl rfl (qab.own 0 rfl rfl)) fun a E=>?_
     obtain ⟨m459,hle,ok,hfz⟩:=(ok.frs 1 rfl).freeze
     have h460:=ORow.froz qbm h448 hle hfz (by decide)
     have le_m0:=le_m0.trans hle
     have le_m22:=le_m22.trans hle
     have le_m60:=le_m60.trans hle
     have le_m174:=le_m174.trans hle
     have h2:=(mL qad).up hle h2
     have h23:=(mL qbm).up hle h23
     have h63:=ORow.up qdT hle h63
     have h66:=(mL qad).up hle h66
     have h122:=(mL qad).up hle h122
     have h145:=(mL qbm).up hle h145
     have h176:=(mL qad).up hle h176
     have h179:=ORow.up qcu hle h179
     have h182:=ORow.up qcu hle h182
     have h209:=ORow.up qdT hle h209
     have h458:=OMap.up (qfW mB) hle h458
     refine qbH (R:=qg3) (xo:=[.tmp 130]) (xs:=([o300.1]:List (State))) E ok qlr qbF rfl ⟨⟨_,rfl,rfl,⟨_,rfl,l445,h460⟩⟩,trivial⟩ rfl rfl rfl rfl fun c461 M462 a w E ok h463=>bd hF fun l464 e465 hF=>qdn (R:=qg3) E ok 6 qdT qlr Tryd.underlying150 rfl h209 (qbP.ofRow h463 0 rfl ok) e465 ⟨_,qbF,rfl⟩ rfl rfl rfl rfl fun c466 M467 a w E ok h468=>av E rfl fun a E=>wpList_nil<|qap<|qaa<|qac<|lw E (qaA rfl rfl (InR.inc r210 (ir 10) c214)) fun a E=>mv E rfl fun a E=>wpList_nil ?_
     cases hF
     exact qau ⟨m459,c466,M467,c211,M457,le_m174,(ok.pk 9 [2,3,4,5,6,7,8] rfl (by decide)),E.keep [0,3,4,5,7,27,28,29,54],h468,(InR.inc r210 (ir 10) c214),h458⟩
   rintro ⟨v308,v309,v310⟩ a w r ⟨m311,c315,M316,hle,ok,E,l312,r313,l314,h317⟩ hF
   replace hF:qbh N x133 o154 v204 v308 v309 v310 = some r:=hF
   unfold qbh at hF
   have le_m206:=Mem.le.refl m206
   have le_m0:=le_m0.trans hle
   have le_m22:=le_m22.trans hle
   have le_m60:=le_m60.trans hle
   have le_m174:=le_m174.trans hle
   have le_m206:=le_m206.trans hle
   have h2:=(mL qad).up hle h2
   have h23:=(mL qbm).up hle h23
   have h63:=ORow.up qdT hle h63
   have h66:=(mL qad).up hle h66
   have h122:=(mL qad).up hle h122
   have h145:=(mL qbm).up hle h145
   have h176:=(mL qad).up hle h176
   have h179:=ORow.up qcu hle h179
   have h182:=ORow.up qcu hle h182
   have h209:=ORow.up qdT hle h209
   have h213:=OMap.up (qfW mB) hle h213
   refine sg<|lw E (qaC rfl rfl) fun a E=>wn<|wp_seq<|cg E rfl hF (fun c318 hF=>?_) fun c318 hF=>?_
   ·refine wp_exit<|qaE ?_
    cases hF
    exact so (⟨rfl,⟨m311,c315,M316,le_m206,ok,E.keep [0,3,4,5,7,10,11,27,28,29,54],l314,h317,l312⟩⟩)
   refine wp_skip<|qaa<|wp_seq<|wp_block<|sg<|mv E rfl fun a E=>?_
   obtain ⟨x319,e320,hF⟩:=bnd hF
   obtain ⟨b321,o322,es323,hl324,rr325,at326,yy327⟩:=ia E 81 83 qbr h176 e320
   obtain ⟨c330,rfl,r328,r329,h331⟩:=rr325
   refine lv E ok (yy327 _ _) fun a E=>lv E ok (qaj (cs:=[vi x319.Operand,vi x319.Mod,vb x319.Not,c330]) qbK rfl rfl (qab.ro at326)) fun a E=>qaw E ok qds rfl rfl fun b332 a w E ok=>av E rfl fun a E=>qaf E ok 0 rfl rfl rfl qgE rfl rfl ⟨rfl,rfl,rfl,(qa9 h331),trivial⟩ rfl rfl fun w ok=>wn<|wp_seq<|sg<|lv E ok (qaj (cs:=[vi x319.Operand,vi x319.Mod,vb x319.Not,c330]) qbK rfl rfl (qab.own 0 rfl rfl)) fun a E=>bd hF fun r333 e334 hF=>lc E qmD rfl (qfm N _ x319 ⟨_,rfl,r328,r329,h331⟩ e334 ok) fun w ok a E=>lw E (qbW rfl) fun a E=>wn<|bd hF fun o335 hJ hF=>qaO (Q':=fun e a w=>e = .normal ∧ ∃ m336 c338 M339,m311.le m336 ∧ Ok u m336 ([(b332,oc 54 [vi x319.Operand,vi x319.Mod,vb x319.Not,c330])] :: [(b288,oc 149 [vs o335.s,c338,vb o335.integer])] :: M339 :: [(pb0,oc 130 [c175,c177,c180])] :: M178 :: M181 :: [(b146,oc 149 [vs x133.s,c144,vb x133.integer])] :: M208 :: M212 :: M62 :: S) w ∧ Env 136 a [(0,vp pb0),(3,vi v58),(4,c207),(5,c211),(7,vp b146),(9,vi v204),(10,vp b288),(11,vs v308),(12,vi v309),(27,c61),(28,(vi (v57.length:Int))),(29,vi v113),(54,vi v204),(81,c175),(82,(vi (o154.l.length:Int))),(83,vi v309)] ∧ o335.s.length ≤ LIMS ∧ ORow 61 2 qbz m336 c338 o335.trackers M339) ?_ ?_
   rotate_left
   ·intro e a w hO
    obtain ⟨rfl,m401,c403,M404,hle,ok,E,l402,h405⟩:=hO
    have le_m0:=le_m0.trans hle
    have le_m22:=le_m22.trans hle
    have le_m60:=le_m60.trans hle
    have le_m174:=le_m174.trans hle
    have le_m206:=le_m206.trans hle
    have h2:=(mL qad).up hle h2
    have h23:=(mL qbm).up hle h23
    have h63:=ORow.up qdT hle h63
    have h66:=(mL qad).up hle h66
    have h122:=(mL qad).up hle h122
    have h145:=(mL qbm).up hle h145
    have h176:=(mL qad).up hle h176
    have h179:=ORow.up qcu hle h179
    have h182:=ORow.up qcu hle h182
    have h209:=ORow.up qdT hle h209
    have h213:=OMap.up (qfW mB) hle h213
    have h331:=(mL qdL).up hle h331
    have at326:=At.up hle at326
    refine qaa<|qee (by kernel_rfl) (by kernel_rfl) ok<|qv E (qah rfl) fun a E=>qv E (qae qiN rfl) fun a E=>qv E (qai qjw rfl (qab.own 1 rfl rfl)) fun a E=>qv E (qah rfl) fun a E=>?_
    obtain ⟨x406,e407,hF⟩:=bnd hF
    obtain ⟨b408,o409,hp410,yy411⟩:=qbf qer h405 e407 (P:=Tryd.prog) (X:=.tmp 105) (I:=.tmp 106) (kd:=.i64) (qay E rfl) (qay E rfl)
    refine qv E (yy411 _ _) fun a E=>qv E (qae qfB rfl) fun a E=>?_
    obtain ⟨es412,hl413,rr414,hh415⟩:=qbT h405 e407 hp410 (by decide)
    obtain ⟨rfl,r416,r417⟩:=rr414
    refine qv E (qai qam rfl (qab.sub 0 1 (hh415 _ _ _ 2 rfl))) fun a E=>?_
    obtain ⟨r418,e419,hF⟩:=bnd hF
    obtain ⟨_,_,⟨_,_⟩,l420⟩:=Go.X.Calls.get (qbt N x406.a r416 e419 hTb ok)
    refine qg0 E qgL rfl (fun w ok=>(qbt N x406.a r416 e419 hTb ok).mono (fun _ _ h=>h.1)) rfl rfl fun a E=>bd hF fun s421 e422 hF=>qv E (qfr rfl rfl e422) fun a E=>bd hF fun s423 e424 hF=>qv E (qfr rfl rfl e424) fun a E=>qv E (qae qiN rfl) fun a E=>qv E (qai qjw rfl (qab.own 1 rfl rfl)) fun a E=>qv E (qah rfl) fun a E=>?_
    obtain ⟨x425,e426,hF⟩:=bnd hF
    obtain ⟨b427,o428,hp429,yy430⟩:=qbf qer h405 e426 (P:=Tryd.prog) (X:=.tmp 114) (I:=.tmp 115) (kd:=.i64) (qay E rfl) (qay E rfl)
    refine qv E (yy430 _ _) fun a E=>qv E (qae qf3 rfl) fun a E=>?_
    obtain ⟨es431,hl432,rr433,hh434⟩:=qbT h405 e426 hp429 (by decide)
    obtain ⟨rfl,r435,r436⟩:=rr433
    refine qv E (qai qam rfl (qab.sub 1 1 (hh434 _ _ _ 2 rfl))) fun a E=>?_
    obtain ⟨r437,e438,hF⟩:=bnd hF
    obtain ⟨_,_,⟨_,_⟩,l439⟩:=Go.X.Calls.get (qbt N x425.b r436 e438 hTb ok)
    refine qg0 E qgL rfl (fun w ok=>(qbt N x425.b r436 e438 hTb ok).mono (fun _ _ h=>h.1)) rfl rfl fun a E=>bd hF fun s440 e441 hF=>qv E (qfr rfl rfl e441) fun a E=>bd hF fun s442 e443 hF=>qv E (qfr rfl rfl e443) fun a E=>qv E (qbY rfl) fun a E=>wpQuiet_nil ?_
    intro w ok
    refine qap<|qaa<|qac<|lw E (qaA rfl rfl (InR.inc r313 (qal h176) c318)) fun a E=>mv E rfl fun a E=>wpList_nil ?_
    cases hF
    exact qau ⟨m401,c403,M404,le_m206,(ok.pk 10 [1,2,3,4,5,6,7,8,9] rfl (by decide)),E.keep [0,3,4,5,7,9,10,11,27,28,29,54,81,82,83],(qew e443),(InR.inc r313 (qal h176) c318),l402,h405⟩
   have hF:=hJ
   have le_m311:=Mem.le.refl m311
   refine cg E rfl hF (fun c341 hF=>?_) fun c341 hF=>?_
   ·refine wp_skip ?_
    cases hF
    exact ⟨rfl,⟨m311,c315,M316,le_m311,ok,E.keep [0,3,4,5,7,9,10,11,12,27,28,29,54,81,82,83],l314,h317⟩⟩
   refine bd hF fun o342 hJ hF=>qaO (Q':=fun e a w=>e = .normal ∧ ∃ m343 c345 M346,m311.le m343 ∧ Ok u m343 ([(b332,oc 54 [vi x319.Operand,vi x319.Mod,vb x319.Not,c330])] :: [(b288,oc 149 [vs o342.s,c345,vb o342.integer])] :: M346 :: [(pb0,oc 130 [c175,c177,c180])] :: M178 :: M181 :: [(b146,oc 149 [vs x133.s,c144,vb x133.integer])] :: M208 :: M212 :: M62 :: S) w ∧ Env 136 a [(0,vp pb0),(3,vi v58),(4,c207),(5,c211),(7,vp b146),(9,vi v204),(10,vp b288),(11,vs v308),(12,vi v309),(27,c61),(28,(vi (v57.length:Int))),(29,vi v113),(54,vi v204),(81,c175),(82,(vi (o154.l.length:Int))),(83,vi v309)] ∧ o342.s.length ≤ LIMS ∧ ORow 61 2 qbz m343 c345 o342.trackers M346) ?_ ?_
   rotate_left
   ·intro e a w hO
    obtain ⟨rfl,m396,c398,M399,hle,ok,E,l397,h400⟩:=hO
    have le_m0:=le_m0.trans hle
    have le_m22:=le_m22.trans hle
    have le_m60:=le_m60.trans hle
    have le_m174:=le_m174.trans hle
    have le_m206:=le_m206.trans hle
    have le_m311:=le_m311.trans hle
    have h2:=(mL qad).up hle h2
    have h23:=(mL qbm).up hle h23
    have h63:=ORow.up qdT hle h63
    have h66:=(mL qad).up hle h66
    have h122:=(mL qad).up hle h122
    have h145:=(mL qbm).up hle h145
    have h176:=(mL qad).up hle h176
    have h179:=ORow.up qcu hle h179
    have h182:=ORow.up qcu hle h182
    have h209:=ORow.up qdT hle h209
    have h213:=OMap.up (qfW mB) hle h213
    have h331:=(mL qdL).up hle h331
    have at326:=At.up hle at326
    cases hF
    exact ⟨rfl,⟨m396,c398,M399,le_m311,ok,E.keep [0,3,4,5,7,9,10,11,12,27,28,29,54,81,82,83],l397,h400⟩⟩
   have hF:=hJ
   obtain ⟨x348,e349,hF⟩:=bnd hF
   obtain ⟨r359,e360,hF⟩:=bnd hF
   obtain ⟨x366,e367,hF⟩:=bnd hF
   obtain ⟨l372,e373,hF⟩:=bnd hF
   obtain rfl:=sj hF
   refine qaX [1,4,7,8] (Cls u m311 ([(b332,oc 54 [vi x319.Operand,vi x319.Mod,vb x319.Not,c330])] :: [(b288,oc 149 [vs v310.s,c315,vb v310.integer])] :: [(pb0,oc 130 [c175,c177,c180])] :: M178 :: M181 :: [(b146,oc 149 [vs x133.s,c144,vb x133.integer])] :: M208 :: M212 :: M62 :: [])) (Cls u m311 ([(b332,oc 54 [vi x319.Operand,vi x319.Mod,vb x319.Not,c330])] :: [(pb0,oc 130 [c175,c177,c180])] :: M178 :: M181 :: [(b146,oc 149 [vs x133.s,c144,vb x133.integer])] :: M208 :: M212 :: M62 :: [])) (by kernel_rfl) ?_
   intro w hw
   replace ok:=qa3 ok hw
   clear hw
   have h145_o:=h145
   have h331_o:=h331
   refine qag (cl1 (cq le_m311 ok [0,1,3,4,5,6,7,8,9] rfl) (cq le_m311 ok [0,3,4,5,6,7,8,9] rfl)) fun hT=>kt 0 E rfl hT (qae qiN rfl) fun a E=>qaU 1 E rfl (by kernel_rfl) nP hT (qai qjw rfl (qab.cown 1 rfl rfl)) rfl rfl fun a E=>kt 2 E rfl hT (qah rfl) fun a E=>kt 3 E rfl hT (qae qiN rfl) fun a E=>qaU 4 E rfl (by kernel_rfl) nP hT (qai qjw rfl (qab.cown 5 rfl rfl)) rfl rfl fun a E=>kt 5 E rfl hT (qah rfl) fun a E=>?_
   obtain ⟨b376,o377,es378,hl379,rr380,at381,yy382⟩:=ia E 95 96 qer h145 e349
   obtain ⟨rfl,r383,r384⟩:=rr380
   refine kt 6 E rfl hT (yy382 _ _) fun a E=>qaU 7 E rfl (by kernel_rfl) nP hT (qaj (cs:=[vi x348.a,vi x348.b]) qbS rfl rfl (qab.cro at381)) rfl rfl fun a E=>qaU 8 E rfl (by kernel_rfl) nP hT (qaj (cs:=[vi x319.Operand,vi x319.Mod,vb x319.Not,c330]) qbK rfl rfl (qab.cown 0 rfl rfl)) rfl rfl fun a E=>kt 9 E rfl hT (qah rfl) fun a E=>qar [10] (by kernel_rfl) rfl (qas ?_)
   ·refine wo rfl<|qao E qms rfl (qdX N _ x348 ⟨rfl,r383,r384⟩ _ x319 ⟨_,rfl,r328,r329,h331⟩ true v204 r210 e360 ok) rfl rfl ?_
    rintro _ w ⟨m385,vs386,rfl,hle,ok,h387⟩
    have le_m0:=le_m0.trans hle
    have le_m22:=le_m22.trans hle
    have le_m60:=le_m60.trans hle
    have le_m174:=le_m174.trans hle
    have le_m206:=le_m206.trans hle
    have le_m311:=le_m311.trans hle
    have h2:=(mL qad).up hle h2
    have h23:=(mL qbm).up hle h23
    have h63:=ORow.up qdT hle h63
    have h66:=(mL qad).up hle h66
    have h122:=(mL qad).up hle h122
    have h145:=(mL qbm).up hle h145
    have h176:=(mL qad).up hle h176
    have h179:=ORow.up qcu hle h179
    have h182:=ORow.up qcu hle h182
    have h209:=ORow.up qdT hle h209
    have h213:=OMap.up (qfW mB) hle h213
    have h317:=ORow.up qbm hle h317
    have h331:=(mL qdL).up hle h331
    have at326:=At.up hle at326
    have at381:=At.up hle at381
    obtain ⟨rfl,r388,r389⟩:=h387
    refine ⟨_,rfl,fun a E=>?_⟩
    refine wn<|qag (cl1 (cq le_m311 ok [0,1,3,4,5,6,7,8,9] rfl) (cq le_m311 ok [0,3,4,5,6,7,8,9] rfl)) fun hT=>?_
    obtain ⟨b390,o391,hp392,yy393⟩:=qbf qer h317 e367 (P:=Tryd.prog) (X:=.tmp 92) (I:=.tmp 93) (kd:=.i64) (qay E rfl) (qay E rfl)
    refine kt 11 E rfl hT (yy393 _ _) fun a E=>qar [12] (by kernel_rfl) rfl (qas ?_)
    ·refine wo rfl<|qcv (R:=qbz) E ok 2 rfl h317 e367 hp392 rfl rfl qeq rfl rfl rfl ⟨rfl,rfl,trivial⟩ ⟨rfl,r388,r389⟩ e373 rfl fun M394 w ok h395=>wn<|qag (cl2 (by kernel_rfl) (cq le_m311 ok [0,3,4,5,6,7,8,9] rfl)) fun hT=>qaM (by kernel_rfl) ?_
     exact ⟨rfl,⟨m385,c315,M394,le_m311,ok,E.keep [0,3,4,5,7,9,10,11,12,27,28,29,54,81,82,83],l314,h395⟩⟩
 have hF:=hJ
 obtain ⟨r221,e222,hF⟩:=bnd hF
 obtain ⟨s224,e225,hF⟩:=bnd hF
 refine bd hF fun l226 e227 hF=>qdv x133.integer (fun c231=>?_) (fun c231=>?_)
 ·as_aux_lemma =>
   have hF:=qdd c231 hF
   cases hF
   refine qaX [] (Cls u m206 ([(pb0,oc 130 [c175,c177,c180])] :: M178 :: M181 :: [(b146,oc 149 [vs x133.s,c144,vb x133.integer])] :: M208 :: M212 :: M62 :: [])) (Cls u m206 ([(pb0,oc 130 [c175,c177,c180])] :: M178 :: M181 :: [(b146,oc 149 [vs x133.s,c144,vb x133.integer])] :: M208 :: M212 :: M62 :: [])) (by kernel_rfl) ?_
   intro w hw
   replace ok:=qa3 ok hw
   clear hw
   have le_m206:=Mem.le.refl m206
   refine qag (cl1 (cq le_m206 ok [0,1,2,3,4,5,6] rfl) (cq le_m206 ok [0,1,2,3,4,5,6] rfl)) fun hT=>kt 0 E rfl hT (qae qmm rfl) fun a E=>kt 1 E rfl hT (qai qfH rfl (qab.cown 3 rfl rfl)) fun a E=>kt 2 E rfl hT (qah rfl) fun a E=>kt 5 E rfl hT (qah rfl) fun a E=>kt 6 E rfl hT (qa1 rfl) fun a E=>kt 7 E rfl hT (qae qhQ rfl) fun a E=>kt 8 E rfl hT (qai qdJ rfl (qab.cown 0 rfl rfl)) fun a E=>kt 9 E rfl hT (qaz qbr h176 rfl) fun a E=>kt 11 E rfl hT (qae qj7 rfl) fun a E=>kt 12 E rfl hT (qai qdk rfl (qab.cown 3 rfl rfl)) fun a E=>qar [3,10,18] (by kernel_rfl) rfl (qbA ?_ (qbA ?_ (qbA ?_ (qeA))))
   ·refine wo rfl<|qao E qgL rfl (qbt N v204 r210 e222 hTb ok) rfl rfl ?_
    rintro _ w ⟨⟨rfl,ok⟩,l233⟩
    refine ⟨_,rfl,fun a E=>?_⟩
    refine wn<|qag (cl1 (cq le_m206 ok [0,1,2,3,4,5,6] rfl) (cq le_m206 ok [0,1,2,3,4,5,6] rfl)) fun hT=>kt 4 E rfl hT (qfr rfl rfl e225) fun a E=>kt 13 E rfl hT (qah rfl) fun a E=>?_
    have E:=E.upd 70 c231 rfl
    refine kt 14 E rfl hT (qah rfl) fun a E=>kt 15 E rfl hT (qax rfl rfl) fun a E=>kt 16 E rfl hT (qbe rfl rfl) fun a E=>qar [10,18] (by kernel_rfl) rfl (qbA ?_ (qbA ?_ (qeA)))
    ·refine wo rfl<|qbR (R:=qbz) E ok qer qfb rfl ⟨rfl,(ir 0),(ir 0)⟩ rfl e227 rfl rfl fun c234 M235 a w E ok h236=>wn<|qag (cl1 (cq le_m206 ok [1,2,3,4,5,6,7] rfl) (cq le_m206 ok [1,2,3,4,5,6,7] rfl)) fun hT=>kt 17 E rfl hT (qaG (ps:=[(0,.tmp 61),(1,.tmp 67),(2,.tmp 73)]) (qs:=[(0,[vs s224]),(1,[c234]),(2,[(vb (v204 == 0))])]) (cs:=[vs s224,c234,(vb (v204 == 0))]) qbF qdo rfl ⟨rfl,rfl,rfl,⟨rfl,(ORow.cells h236),rfl,⟨rfl,rfl,rfl,trivial⟩⟩⟩ rfl) fun a E=>qar [18] (by kernel_rfl) rfl (qas ?_)
     ·refine wo rfl<|qaw E ok qbF rfl rfl fun b237 a w E ok=>wn<|qag (cl1 (cq le_m206 ok [2,3,4,5,6,7,8] rfl) (cq le_m206 ok [2,3,4,5,6,7,8] rfl)) fun hT=>qar [19] (by kernel_rfl) rfl (qas ?_)
      ·refine wo rfl<|qaf E ok 0 rfl rfl rfl qfc rfl rfl ⟨rfl,(ORow.one h236),rfl,trivial⟩ rfl rfl fun w ok=>wn<|qag (cl1 (cq le_m206 ok [2,3,4,5,6,7,8] rfl) (cq le_m206 ok [2,3,4,5,6,7,8] rfl)) fun hT=>qaM (by kernel_rfl) ?_
       exact ⟨rfl,⟨b237,c234,M235,ok,E.keep [0,3,4,5,7,9,10,27,28,29,54],(qew e225),h236⟩⟩
    refine wo rfl<|qaw E ok qbF rfl rfl fun b238 a w E ok=>wn<|qag (cl1 (cq le_m206 ok [1,2,3,4,5,6,7] rfl) (cq le_m206 ok [1,2,3,4,5,6,7] rfl)) fun hT=>qar [10] (by kernel_rfl) rfl (qas ?_)
    ·refine wo rfl<|qbR (R:=qbz) E ok qer qfb rfl ⟨rfl,(ir 0),(ir 0)⟩ rfl e227 rfl rfl fun c239 M240 a w E ok h241=>wn<|qag (cl1 (cq le_m206 ok [2,3,4,5,6,7,8] rfl) (cq le_m206 ok [2,3,4,5,6,7,8] rfl)) fun hT=>kt 17 E rfl hT (qaG (ps:=[(0,.tmp 61),(1,.tmp 67),(2,.tmp 73)]) (qs:=[(0,[vs s224]),(1,[c239]),(2,[(vb (v204 == 0))])]) (cs:=[vs s224,c239,(vb (v204 == 0))]) qbF qdo rfl ⟨rfl,rfl,rfl,⟨rfl,(ORow.cells h241),rfl,⟨rfl,rfl,rfl,trivial⟩⟩⟩ rfl) fun a E=>qar [19] (by kernel_rfl) rfl (qas ?_)
     ·refine wo rfl<|qaf E ok 1 rfl rfl rfl qfc rfl rfl ⟨rfl,(ORow.one h241),rfl,trivial⟩ rfl rfl fun w ok=>wn<|qag (cl1 (cq le_m206 ok [2,3,4,5,6,7,8] rfl) (cq le_m206 ok [2,3,4,5,6,7,8] rfl)) fun hT=>qaM (by kernel_rfl) ?_
      exact ⟨rfl,⟨b238,c239,M240,(ok.pk 9 [1,0,2,3,4,5,6,7,8] rfl (by decide)),E.keep [0,3,4,5,7,9,10,27,28,29,54],(qew e225),h241⟩⟩
   ·refine wo rfl<|qbR (R:=qbz) E ok qer qfb rfl ⟨rfl,(ir 0),(ir 0)⟩ rfl e227 rfl rfl fun c242 M243 a w E ok h244=>wn<|qag (cl1 (cq le_m206 ok [1,2,3,4,5,6,7] rfl) (cq le_m206 ok [1,2,3,4,5,6,7] rfl)) fun hT=>qar [3,18] (by kernel_rfl) rfl (qbA ?_ (qbA ?_ (qeA)))
    ·refine wo rfl<|qao E qgL rfl (qbt N v204 r210 e222 hTb ok) rfl rfl ?_
     rintro _ w ⟨⟨rfl,ok⟩,l245⟩
     refine ⟨_,rfl,fun a E=>?_⟩
     refine wn<|qag (cl1 (cq le_m206 ok [1,2,3,4,5,6,7] rfl) (cq le_m206 ok [1,2,3,4,5,6,7] rfl)) fun hT=>kt 4 E rfl hT (qfr rfl rfl e225) fun a E=>kt 13 E rfl hT (qah rfl) fun a E=>?_
     have E:=E.upd 70 c231 rfl
     refine kt 14 E rfl hT (qah rfl) fun a E=>kt 15 E rfl hT (qax rfl rfl) fun a E=>kt 16 E rfl hT (qbe rfl rfl) fun a E=>kt 17 E rfl hT (qaG (ps:=[(0,.tmp 61),(1,.tmp 67),(2,.tmp 73)]) (qs:=[(0,[vs s224]),(1,[c242]),(2,[(vb (v204 == 0))])]) (cs:=[vs s224,c242,(vb (v204 == 0))]) qbF qdo rfl ⟨rfl,rfl,rfl,⟨rfl,(ORow.cells h244),rfl,⟨rfl,rfl,rfl,trivial⟩⟩⟩ rfl) fun a E=>qar [18] (by kernel_rfl) rfl (qas ?_)
     ·refine wo rfl<|qaw E ok qbF rfl rfl fun b246 a w E ok=>wn<|qag (cl1 (cq le_m206 ok [2,3,4,5,6,7,8] rfl) (cq le_m206 ok [2,3,4,5,6,7,8] rfl)) fun hT=>qar [19] (by kernel_rfl) rfl (qas ?_)
      ·refine wo rfl<|qaf E ok 0 rfl rfl rfl qfc rfl rfl ⟨rfl,(ORow.one h244),rfl,trivial⟩ rfl rfl fun w ok=>wn<|qag (cl1 (cq le_m206 ok [2,3,4,5,6,7,8] rfl) (cq le_m206 ok [2,3,4,5,6,7,8] rfl)) fun hT=>qaM (by kernel_rfl) ?_
       exact ⟨rfl,⟨b246,c242,M243,ok,E.keep [0,3,4,5,7,9,10,27,28,29,54],(qew e225),h244⟩⟩
    refine wo rfl<|qaw E ok qbF rfl rfl fun b247 a w E ok=>wn<|qag (cl1 (cq le_m206 ok [2,3,4,5,6,7,8] rfl) (cq le_m206 ok [2,3,4,5,6,7,8] rfl)) fun hT=>qar [3] (by kernel_rfl) rfl (qas ?_)
    ·refine wo rfl<|qao E qgL rfl (qbt N v204 r210 e222 hTb ok) rfl rfl ?_
     rintro _ w ⟨⟨rfl,ok⟩,l248⟩
     refine ⟨_,rfl,fun a E=>?_⟩
     refine wn<|qag (cl1 (cq le_m206 ok [2,3,4,5,6,7,8] rfl) (cq le_m206 ok [2,3,4,5,6,7,8] rfl)) fun hT=>kt 4 E rfl hT (qfr rfl rfl e225) fun a E=>kt 13 E rfl hT (qah rfl) fun a E=>?_
     have E:=E.upd 70 c231 rfl
     refine kt 14 E rfl hT (qah rfl) fun a E=>kt 15 E rfl hT (qax rfl rfl) fun a E=>kt 16 E rfl hT (qbe rfl rfl) fun a E=>kt 17 E rfl hT (qaG (ps:=[(0,.tmp 61),(1,.tmp 67),(2,.tmp 73)]) (qs:=[(0,[vs s224]),(1,[c242]),(2,[(vb (v204 == 0))])]) (cs:=[vs s224,c242,(vb (v204 == 0))]) qbF qdo rfl ⟨rfl,rfl,rfl,⟨rfl,(ORow.cells h244),rfl,⟨rfl,rfl,rfl,trivial⟩⟩⟩ rfl) fun a E=>qar [19] (by kernel_rfl) rfl (qas ?_)
     ·refine wo rfl<|qaf E ok 0 rfl rfl rfl qfc rfl rfl ⟨rfl,(ORow.one h244),rfl,trivial⟩ rfl rfl fun w ok=>wn<|qag (cl1 (cq le_m206 ok [2,3,4,5,6,7,8] rfl) (cq le_m206 ok [2,3,4,5,6,7,8] rfl)) fun hT=>qaM (by kernel_rfl) ?_
      exact ⟨rfl,⟨b247,c242,M243,ok,E.keep [0,3,4,5,7,9,10,27,28,29,54],(qew e225),h244⟩⟩
   refine wo rfl<|qaw E ok qbF rfl rfl fun b249 a w E ok=>wn<|qag (cl1 (cq le_m206 ok [1,2,3,4,5,6,7] rfl) (cq le_m206 ok [1,2,3,4,5,6,7] rfl)) fun hT=>qar [3,10] (by kernel_rfl) rfl (qbA ?_ (qbA ?_ (qeA)))
   ·refine wo rfl<|qao E qgL rfl (qbt N v204 r210 e222 hTb ok) rfl rfl ?_
    rintro _ w ⟨⟨rfl,ok⟩,l250⟩
    refine ⟨_,rfl,fun a E=>?_⟩
    refine wn<|qag (cl1 (cq le_m206 ok [1,2,3,4,5,6,7] rfl) (cq le_m206 ok [1,2,3,4,5,6,7] rfl)) fun hT=>kt 4 E rfl hT (qfr rfl rfl e225) fun a E=>kt 13 E rfl hT (qah rfl) fun a E=>?_
    have E:=E.upd 70 c231 rfl
    refine kt 14 E rfl hT (qah rfl) fun a E=>kt 15 E rfl hT (qax rfl rfl) fun a E=>kt 16 E rfl hT (qbe rfl rfl) fun a E=>qar [10] (by kernel_rfl) rfl (qas ?_)
    ·refine wo rfl<|qbR (R:=qbz) E ok qer qfb rfl ⟨rfl,(ir 0),(ir 0)⟩ rfl e227 rfl rfl fun c251 M252 a w E ok h253=>wn<|qag (cl1 (cq le_m206 ok [2,3,4,5,6,7,8] rfl) (cq le_m206 ok [2,3,4,5,6,7,8] rfl)) fun hT=>kt 17 E rfl hT (qaG (ps:=[(0,.tmp 61),(1,.tmp 67),(2,.tmp 73)]) (qs:=[(0,[vs s224]),(1,[c251]),(2,[(vb (v204 == 0))])]) (cs:=[vs s224,c251,(vb (v204 == 0))]) qbF qdo rfl ⟨rfl,rfl,rfl,⟨rfl,(ORow.cells h253),rfl,⟨rfl,rfl,rfl,trivial⟩⟩⟩ rfl) fun a E=>qar [19] (by kernel_rfl) rfl (qas ?_)
     ·refine wo rfl<|qaf E ok 1 rfl rfl rfl qfc rfl rfl ⟨rfl,(ORow.one h253),rfl,trivial⟩ rfl rfl fun w ok=>wn<|qag (cl1 (cq le_m206 ok [2,3,4,5,6,7,8] rfl) (cq le_m206 ok [2,3,4,5,6,7,8] rfl)) fun hT=>qaM (by kernel_rfl) ?_
      exact ⟨rfl,⟨b249,c251,M252,(ok.pk 9 [1,0,2,3,4,5,6,7,8] rfl (by decide)),E.keep [0,3,4,5,7,9,10,27,28,29,54],(qew e225),h253⟩⟩
   refine wo rfl<|qbR (R:=qbz) E ok qer qfb rfl ⟨rfl,(ir 0),(ir 0)⟩ rfl e227 rfl rfl fun c254 M255 a w E ok h256=>wn<|qag (cl1 (cq le_m206 ok [2,3,4,5,6,7,8] rfl) (cq le_m206 ok [2,3,4,5,6,7,8] rfl)) fun hT=>qar [3] (by kernel_rfl) rfl (qas ?_)
   ·refine wo rfl<|qao E qgL rfl (qbt N v204 r210 e222 hTb ok) rfl rfl ?_
    rintro _ w ⟨⟨rfl,ok⟩,l257⟩
    refine ⟨_,rfl,fun a E=>?_⟩
    refine wn<|qag (cl1 (cq le_m206 ok [2,3,4,5,6,7,8] rfl) (cq le_m206 ok [2,3,4,5,6,7,8] rfl)) fun hT=>kt 4 E rfl hT (qfr rfl rfl e225) fun a E=>kt 13 E rfl hT (qah rfl) fun a E=>?_
    have E:=E.upd 70 c231 rfl
    refine kt 14 E rfl hT (qah rfl) fun a E=>kt 15 E rfl hT (qax rfl rfl) fun a E=>kt 16 E rfl hT (qbe rfl rfl) fun a E=>kt 17 E rfl hT (qaG (ps:=[(0,.tmp 61),(1,.tmp 67),(2,.tmp 73)]) (qs:=[(0,[vs s224]),(1,[c254]),(2,[(vb (v204 == 0))])]) (cs:=[vs s224,c254,(vb (v204 == 0))]) qbF qdo rfl ⟨rfl,rfl,rfl,⟨rfl,(ORow.cells h256),rfl,⟨rfl,rfl,rfl,trivial⟩⟩⟩ rfl) fun a E=>qar [19] (by kernel_rfl) rfl (qas ?_)
    ·refine wo rfl<|qaf E ok 1 rfl rfl rfl qfc rfl rfl ⟨rfl,(ORow.one h256),rfl,trivial⟩ rfl rfl fun w ok=>wn<|qag (cl1 (cq le_m206 ok [2,3,4,5,6,7,8] rfl) (cq le_m206 ok [2,3,4,5,6,7,8] rfl)) fun hT=>qaM (by kernel_rfl) ?_
     exact ⟨rfl,⟨b249,c254,M255,(ok.pk 9 [1,0,2,3,4,5,6,7,8] rfl (by decide)),E.keep [0,3,4,5,7,9,10,27,28,29,54],(qew e225),h256⟩⟩
 have hF:=qdc c231 hF
 cases hF
 refine qaX [] (Cls u m206 ([(pb0,oc 130 [c175,c177,c180])] :: M178 :: M181 :: [(b146,oc 149 [vs x133.s,c144,vb x133.integer])] :: M208 :: M212 :: M62 :: [])) (Cls u m206 ([(pb0,oc 130 [c175,c177,c180])] :: M178 :: M181 :: [(b146,oc 149 [vs x133.s,c144,vb x133.integer])] :: M208 :: M212 :: M62 :: [])) (by kernel_rfl) ?_
 intro w hw
 replace ok:=qa3 ok hw
 clear hw
 have le_m206:=Mem.le.refl m206
 refine qag (cl1 (cq le_m206 ok [0,1,2,3,4,5,6] rfl) (cq le_m206 ok [0,1,2,3,4,5,6] rfl)) fun hT=>kt 0 E rfl hT (qae qmm rfl) fun a E=>kt 1 E rfl hT (qai qfH rfl (qab.cown 3 rfl rfl)) fun a E=>kt 2 E rfl hT (qah rfl) fun a E=>kt 5 E rfl hT (qah rfl) fun a E=>kt 6 E rfl hT (qa1 rfl) fun a E=>kt 7 E rfl hT (qae qhQ rfl) fun a E=>kt 8 E rfl hT (qai qdJ rfl (qab.cown 0 rfl rfl)) fun a E=>kt 9 E rfl hT (qaz qbr h176 rfl) fun a E=>kt 11 E rfl hT (qae qj7 rfl) fun a E=>kt 12 E rfl hT (qai qdk rfl (qab.cown 3 rfl rfl)) fun a E=>qar [3,10,18] (by kernel_rfl) rfl (qbA ?_ (qbA ?_ (qbA ?_ (qeA))))
 ·refine wo rfl<|qao E qgL rfl (qbt N v204 r210 e222 hTb ok) rfl rfl ?_
  rintro _ w ⟨⟨rfl,ok⟩,l259⟩
  refine ⟨_,rfl,fun a E=>?_⟩
  refine wn<|qag (cl1 (cq le_m206 ok [0,1,2,3,4,5,6] rfl) (cq le_m206 ok [0,1,2,3,4,5,6] rfl)) fun hT=>kt 4 E rfl hT (qfr rfl rfl e225) fun a E=>kt 13 E rfl hT (qah rfl) fun a E=>?_
  have E:=E.upd 70 c231 rfl
  refine qat 14 false E rfl (by kernel_rfl) nP hT rfl rfl fun a E=>qat 15 false E rfl (by kernel_rfl) nP hT rfl rfl fun a E=>kt 16 E rfl hT (qa5 rfl rfl) fun a E=>qar [10,18] (by kernel_rfl) rfl (qbA ?_ (qbA ?_ (qeA)))
  ·refine wo rfl<|qbR (R:=qbz) E ok qer qfb rfl ⟨rfl,(ir 0),(ir 0)⟩ rfl e227 rfl rfl fun c260 M261 a w E ok h262=>wn<|qag (cl1 (cq le_m206 ok [1,2,3,4,5,6,7] rfl) (cq le_m206 ok [1,2,3,4,5,6,7] rfl)) fun hT=>kt 17 E rfl hT (qaG (ps:=[(0,.tmp 61),(1,.tmp 67),(2,.tmp 73)]) (qs:=[(0,[vs s224]),(1,[c260]),(2,[vb false])]) (cs:=[vs s224,c260,vb false]) qbF qdo rfl ⟨rfl,rfl,rfl,⟨rfl,(ORow.cells h262),rfl,⟨rfl,rfl,rfl,trivial⟩⟩⟩ rfl) fun a E=>qar [18] (by kernel_rfl) rfl (qas ?_)
   ·refine wo rfl<|qaw E ok qbF rfl rfl fun b263 a w E ok=>wn<|qag (cl1 (cq le_m206 ok [2,3,4,5,6,7,8] rfl) (cq le_m206 ok [2,3,4,5,6,7,8] rfl)) fun hT=>qar [19] (by kernel_rfl) rfl (qas ?_)
    ·refine wo rfl<|qaf E ok 0 rfl rfl rfl qfc rfl rfl ⟨rfl,(ORow.one h262),rfl,trivial⟩ rfl rfl fun w ok=>wn<|qag (cl1 (cq le_m206 ok [2,3,4,5,6,7,8] rfl) (cq le_m206 ok [2,3,4,5,6,7,8] rfl)) fun hT=>qaM (by kernel_rfl) ?_
     exact ⟨rfl,⟨b263,c260,M261,ok,E.keep [0,3,4,5,7,9,10,27,28,29,54],(qew e225),h262⟩⟩
  refine wo rfl<|qaw E ok qbF rfl rfl fun b264 a w E ok=>wn<|qag (cl1 (cq le_m206 ok [1,2,3,4,5,6,7] rfl) (cq le_m206 ok [1,2,3,4,5,6,7] rfl)) fun hT=>qar [10] (by kernel_rfl) rfl (qas ?_)
  ·refine wo rfl<|qbR (R:=qbz) E ok qer qfb rfl ⟨rfl,(ir 0),(ir 0)⟩ rfl e227 rfl rfl fun c265 M266 a w E ok h267=>wn<|qag (cl1 (cq le_m206 ok [2,3,4,5,6,7,8] rfl) (cq le_m206 ok [2,3,4,5,6,7,8] rfl)) fun hT=>kt 17 E rfl hT (qaG (ps:=[(0,.tmp 61),(1,.tmp 67),(2,.tmp 73)]) (qs:=[(0,[vs s224]),(1,[c265]),(2,[vb false])]) (cs:=[vs s224,c265,vb false]) qbF qdo rfl ⟨rfl,rfl,rfl,⟨rfl,(ORow.cells h267),rfl,⟨rfl,rfl,rfl,trivial⟩⟩⟩ rfl) fun a E=>qar [19] (by kernel_rfl) rfl (qas ?_)
   ·refine wo rfl<|qaf E ok 1 rfl rfl rfl qfc rfl rfl ⟨rfl,(ORow.one h267),rfl,trivial⟩ rfl rfl fun w ok=>wn<|qag (cl1 (cq le_m206 ok [2,3,4,5,6,7,8] rfl) (cq le_m206 ok [2,3,4,5,6,7,8] rfl)) fun hT=>qaM (by kernel_rfl) ?_
    exact ⟨rfl,⟨b264,c265,M266,(ok.pk 9 [1,0,2,3,4,5,6,7,8] rfl (by decide)),E.keep [0,3,4,5,7,9,10,27,28,29,54],(qew e225),h267⟩⟩
 ·refine wo rfl<|qbR (R:=qbz) E ok qer qfb rfl ⟨rfl,(ir 0),(ir 0)⟩ rfl e227 rfl rfl fun c268 M269 a w E ok h270=>wn<|qag (cl1 (cq le_m206 ok [1,2,3,4,5,6,7] rfl) (cq le_m206 ok [1,2,3,4,5,6,7] rfl)) fun hT=>qar [3,18] (by kernel_rfl) rfl (qbA ?_ (qbA ?_ (qeA)))
  ·refine wo rfl<|qao E qgL rfl (qbt N v204 r210 e222 hTb ok) rfl rfl ?_
   rintro _ w ⟨⟨rfl,ok⟩,l271⟩
   refine ⟨_,rfl,fun a E=>?_⟩
   refine wn<|qag (cl1 (cq le_m206 ok [1,2,3,4,5,6,7] rfl) (cq le_m206 ok [1,2,3,4,5,6,7] rfl)) fun hT=>kt 4 E rfl hT (qfr rfl rfl e225) fun a E=>kt 13 E rfl hT (qah rfl) fun a E=>?_
   have E:=E.upd 70 c231 rfl
   refine qat 14 false E rfl (by kernel_rfl) nP hT rfl rfl fun a E=>qat 15 false E rfl (by kernel_rfl) nP hT rfl rfl fun a E=>kt 16 E rfl hT (qa5 rfl rfl) fun a E=>kt 17 E rfl hT (qaG (ps:=[(0,.tmp 61),(1,.tmp 67),(2,.tmp 73)]) (qs:=[(0,[vs s224]),(1,[c268]),(2,[vb false])]) (cs:=[vs s224,c268,vb false]) qbF qdo rfl ⟨rfl,rfl,rfl,⟨rfl,(ORow.cells h270),rfl,⟨rfl,rfl,rfl,trivial⟩⟩⟩ rfl) fun a E=>qar [18] (by kernel_rfl) rfl (qas ?_)
   ·refine wo rfl<|qaw E ok qbF rfl rfl fun b272 a w E ok=>wn<|qag (cl1 (cq le_m206 ok [2,3,4,5,6,7,8] rfl) (cq le_m206 ok [2,3,4,5,6,7,8] rfl)) fun hT=>qar [19] (by kernel_rfl) rfl (qas ?_)
    ·refine wo rfl<|qaf E ok 0 rfl rfl rfl qfc rfl rfl ⟨rfl,(ORow.one h270),rfl,trivial⟩ rfl rfl fun w ok=>wn<|qag (cl1 (cq le_m206 ok [2,3,4,5,6,7,8] rfl) (cq le_m206 ok [2,3,4,5,6,7,8] rfl)) fun hT=>qaM (by kernel_rfl) ?_
     exact ⟨rfl,⟨b272,c268,M269,ok,E.keep [0,3,4,5,7,9,10,27,28,29,54],(qew e225),h270⟩⟩
  refine wo rfl<|qaw E ok qbF rfl rfl fun b273 a w E ok=>wn<|qag (cl1 (cq le_m206 ok [2,3,4,5,6,7,8] rfl) (cq le_m206 ok [2,3,4,5,6,7,8] rfl)) fun hT=>qar [3] (by kernel_rfl) rfl (qas ?_)
  ·refine wo rfl<|qao E qgL rfl (qbt N v204 r210 e222 hTb ok) rfl rfl ?_
   rintro _ w ⟨⟨rfl,ok⟩,l274⟩
   refine ⟨_,rfl,fun a E=>?_⟩
   refine wn<|qag (cl1 (cq le_m206 ok [2,3,4,5,6,7,8] rfl) (cq le_m206 ok [2,3,4,5,6,7,8] rfl)) fun hT=>kt 4 E rfl hT (qfr rfl rfl e225) fun a E=>kt 13 E rfl hT (qah rfl) fun a E=>?_
   have E:=E.upd 70 c231 rfl
   refine qat 14 false E rfl (by kernel_rfl) nP hT rfl rfl fun a E=>qat 15 false E rfl (by kernel_rfl) nP hT rfl rfl fun a E=>kt 16 E rfl hT (qa5 rfl rfl) fun a E=>kt 17 E rfl hT (qaG (ps:=[(0,.tmp 61),(1,.tmp 67),(2,.tmp 73)]) (qs:=[(0,[vs s224]),(1,[c268]),(2,[vb false])]) (cs:=[vs s224,c268,vb false]) qbF qdo rfl ⟨rfl,rfl,rfl,⟨rfl,(ORow.cells h270),rfl,⟨rfl,rfl,rfl,trivial⟩⟩⟩ rfl) fun a E=>qar [19] (by kernel_rfl) rfl (qas ?_)
   ·refine wo rfl<|qaf E ok 0 rfl rfl rfl qfc rfl rfl ⟨rfl,(ORow.one h270),rfl,trivial⟩ rfl rfl fun w ok=>wn<|qag (cl1 (cq le_m206 ok [2,3,4,5,6,7,8] rfl) (cq le_m206 ok [2,3,4,5,6,7,8] rfl)) fun hT=>qaM (by kernel_rfl) ?_
    exact ⟨rfl,⟨b273,c268,M269,ok,E.keep [0,3,4,5,7,9,10,27,28,29,54],(qew e225),h270⟩⟩
 refine wo rfl<|qaw E ok qbF rfl rfl fun b275 a w E ok=>wn<|qag (cl1 (cq le_m206 ok [1,2,3,4,5,6,7] rfl) (cq le_m206 ok [1,2,3,4,5,6,7] rfl)) fun hT=>qar [3,10] (by kernel_rfl) rfl (qbA ?_ (qbA ?_ (qeA)))
 ·refine wo rfl<|qao E qgL rfl (qbt N v204 r210 e222 hTb ok) rfl rfl ?_
  rintro _ w ⟨⟨rfl,ok⟩,l276⟩
  refine ⟨_,rfl,fun a E=>?_⟩
  refine wn<|qag (cl1 (cq le_m206 ok [1,2,3,4,5,6,7] rfl) (cq le_m206 ok [1,2,3,4,5,6,7] rfl)) fun hT=>kt 4 E rfl hT (qfr rfl rfl e225) fun a E=>kt 13 E rfl hT (qah rfl) fun a E=>?_
  have E:=E.upd 70 c231 rfl
  refine qat 14 false E rfl (by kernel_rfl) nP hT rfl rfl fun a E=>qat 15 false E rfl (by kernel_rfl) nP hT rfl rfl fun a E=>kt 16 E rfl hT (qa5 rfl rfl) fun a E=>qar [10] (by kernel_rfl) rfl (qas ?_)
  ·refine wo rfl<|qbR (R:=qbz) E ok qer qfb rfl ⟨rfl,(ir 0),(ir 0)⟩ rfl e227 rfl rfl fun c277 M278 a w E ok h279=>wn<|qag (cl1 (cq le_m206 ok [2,3,4,5,6,7,8] rfl) (cq le_m206 ok [2,3,4,5,6,7,8] rfl)) fun hT=>kt 17 E rfl hT (qaG (ps:=[(0,.tmp 61),(1,.tmp 67),(2,.tmp 73)]) (qs:=[(0,[vs s224]),(1,[c277]),(2,[vb false])]) (cs:=[vs s224,c277,vb false]) qbF qdo rfl ⟨rfl,rfl,rfl,⟨rfl,(ORow.cells h279),rfl,⟨rfl,rfl,rfl,trivial⟩⟩⟩ rfl) fun a E=>qar [19] (by kernel_rfl) rfl (qas ?_)
   ·refine wo rfl<|qaf E ok 1 rfl rfl rfl qfc rfl rfl ⟨rfl,(ORow.one h279),rfl,trivial⟩ rfl rfl fun w ok=>wn<|qag (cl1 (cq le_m206 ok [2,3,4,5,6,7,8] rfl) (cq le_m206 ok [2,3,4,5,6,7,8] rfl)) fun hT=>qaM (by kernel_rfl) ?_
    exact ⟨rfl,⟨b275,c277,M278,(ok.pk 9 [1,0,2,3,4,5,6,7,8] rfl (by decide)),E.keep [0,3,4,5,7,9,10,27,28,29,54],(qew e225),h279⟩⟩
 refine wo rfl<|qbR (R:=qbz) E ok qer qfb rfl ⟨rfl,(ir 0),(ir 0)⟩ rfl e227 rfl rfl fun c280 M281 a w E ok h282=>wn<|qag (cl1 (cq le_m206 ok [2,3,4,5,6,7,8] rfl) (cq le_m206 ok [2,3,4,5,6,7,8] rfl)) fun hT=>qar [3] (by kernel_rfl) rfl (qas ?_)
 ·refine wo rfl<|qao E qgL rfl (qbt N v204 r210 e222 hTb ok) rfl rfl ?_
  rintro _ w ⟨⟨rfl,ok⟩,l283⟩
  refine ⟨_,rfl,fun a E=>?_⟩
  refine wn<|qag (cl1 (cq le_m206 ok [2,3,4,5,6,7,8] rfl) (cq le_m206 ok [2,3,4,5,6,7,8] rfl)) fun hT=>kt 4 E rfl hT (qfr rfl rfl e225) fun a E=>kt 13 E rfl hT (qah rfl) fun a E=>?_
  have E:=E.upd 70 c231 rfl
  refine qat 14 false E rfl (by kernel_rfl) nP hT rfl rfl fun a E=>qat 15 false E rfl (by kernel_rfl) nP hT rfl rfl fun a E=>kt 16 E rfl hT (qa5 rfl rfl) fun a E=>kt 17 E rfl hT (qaG (ps:=[(0,.tmp 61),(1,.tmp 67),(2,.tmp 73)]) (qs:=[(0,[vs s224]),(1,[c280]),(2,[vb false])]) (cs:=[vs s224,c280,vb false]) qbF qdo rfl ⟨rfl,rfl,rfl,⟨rfl,(ORow.cells h282),rfl,⟨rfl,rfl,rfl,trivial⟩⟩⟩ rfl) fun a E=>qar [19] (by kernel_rfl) rfl (qas ?_)
  ·refine wo rfl<|qaf E ok 1 rfl rfl rfl qfc rfl rfl ⟨rfl,(ORow.one h282),rfl,trivial⟩ rfl rfl fun w ok=>wn<|qag (cl1 (cq le_m206 ok [2,3,4,5,6,7,8] rfl) (cq le_m206 ok [2,3,4,5,6,7,8] rfl)) fun hT=>qaM (by kernel_rfl) ?_
   exact ⟨rfl,⟨b275,c280,M281,(ok.pk 9 [1,0,2,3,4,5,6,7,8] rfl (by decide)),E.keep [0,3,4,5,7,9,10,27,28,29,54],(qew e225),h282⟩⟩
def qkC (u:World) (m0:Mem) (S:Segs) (r:(Option (qak))) (a:Act) (w:World):Prop :=
 ∃ m1 v0,m0.le m1 ∧ Ok u m1 (S) w ∧ a.defers = [] ∧ RVs Tryd.prog a w [.t 2 v0] ∧ (pP 3 qeR) m1 [v0] r
theorem qhM (N:Nat) (vl_0:Value) (l_0:List (Relation)) (hl_0:(pL 4 qan) m0 [vl_0] l_0) {r:(Option (qak))} (hF:qel N l_0 = some r) (hTb:Tab u) (ok:Ok u m0 (S) w) :
  Calls Tryd.prog 51 [vl_0].toArray w fun e w'=>∃ m1 v0,e = .returned v0 ∧ m0.le m1 ∧ Ok u m1 (S) w' ∧ (pP 3 qeR) m1 [v0] r:=by
 have le_m0:=Mem.le.refl m0
 unfold qel at hF
 refine en (qkC u m0 S) r Tryd.func51 rfl rfl rfl (fun _ _ h=>rc h fun _=>rfl) fun fin a E=>sg<|aw E rfl fun a E=>sg<|mv E rfl fun a E=>lw E (qaG (ps:=[(0,.tmp 9)]) (qs:=[(0,[vl_0])]) (cs:=[vl_0,(Value.slice none 0 0),(Value.slice none 0 0)]) qrx qp0 rfl ⟨rfl,(qcj hl_0),rfl,trivial⟩ rfl) fun a E=>qbQ E ok rfl rfl rfl fun b1 a w E ok=>aw E rfl fun a E=>wp_seq<|sg<|mv E rfl fun a E=>wn<|wp_block ?_
 obtain ⟨M12,ok,h13⟩:=qd1 (e:=137) (k:=2) (R:=qb7) ok
 obtain ⟨M14,ok,h15⟩:=qd1 (e:=137) (k:=2) (R:=qb7) ok
 refine bd hF fun o16 hL hF=>qaH _ (fun (s:Int × qak) a w=>∃ m17 c19 c21 M22 c24 M25,m0.le m17 ∧ Ok u m17 (M25 :: M22 :: [(b1,oc 130 [c19,c21,c24])] :: S) w ∧ Env 54 a [(0,vl_0),(3,vp b1),(12,vi s.1)] ∧ InR .i64 s.1 ∧ (pL 4 qan) m17 [c19] s.2.l ∧ ORow 137 2 qb7 m17 c21 s.2.wholes M22 ∧ ORow 137 2 qb7 m17 c24 s.2.fraction M25) (fun (b:qak) e a w=>e = (.exit 0) ∧ ∃ m166 c167 c169 M170 c172 M173,m0.le m166 ∧ Ok u m166 (M173 :: M170 :: [(b1,oc 130 [c167,c169,c172])] :: S) w ∧ Env 54 a [(3,vp b1)] ∧ (pL 4 qan) m166 [c167] b.l ∧ ORow 137 2 qb7 m166 c169 b.wholes M170 ∧ ORow 137 2 qb7 m166 c172 b.fraction M173) ?_ ?_ N _ a w hL ⟨m0,vl_0,(Value.slice none 0 0),M12,(Value.slice none 0 0),M14,Mem.le.refl _,ok,E.keep [0,3,12],(ir 0),hl_0,h13,h15⟩
 rotate_left
 ·intro e a w _ hO
  obtain ⟨rfl,m140,c141,c143,M144,c146,M147,hle,ok,E,h142,h145,h148⟩:=hO
  have le_m0:=le_m0.trans hle
  have hl_0:=(mL qad).up hle hl_0
  refine qaN<|qaa<|sg<|mv E rfl fun a E=>?_
  obtain ⟨r149,e150,hF⟩:=bnd hF
  replace ok:Ok u m140 ([(b1,oc 130 [c141,c143,c146])] :: M144 :: M147 :: S) w:=(ok.pk 3 [2,1,0] rfl (by decide))
  refine qao E qt2 rfl (qii N o16 h142 h145 h148 e150 hTb ok) rfl rfl ?_
  rintro _ w ⟨m151,c152,c154,M155,c157,M158,rfl,hle,ok,h153,h156,h159⟩
  have le_m0:=le_m0.trans hle
  have hl_0:=(mL qad).up hle hl_0
  have h142:=(mL qad).up hle h142
  refine ⟨_,rfl,fun a E=>?_⟩
  refine wn<|sg<|mv E rfl fun a E=>aw E rfl fun a E=>wp_ret ?_
  obtain ⟨m160,hle,ok,hfz⟩:=(ok.frs 1 rfl).freeze
  have h161:=ORow.froz qcu h156 hle hfz (by decide)
  have le_m0:=le_m0.trans hle
  have hl_0:=(mL qad).up hle hl_0
  have h142:=(mL qad).up hle h142
  have h153:=(mL qad).up hle h153
  have h159:=ORow.up qcu hle h159
  obtain ⟨m162,hle,ok,hfz⟩:=(ok.frs 1 rfl).freeze
  have h163:=ORow.froz qcu h159 hle hfz (by decide)
  have le_m0:=le_m0.trans hle
  have hl_0:=(mL qad).up hle hl_0
  have h142:=(mL qad).up hle h142
  have h153:=(mL qad).up hle h153
  have h161:=(mL qcu).up hle h161
  have hbx:=(show qeR m162 [c152,c154,c157] r149 from ⟨_,_,_,rfl,h153,h161,h163⟩)
  obtain ⟨m164,hle,ok,hfz⟩:=(ok.frs 0 rfl).freeze
  have h165:=qtb ql9 hbx hle hfz rfl
  clear hbx
  have le_m0:=le_m0.trans hle
  have hl_0:=(mL qad).up hle hl_0
  have h142:=(mL qad).up hle h142
  have h153:=(mL qad).up hle h153
  have h161:=(mL qcu).up hle h161
  have h163:=(mL qcu).up hle h163
  exact fin hF ⟨m164,vp b1,le_m0,ok,E.d,rz E rfl,h165⟩
 rintro ⟨v27,v28⟩ a w r ⟨m29,c31,c33,M34,c36,M37,hle,ok,E,r30,h32,h35,h38⟩ hF
 replace hF:qcd N l_0 v27 v28 = some r:=hF
 unfold qcd at hF
 have le_m0:=le_m0.trans hle
 have hl_0:=(mL qad).up hle hl_0
 refine sg<|lw E (qaC rfl rfl) fun a E=>wn<|wp_seq<|cg E rfl hF (fun c39 hF=>?_) fun c39 hF=>?_
 ·refine wp_exit<|qaE ?_
  cases hF
  exact so (⟨rfl,⟨m29,c31,c33,M34,c36,M37,le_m0,ok,E.keep [3],h32,h35,h38⟩⟩)
 refine wp_skip<|qaa<|wp_seq<|wp_block<|sg<|mv E rfl fun a E=>av E rfl fun a E=>wn<|sg<|mv E rfl fun a E=>bd hF fun r40 e41 hF=>qao E qgL rfl (qbt N v27 r30 e41 hTb ok) rfl rfl ?_
 rintro _ w ⟨⟨rfl,ok⟩,l42⟩
 refine ⟨_,rfl,fun a E=>?_⟩
 refine aw E rfl fun a E=>sg<|mv E rfl fun a E=>lv E ok (qaz qbr hl_0 rfl) fun a E=>bd hF fun l43 e44 hF=>qbR (R:=qbz) E ok qer qfb rfl ⟨rfl,(ir 0),(ir 0)⟩ rfl e44 rfl rfl fun c45 M46 a w E ok h47=>aw E rfl fun a E=>wp_seq<|sg<|mv E rfl fun a E=>lv E ok (qaz qbr hl_0 rfl) fun a E=>mv E rfl fun a E=>wn<|wp_block<|bd hF fun o53 hL hF=>qaH _ (fun (s:Int × (List (Tracker))) a w=>∃ c55 M56,Ok u m29 (M56 :: M37 :: M34 :: [(b1,oc 130 [c31,c33,c36])] :: S) w ∧ Env 54 a [(0,vl_0),(3,vp b1),(4,vi v27),(5,vs r40),(6,c55),(12,vi v27),(20,vl_0),(21,(vi (l_0.length:Int))),(22,vi s.1)] ∧ InR .i64 s.1 ∧ ORow 61 2 qbz m29 c55 s.2 M56) (fun (b:((List (Tracker)))) e a w=>e = (.exit 2) ∧ ∃ c137 M138,Ok u m29 (M138 :: M37 :: M34 :: [(b1,oc 130 [c31,c33,c36])] :: S) w ∧ Env 54 a [(0,vl_0),(3,vp b1),(5,vs r40),(6,c137),(12,vi v27)] ∧ ORow 61 2 qbz m29 c137 b M138) ?_ ?_ N _ a w hL ⟨c45,M46,ok,E.keep [0,3,4,5,6,12,20,21,22],(ir 0),h47⟩
 ·rintro ⟨v58,v59⟩ a w r ⟨c61,M62,ok,E,r60,h63⟩ hF
  replace hF:qbZ N l_0 v27 v58 v59 = some r:=hF
  unfold qbZ at hF
  refine sg<|lw E (qaC rfl rfl) fun a E=>wn<|wp_seq<|cg E rfl hF (fun c64 hF=>?_) fun c64 hF=>?_
  ·refine wp_exit<|qaE ?_
   cases hF
   exact so (⟨rfl,⟨c61,M62,ok,E.keep [0,3,5,6,12],h63⟩⟩)
  refine wp_skip<|qaa<|wp_seq<|wp_block<|sg<|mv E rfl fun a E=>?_
  obtain ⟨x65,e66,hF⟩:=bnd hF
  obtain ⟨b67,o68,es69,hl70,rr71,at72,yy73⟩:=ia E 20 22 qbr hl_0 e66
  obtain ⟨c76,rfl,r74,r75,h77⟩:=rr71
  refine lv E ok (yy73 _ _) fun a E=>lv E ok (qaj (cs:=[vi x65.Operand,vi x65.Mod,vb x65.Not,c76]) qbK rfl rfl (qab.ro at72)) fun a E=>qaw E ok qds rfl rfl fun b78 a w E ok=>av E rfl fun a E=>qaf E ok 0 rfl rfl rfl qgE rfl rfl ⟨rfl,rfl,rfl,(qa9 h77),trivial⟩ rfl rfl fun w ok=>wn<|sg<|lv E ok (qaj (cs:=[vi x65.Operand,vi x65.Mod,vb x65.Not,c76]) qbK rfl rfl (qab.own 0 rfl rfl)) fun a E=>bd hF fun r79 e80 hF=>lc E qmD rfl (qfm N _ x65 ⟨_,rfl,r74,r75,h77⟩ e80 ok) fun w ok a E=>wn<|cg E rfl hF (fun c81 hF=>?_) fun c81 hF=>?_
  ·refine wp_skip<|qap<|qaa<|qac<|lw E (qaA rfl rfl (InR.inc r60 (qal hl_0) c64)) fun a E=>mv E rfl fun a E=>wpList_nil ?_
   cases hF
   exact qau ⟨c61,M62,(ok.pk 5 [1,2,3,4] rfl (by decide)),E.keep [0,3,4,5,6,12,20,21,22],(InR.inc r60 (qal hl_0) c64),h63⟩
  refine qac<|mz E rfl rfl fun a E=>lv E ok (qaj (cs:=[vi x65.Operand,vi x65.Mod,vb x65.Not,c76]) qbK rfl rfl (qab.own 0 rfl rfl)) fun a E=>mv E rfl fun a E=>bd hF fun r82 e83 hF=>qao E qnY rfl (qgc N _ x65 ⟨_,rfl,r74,r75,h77⟩ v27 r30 e83 ok) rfl rfl ?_
  rintro _ w ⟨⟨rfl,ok⟩,r84⟩
  refine ⟨_,rfl,fun a E=>?_⟩
  obtain ⟨x85,e86,hF⟩:=bnd hF
  obtain ⟨b87,o88,hp89,yy90⟩:=qbf qer h63 e86 (P:=Tryd.prog) (X:=.tmp 29) (I:=.tmp 30) (kd:=.i64) (qay E rfl) (qay E rfl)
  refine lv E ok (yy90 _ _) fun a E=>fv E qfB rfl fun a E=>bd hF fun l93 e94 hF=>qo8 (R:=qbz) (f:=0) E ok 1 rfl h63 e86 hp89 rfl rfl rfl qbp rfl rfl rfl ⟨rfl,trivial⟩ (fun es _ h=>by obtain ⟨rfl,r91,r92⟩:=h; exact ⟨rfl,r84,r92⟩) e94 rfl fun M95 w ok h96=>wpList_nil<|qap<|qaa<|qac<|lw E (qaA rfl rfl (InR.inc r60 (qal hl_0) c64)) fun a E=>mv E rfl fun a E=>wpList_nil ?_
  cases hF
  exact qau ⟨c61,M95,(ok.pk 5 [1,2,3,4] rfl (by decide)),E.keep [0,3,4,5,6,12,20,21,22],(InR.inc r60 (qal hl_0) c64),h96⟩
 intro e a w _ hO
 obtain ⟨rfl,c97,M98,ok,E,h99⟩:=hO
 refine qaN<|qaa<|bd hF fun o100 hJ hF=>qaO (Q':=fun e a w=>e = .normal ∧ ∃ m101 c102 c104 M105 c107 M108,m29.le m101 ∧ Ok u m101 (M108 :: M105 :: [(b1,oc 130 [c102,c104,c107])] :: S) w ∧ Env 54 a [(0,vl_0),(3,vp b1),(12,vi v27)] ∧ (pL 4 qan) m101 [c102] o100.l ∧ ORow 137 2 qb7 m101 c104 o100.wholes M105 ∧ ORow 137 2 qb7 m101 c107 o100.fraction M108) ?_ ?_
 rotate_left
 ·intro e a w hO
  obtain ⟨rfl,m128,c129,c131,M132,c134,M135,hle,ok,E,h130,h133,h136⟩:=hO
  have le_m0:=le_m0.trans hle
  have hl_0:=(mL qad).up hle hl_0
  have h32:=(mL qad).up hle h32
  refine qap<|qaa<|qac<|lw E (qaA rfl rfl (InR.inc r30 (ir 1000) c39)) fun a E=>mv E rfl fun a E=>wpList_nil ?_
  cases hF
  exact qau ⟨m128,c129,c131,M132,c134,M135,le_m0,ok,E.keep [0,3,12],(InR.inc r30 (ir 1000) c39),h130,h133,h136⟩
 have hF:=hJ
 have le_m29:=Mem.le.refl m29
 obtain ⟨r112,e113,hF⟩:=bnd hF
 obtain ⟨r115,e116,hF⟩:=bnd hF
 obtain rfl:=sj hF
 refine qaX [4] (Cls u m29 (M37 :: [(b1,oc 130 [c31,c33,c36])] :: [])) (Cls u m29 (M37 :: [])) (by kernel_rfl) ?_
 intro w hw
 replace ok:=qa3 ok hw
 clear hw
 have h32_o:=h32
 refine qag (cl1 (cq le_m29 ok [1,3] rfl) (cq le_m29 ok [1] rfl)) fun hT=>kt 0 E rfl hT (qah rfl) fun a E=>kt 1 E rfl hT (qah rfl) fun a E=>kt 2 E rfl hT (qa1 rfl) fun a E=>kt 3 E rfl hT (qae qkf rfl) fun a E=>qaU 4 E rfl (by kernel_rfl) nP hT (qai qiK rfl (qab.cown 1 rfl rfl)) rfl rfl fun a E=>kt 5 E rfl hT (qah rfl) fun a E=>kt 6 E rfl hT (qah rfl) fun a E=>kt 8 E rfl hT (qah rfl) fun a E=>qar [7] (by kernel_rfl) rfl (qas ?_)
 ·refine qbM (o:=_) rfl ?_
  obtain ⟨m121,hle,ok,hfz⟩:=(ok.frs 0 rfl).freeze
  have h122:=ORow.froz qbm h99 hle hfz (by decide)
  have le_m0:=le_m0.trans hle
  have le_m29:=le_m29.trans hle
  have hl_0:=(mL qad).up hle hl_0
  have h32:=(mL qad).up hle h32
  have h35:=ORow.up qcu hle h35
  have h38:=ORow.up qcu hle h38
  replace ok:Ok u m121 ([(b1,oc 130 [c31,c33,c36])] :: M34 :: M37 :: S) w:=(ok.pk 3 [2,1,0] rfl (by decide))
  refine qao E qsc rfl (qhr N false _ o53 h122 v28 h32 h35 h38 e113 ok) rfl rfl ?_
  rintro _ w ⟨⟨rfl,ok⟩,r123⟩
  refine ⟨_,rfl,fun a E=>?_⟩
  refine wn<|qag (cl1 (cq le_m29 ok [2,0] rfl) (cq le_m29 ok [2] rfl)) fun hT=>kt 9 E rfl hT (qaG (ps:=[(0,.tmp 44),(1,.tmp 45)]) (qs:=[(0,[vu r112]),(1,[vs r40])]) (cs:=[vu r112,vs r40]) qf9 qmr rfl ⟨rfl,rfl,rfl,⟨rfl,rfl,rfl,trivial⟩⟩ rfl) fun a E=>qar [10] (by kernel_rfl) rfl (qas ?_)
  ·refine qbM (o:=_) rfl ?_
   replace ok:Ok u m121 (M34 :: [(b1,oc 130 [c31,c33,c36])] :: M37 :: S) w:=(ok.pk 3 [1,0,2] rfl (by decide))
   refine qao E qsa rfl (qkw N _ v28.wholes h35 _ (Part.mk r112 r40) ⟨rfl,r123,l42⟩ e116 ok) rfl rfl ?_
   rintro _ w ⟨m124,c125,M126,rfl,hle,ok,h127⟩
   have le_m0:=le_m0.trans hle
   have le_m29:=le_m29.trans hle
   have hl_0:=(mL qad).up hle hl_0
   have h32:=(mL qad).up hle h32
   have h38:=ORow.up qcu hle h38
   have h122:=(mL qbm).up hle h122
   refine ⟨_,rfl,fun a E=>?_⟩
   refine wn<|qag (cl1 (cq le_m29 ok [2,1] rfl) (cq le_m29 ok [2] rfl)) fun hT=>kt 11 E rfl hT (qa1 rfl) fun a E=>kt 12 E rfl hT (qae qkf rfl) fun a E=>qar [13] (by kernel_rfl) rfl (qas ?_)
   ·refine wo rfl<|qaf E ok 1 rfl rfl rfl qpy (ORow.cells h127) rfl ⟨(ORow.one h127),trivial⟩ rfl rfl fun w ok=>wn<|qag (cl2 (by kernel_rfl) (cq le_m29 ok [2] rfl)) fun hT=>qaM (by kernel_rfl) ?_
    exact ⟨rfl,⟨m124,c31,c125,M126,c36,M37,le_m29,(ok.pk 3 [2,0,1] rfl (by decide)),E.keep [0,3,12],h32,h127,h38⟩⟩
def qjs (u:World) (m0:Mem) (S:Segs) (r:Bool) (a:Act) (w:World):Prop :=
 Ok u m0 S w ∧ a.defers = [] ∧ RVs Tryd.prog a w [.t 8 (.bool r)]
theorem qjq (N:Nat) (vx_0:Value) (x_0:Option (qak)) (hx_0:(pP 3 qeR) m0 [vx_0] x_0) (vw_1:List Value) (w_1:Part) (hw_1:qb7 m0 vw_1 w_1) (vf_2:List Value) (f_2:Part) (hf_2:qb7 m0 vf_2 f_2) (i_3:Int) (ri_3:InR .i64 i_3) {r:Bool} (hF:qea N x_0 w_1 f_2 i_3 = some r) (ok:Ok u m0 S w) :
  Calls Tryd.prog 77 [vx_0,.agg vw_1.toArray,.agg vf_2.toArray,vi i_3].toArray w fun e w'=>(e = .returned (.bool r) ∧ Ok u m0 S w'):=by
 obtain ⟨rfl,r1,l2⟩:=hw_1
 obtain ⟨rfl,r3,l4⟩:=hf_2
 unfold qea at hF
 refine en (qjs u m0 S) r Tryd.func77 rfl rfl rfl (fun _ _ h=>ra h rfl) fun fin a E=>sg<|qbQ E ok rfl rfl rfl fun b5 a w E ok=>qbQ E ok rfl rfl rfl fun b6 a w E ok=>aw E rfl fun a E=>sg<|mv E rfl fun a E=>?_
 obtain ⟨y7,e8,hF⟩:=bnd hF
 obtain ⟨b9,o10,es11,hv12,hl13,hR14,at15⟩:=qjz hx_0 e8
 obtain ⟨c16,c18,c20,rfl,h17,h19,h21⟩:=hR14
 refine lv E ok (qg9 hv12 rfl) fun a E=>fv E qhQ rfl fun a E=>lv E ok (qai qdJ rfl (qab.ro (At.sub 0 1 at15))) fun a E=>mv E rfl fun a E=>?_
 obtain ⟨x22,e23,hF⟩:=bnd hF
 obtain ⟨b24,o25,es26,hl27,rr28,at29,yy30⟩:=ia E 13 14 qbr h17 e23
 obtain ⟨c33,rfl,r31,r32,h34⟩:=rr28
 refine lv E ok (yy30 _ _) fun a E=>lv E ok (qaj (cs:=[vi x22.Operand,vi x22.Mod,vb x22.Not,c33]) qbK rfl rfl (qab.ro at29)) fun a E=>qaw E ok qds rfl rfl fun b35 a w E ok=>qaf E ok 0 rfl rfl rfl qgE rfl rfl ⟨rfl,rfl,rfl,(qa9 h34),trivial⟩ rfl rfl fun w ok=>wn<|wp_seq<|wp_block<|sg<|fk E ok qa6 qam rfl 0 rfl rfl fun a E=>lw E (qax rfl rfl) fun a E=>mv E rfl fun a E=>bw E 21 hF (fun c36 hF E=>?_) fun c36 hF E=>?_
 ·refine lsz E fun a E=>pf E rfl rfl fun a E=>aw E rfl fun a E=>c_if E rfl (fun h=>by cases h) (fun _=>?_)
  refine sg<|lv E ok (qaj (cs:=[vi x22.Operand,vi x22.Mod,vb x22.Not,c33]) qbK rfl rfl (qab.own 0 rfl rfl)) fun a E=>bd hF fun r45 e46 hF=>lc E qmD rfl (qfm N _ x22 ⟨_,rfl,r31,r32,h34⟩ e46 ok) fun w ok a E=>aw E rfl fun a E=>cf E rfl hF (fun c47 hF=>?_) fun c47 hF=>?_
  ·refine sg<|fk E ok qhh qhR rfl 2 rfl rfl fun a E=>mv E rfl fun a E=>bd hF fun q48 e49 hF=>lw E (qn8 rfl rfl e49) fun a E=>lw E (qiY .and (by decide) rfl rfl) fun a E=>lw E (qax rfl rfl) fun a E=>aw E rfl fun a E=>wp_ret<|qaI<|qav ?_
   exact fin hF ⟨ok.drop.drop.drop,E.d,rz E rfl⟩
  refine wp_skip<|qap<|qaa<|sg<|fk E ok qhh qhR rfl 1 rfl rfl fun a E=>mv E rfl fun a E=>bd hF fun q50 e51 hF=>lw E (qn8 rfl rfl e51) fun a E=>lw E (qiY .and (by decide) rfl rfl) fun a E=>lw E (qax rfl rfl) fun a E=>aw E rfl fun a E=>wp_ret ?_
  exact fin hF ⟨ok.drop.drop.drop,E.d,rz E rfl⟩
 refine fk E ok qhh qhR rfl 1 rfl rfl fun a E=>lw E (qiY .and (by decide) rfl rfl) fun a E=>lw E (qd5 rfl rfl) fun a E=>pt E rfl rfl fun a E=>aw E rfl fun a E=>cf E rfl hF (fun c37 hF=>?_) fun c37 hF=>?_
 ·refine sg<|fk E ok qho qdk rfl 0 rfl rfl fun a E=>aw E rfl fun a E=>wp_ret<|qaI<|qav ?_
  exact fin hF ⟨ok.drop.drop.drop,E.d,rz E rfl⟩
 refine sg<|lv E ok (qaj (cs:=[vi x22.Operand,vi x22.Mod,vb x22.Not,c33]) qbK rfl rfl (qab.own 0 rfl rfl)) fun a E=>bd hF fun r38 e39 hF=>lc E qmD rfl (qfm N _ x22 ⟨_,rfl,r31,r32,h34⟩ e39 ok) fun w ok a E=>aw E rfl fun a E=>cf E rfl hF (fun c40 hF=>?_) fun c40 hF=>?_
 ·refine sg<|fk E ok qhh qhR rfl 2 rfl rfl fun a E=>mv E rfl fun a E=>bd hF fun q41 e42 hF=>lw E (qn8 rfl rfl e42) fun a E=>lw E (qiY .and (by decide) rfl rfl) fun a E=>lw E (qax rfl rfl) fun a E=>aw E rfl fun a E=>wp_ret<|qaI<|qav ?_
  exact fin hF ⟨ok.drop.drop.drop,E.d,rz E rfl⟩
 refine wp_skip<|qap<|qaa<|sg<|fk E ok qhh qhR rfl 1 rfl rfl fun a E=>mv E rfl fun a E=>bd hF fun q43 e44 hF=>lw E (qn8 rfl rfl e44) fun a E=>lw E (qiY .and (by decide) rfl rfl) fun a E=>lw E (qax rfl rfl) fun a E=>aw E rfl fun a E=>wp_ret ?_
 exact fin hF ⟨ok.drop.drop.drop,E.d,rz E rfl⟩
def qi0 (u:World) (m0:Mem) (S:Segs) (pb0:Nat) (pb1:Nat) (pb2:Nat) (x0:Option (qak)) (c1:Value) (x1:Part) (x2:Part) (r:Bool) (a:Act) (w:World):Prop :=
 Ok u m0 ([(pb0,oc 106 [c1])] :: [(pb1,oc 137 [vu x1.bits,vs x1.text])] :: [(pb2,oc 137 [vu x2.bits,vs x2.text])] :: S) w ∧ a.defers = [] ∧ RVs Tryd.prog a w [.t 5 (.bool r)]
theorem qi3 (N:Nat) (i_0:Int) (ri_0:InR .i64 i_0) {pb0:Nat} {c1:Value} (x0:Option (qak)) (h2:(pP 3 qeR) m0 [c1] x0) {pb1:Nat} (x1:Part) (r3:InR .u64 x1.bits) (l4:x1.text.length ≤ LIMS) {pb2:Nat} (x2:Part) (r5:InR .u64 x2.bits) (l6:x2.text.length ≤ LIMS) {r:Bool} (hF:qez N i_0 x0 x1 x2 = some r) (ok:Ok u m0 ([(pb0,oc 106 [c1])] :: [(pb1,oc 137 [vu x1.bits,vs x1.text])] :: [(pb2,oc 137 [vu x2.bits,vs x2.text])] :: S) w) :
  Calls Tryd.prog 76 [vi i_0,vp pb0,vp pb1,vp pb2].toArray w fun e w'=>(e = .returned (.bool r) ∧ Ok u m0 ([(pb0,oc 106 [c1])] :: [(pb1,oc 137 [vu x1.bits,vs x1.text])] :: [(pb2,oc 137 [vu x2.bits,vs x2.text])] :: S) w'):=by
 unfold qez at hF
 refine en (qi0 u m0 S pb0 pb1 pb2 x0 c1 x1 x2) r Tryd.func76 rfl rfl rfl (fun _ _ h=>ra h rfl) fun fin a E=>sg<|aw E rfl fun a E=>sg<|ld E ok qjv 0 rfl rfl rfl fun a E=>lv E ok (qaj (cs:=[vu x1.bits,vs x1.text]) qhu rfl rfl (qab.own 1 rfl rfl)) fun a E=>lv E ok (qaj (cs:=[vu x2.bits,vs x2.text]) qhu rfl rfl (qab.own 2 rfl rfl)) fun a E=>mv E rfl fun a E=>bd hF fun r7 e8 hF=>lc E quF rfl (qjq N _ x0 h2 _ x1 ⟨rfl,r3,l4⟩ _ x2 ⟨rfl,r5,l6⟩ i_0 ri_0 e8 ok) fun w ok a E=>aw E rfl fun a E=>wp_ret ?_
 exact fin hF ⟨ok,E.d,rz E rfl⟩
def qkA (u:World) (m0:Mem) (S:Segs) (pb0:Nat) (pb1:Nat) (pb2:Nat) (pb3:Nat) (pb4:Nat) (pb5:Nat) (x1:List (Int)) (c1:Value) (M2:List (Nat × Obj)) (x2:Int) (x3:Option (qak)) (c5:Value) (x4:Part) (x5:Part) (r:Bool) (a:Act) (w:World):Prop :=
 Ok u m0 ([(pb0,oc 69 [(Value.func (.func 76) #[] #[.pointer (some ⟨pb3,0,none⟩),.pointer (some ⟨pb4,0,none⟩),.pointer (some ⟨pb5,0,none⟩)])])] :: [(pb1,oc 83 [c1])] :: M2 :: [(pb2,oc 3 [vi x2])] :: [(pb3,oc 106 [c5])] :: [(pb4,oc 137 [vu x4.bits,vs x4.text])] :: [(pb5,oc 137 [vu x5.bits,vs x5.text])] :: S) w ∧ a.defers = [] ∧ RVs Tryd.prog a w [.t 5 (.bool r)]
theorem qkL (N:Nat) (k_0:Int) (rk_0:InR .i64 k_0) {pb0:Nat} {pb1:Nat} {c1:Value} {M2:List (Nat × Obj)} (x1:List (Int)) (h3:ORow 3 1 (pI .i64) m0 c1 x1 M2) {pb2:Nat} (x2:Int) (r4:InR .i64 x2) {pb3:Nat} {c5:Value} (x3:Option (qak)) (h6:(pP 3 qeR) m0 [c5] x3) {pb4:Nat} (x4:Part) (r7:InR .u64 x4.bits) (l8:x4.text.length ≤ LIMS) {pb5:Nat} (x5:Part) (r9:InR .u64 x5.bits) (l10:x5.text.length ≤ LIMS) {r:Bool} (hF:qe1 N k_0 x1 x2 x3 x4 x5 = some r) (ok:Ok u m0 ([(pb0,oc 69 [(Value.func (.func 76) #[] #[.pointer (some ⟨pb3,0,none⟩),.pointer (some ⟨pb4,0,none⟩),.pointer (some ⟨pb5,0,none⟩)])])] :: [(pb1,oc 83 [c1])] :: M2 :: [(pb2,oc 3 [vi x2])] :: [(pb3,oc 106 [c5])] :: [(pb4,oc 137 [vu x4.bits,vs x4.text])] :: [(pb5,oc 137 [vu x5.bits,vs x5.text])] :: S) w) :
  Calls Tryd.prog 54 [vi k_0,vp pb0,vp pb1,vp pb2].toArray w fun e w'=>(e = .returned (.bool r) ∧ Ok u m0 ([(pb0,oc 69 [(Value.func (.func 76) #[] #[.pointer (some ⟨pb3,0,none⟩),.pointer (some ⟨pb4,0,none⟩),.pointer (some ⟨pb5,0,none⟩)])])] :: [(pb1,oc 83 [c1])] :: M2 :: [(pb2,oc 3 [vi x2])] :: [(pb3,oc 106 [c5])] :: [(pb4,oc 137 [vu x4.bits,vs x4.text])] :: [(pb5,oc 137 [vu x5.bits,vs x5.text])] :: S) w'):=by
 have le_m0:=Mem.le.refl m0
 unfold qe1 at hF
 refine en (qkA u m0 S pb0 pb1 pb2 pb3 pb4 pb5 x1 c1 M2 x2 x3 c5 x4 x5) r Tryd.func54 rfl rfl rfl (fun _ _ h=>ra h rfl) fun fin a E=>sg<|aw E rfl fun a E=>wp_seq<|bd hF fun o11 hJ hF=>qaO (Q':=fun e a w=>e = .normal ∧ Ok u m0 ([(pb0,oc 69 [(Value.func (.func 76) #[] #[.pointer (some ⟨pb3,0,none⟩),.pointer (some ⟨pb4,0,none⟩),.pointer (some ⟨pb5,0,none⟩)])])] :: [(pb1,oc 83 [c1])] :: M2 :: [(pb2,oc 3 [vi x2])] :: [(pb3,oc 106 [c5])] :: [(pb4,oc 137 [vu x4.bits,vs x4.text])] :: [(pb5,oc 137 [vu x5.bits,vs x5.text])] :: S) w ∧ Env 14 a [(5,vb o11)]) ?_ ?_
 rotate_left
 ·intro e a w hO
  obtain ⟨rfl,ok,E⟩:=hO
  refine qaa<|wp_ret ?_
  exact fin hF ⟨ok,E.d,rz E rfl⟩
 have hF:=hJ
 obtain ⟨x12,e13,hF⟩:=bnd hF
 obtain ⟨r23,e24,hF⟩:=bnd hF
 obtain rfl:=sj hF
 refine qaX [] (Cls u m0 ([(pb0,oc 69 [(Value.func (.func 76) #[] #[.pointer (some ⟨pb3,0,none⟩),.pointer (some ⟨pb4,0,none⟩),.pointer (some ⟨pb5,0,none⟩)])])] :: [(pb1,oc 83 [c1])] :: M2 :: [(pb2,oc 3 [vi x2])] :: [(pb3,oc 106 [c5])] :: [(pb4,oc 137 [vu x4.bits,vs x4.text])] :: [(pb5,oc 137 [vu x5.bits,vs x5.text])] :: [])) (Cls u m0 ([(pb0,oc 69 [(Value.func (.func 76) #[] #[.pointer (some ⟨pb3,0,none⟩),.pointer (some ⟨pb4,0,none⟩),.pointer (some ⟨pb5,0,none⟩)])])] :: [(pb1,oc 83 [c1])] :: M2 :: [(pb2,oc 3 [vi x2])] :: [(pb3,oc 106 [c5])] :: [(pb4,oc 137 [vu x4.bits,vs x4.text])] :: [(pb5,oc 137 [vu x5.bits,vs x5.text])] :: [])) (by kernel_rfl) ?_
 intro w hw
 replace ok:=qa3 ok hw
 clear hw
 refine qag (cl1 (cq le_m0 ok [0,1,2,3,4,5,6] rfl) (cq le_m0 ok [0,1,2,3,4,5,6] rfl)) fun hT=>kt 0 E rfl hT (qai qtk rfl (qab.cown 0 rfl rfl)) fun a E=>kt 1 E rfl hT (qai qcs rfl (qab.cown 1 rfl rfl)) fun a E=>kt 2 E rfl hT (qai qam rfl (qab.cown 3 rfl rfl)) fun a E=>?_
 obtain ⟨b25,o26,hp27,yy28⟩:=qbf qaR h3 e13 (P:=Tryd.prog) (X:=.tmp 7) (I:=.tmp 8) (kd:=.i64) (qay E rfl) (qay E rfl)
 refine kt 3 E rfl hT (yy28 _ _) fun a E=>?_
 obtain ⟨es29,hl30,rr31,hh32⟩:=qbT h3 e13 hp27 (by decide)
 obtain ⟨rfl,r33⟩:=rr31
 refine kt 4 E rfl hT (qai qam rfl (qab.crow hh32 2 rfl)) fun a E=>kt 5 E rfl hT (qah rfl) fun a E=>kt 6 E rfl hT (qcg rfl rfl) fun a E=>qar [7] (by kernel_rfl) rfl (qas ?_)
 ·refine qbM (o:=_) rfl ?_
  replace ok:Ok u m0 ([(pb3,oc 106 [c5])] :: [(pb4,oc 137 [vu x4.bits,vs x4.text])] :: [(pb5,oc 137 [vu x5.bits,vs x5.text])] :: [(pb0,oc 69 [(Value.func (.func 76) #[] #[.pointer (some ⟨pb3,0,none⟩),.pointer (some ⟨pb4,0,none⟩),.pointer (some ⟨pb5,0,none⟩)])])] :: [(pb1,oc 83 [c1])] :: M2 :: [(pb2,oc 3 [vi x2])] :: S) w:=(ok.pk 7 [4,5,6,0,1,2,3] rfl (by decide))
  refine qfY E rfl qtY rfl (qi3 N (IntKind.wrap .i64 (x12 + k_0)) (InR.wrap _ _) x3 h6 x4 r7 l8 x5 r9 l10 e24 ok) rfl rfl ?_
  rintro _ w ⟨rfl,ok⟩
  refine ⟨_,rfl,fun a E=>?_⟩
  refine wn<|qag (cl1 (cq le_m0 ok [3,4,5,6,0,1,2] rfl) (cq le_m0 ok [3,4,5,6,0,1,2] rfl)) fun hT=>kt 8 E rfl hT (qbY rfl) fun a E=>qaM (by kernel_rfl) ?_
  exact ⟨rfl,⟨(ok.pk 7 [3,4,5,6,0,1,2] rfl (by decide)),E.keep [5]⟩⟩
def qli (u:World) (m0:Mem) (S:Segs) (pb0:Nat) (pb1:Nat) (pb2:Nat) (pb3:Nat) (pb4:Nat) (pb5:Nat) (x1:List (Int)) (c1:Value) (M2:List (Nat × Obj)) (x2:Int) (x3:Option (qak)) (c5:Value) (x4:Part) (x5:Part) (r:Bool) (a:Act) (w:World):Prop :=
 Ok u m0 ([(pb0,oc 69 [(Value.func (.func 76) #[] #[.pointer (some ⟨pb3,0,none⟩),.pointer (some ⟨pb4,0,none⟩),.pointer (some ⟨pb5,0,none⟩)])])] :: [(pb1,oc 83 [c1])] :: M2 :: [(pb2,oc 3 [vi x2])] :: [(pb3,oc 106 [c5])] :: [(pb4,oc 137 [vu x4.bits,vs x4.text])] :: [(pb5,oc 137 [vu x5.bits,vs x5.text])] :: S) w ∧ a.defers = [] ∧ RVs Tryd.prog a w [.t 4 (.bool r)]
theorem qh8 (N:Nat) (vc_0:Value) (c_0:List (List (Relation))) (hc_0:(pL 1 (pL 4 qan)) m0 [vc_0] c_0) {pb0:Nat} {pb1:Nat} {c1:Value} {M2:List (Nat × Obj)} (x1:List (Int)) (h3:ORow 3 1 (pI .i64) m0 c1 x1 M2) {pb2:Nat} (x2:Int) (r4:InR .i64 x2) {pb3:Nat} {c5:Value} (x3:Option (qak)) (h6:(pP 3 qeR) m0 [c5] x3) {pb4:Nat} (x4:Part) (r7:InR .u64 x4.bits) (l8:x4.text.length ≤ LIMS) {pb5:Nat} (x5:Part) (r9:InR .u64 x5.bits) (l10:x5.text.length ≤ LIMS) {r:Bool} (hF:qex N c_0 x1 x2 x3 x4 x5 = some r) (ok:Ok u m0 ([(pb0,oc 69 [(Value.func (.func 76) #[] #[.pointer (some ⟨pb3,0,none⟩),.pointer (some ⟨pb4,0,none⟩),.pointer (some ⟨pb5,0,none⟩)])])] :: [(pb1,oc 83 [c1])] :: M2 :: [(pb2,oc 3 [vi x2])] :: [(pb3,oc 106 [c5])] :: [(pb4,oc 137 [vu x4.bits,vs x4.text])] :: [(pb5,oc 137 [vu x5.bits,vs x5.text])] :: S) w) :
  Calls Tryd.prog 24 [vc_0,Value.func (.func 54) #[] #[.pointer (some ⟨pb0,0,none⟩),.pointer (some ⟨pb1,0,none⟩),.pointer (some ⟨pb2,0,none⟩)]].toArray w fun e w'=>(e = .returned (.bool r) ∧ Ok u m0 ([(pb0,oc 69 [(Value.func (.func 76) #[] #[.pointer (some ⟨pb3,0,none⟩),.pointer (some ⟨pb4,0,none⟩),.pointer (some ⟨pb5,0,none⟩)])])] :: [(pb1,oc 83 [c1])] :: M2 :: [(pb2,oc 3 [vi x2])] :: [(pb3,oc 106 [c5])] :: [(pb4,oc 137 [vu x4.bits,vs x4.text])] :: [(pb5,oc 137 [vu x5.bits,vs x5.text])] :: S) w'):=by
 unfold qex at hF
 refine en (qli u m0 S pb0 pb1 pb2 pb3 pb4 pb5 x1 c1 M2 x2 x3 c5 x4 x5) r Tryd.func24 rfl rfl rfl (fun _ _ h=>ra h rfl) fun fin a E=>sg<|aw E rfl fun a E=>sg<|aw E rfl fun a E=>sg<|aw E rfl fun a E=>wp_seq<|sg<|mv E rfl fun a E=>lv E ok (qaz qdq hc_0 rfl) fun a E=>mv E rfl fun a E=>wn<|wp_block<|bd hF fun o13 hL hF=>qaH _ (fun (s:Int × Bool × Int) a w=>Ok u m0 ([(pb0,oc 69 [(Value.func (.func 76) #[] #[.pointer (some ⟨pb3,0,none⟩),.pointer (some ⟨pb4,0,none⟩),.pointer (some ⟨pb5,0,none⟩)])])] :: [(pb1,oc 83 [c1])] :: M2 :: [(pb2,oc 3 [vi x2])] :: [(pb3,oc 106 [c5])] :: [(pb4,oc 137 [vu x4.bits,vs x4.text])] :: [(pb5,oc 137 [vu x5.bits,vs x5.text])] :: S) w ∧ Env 35 a [(1,(Value.func (.func 54) #[] #[.pointer (some ⟨pb0,0,none⟩),.pointer (some ⟨pb1,0,none⟩),.pointer (some ⟨pb2,0,none⟩)])),(5,vi s.1),(6,vb s.2.1),(10,vc_0),(11,(vi (c_0.length:Int))),(12,vi s.2.2)] ∧ InR .i64 s.1 ∧ InR .i64 s.2.2) (fun (b:Bool) e a w=>e = (.exit 0) ∧ Ok u m0 ([(pb0,oc 69 [(Value.func (.func 76) #[] #[.pointer (some ⟨pb3,0,none⟩),.pointer (some ⟨pb4,0,none⟩),.pointer (some ⟨pb5,0,none⟩)])])] :: [(pb1,oc 83 [c1])] :: M2 :: [(pb2,oc 3 [vi x2])] :: [(pb3,oc 106 [c5])] :: [(pb4,oc 137 [vu x4.bits,vs x4.text])] :: [(pb5,oc 137 [vu x5.bits,vs x5.text])] :: S) w ∧ Env 35 a [(6,vb b)]) ?_ ?_ N _ a w hL ⟨ok,E.keep [1,5,6,10,11,12],(ir 0),(ir 0)⟩
 rotate_left
 ·intro e a w _ hO
  obtain ⟨rfl,ok,E⟩:=hO
  refine qaN<|qaa<|sg<|mv E rfl fun a E=>aw E rfl fun a E=>wp_ret ?_
  exact fin hF ⟨ok,E.d,rz E rfl⟩
 rintro ⟨v16,v17,v18⟩ a w r ⟨ok,E,r19,r20⟩ hF
 replace hF:qb8 N c_0 x1 x2 x3 x4 x5 v16 v17 v18 = some r:=hF
 unfold qb8 at hF
 refine sg<|lw E (qaC rfl rfl) fun a E=>wn<|wp_seq<|cg E rfl hF (fun c21 hF=>?_) fun c21 hF=>?_
 ·refine wp_exit<|qaE ?_
  cases hF
  exact so (⟨rfl,⟨ok,E.keep [6]⟩⟩)
 refine wp_skip<|qaa<|wp_seq<|wp_block<|sg ?_
 obtain ⟨x22,e23,hF⟩:=bnd hF
 obtain ⟨b24,o25,es26,hl27,rr28,at29,yy30⟩:=ia E 10 12 qdq hc_0 e23
 obtain ⟨c31,rfl,h32⟩:=qbG rr28
 refine lv E ok (yy30 _ _) fun a E=>lv E ok (qai qdJ rfl (qab.ro at29)) fun a E=>aw E rfl fun a E=>sg<|av E rfl fun a E=>wn<|wp_seq<|sg<|mv E rfl fun a E=>lv E ok (qaz qbr h32 rfl) fun a E=>mv E rfl fun a E=>wn<|wp_block<|bd hF fun o35 hL hF=>qaH _ (fun (s:Int × Bool × Int) a w=>Ok u m0 ([(pb0,oc 69 [(Value.func (.func 76) #[] #[.pointer (some ⟨pb3,0,none⟩),.pointer (some ⟨pb4,0,none⟩),.pointer (some ⟨pb5,0,none⟩)])])] :: [(pb1,oc 83 [c1])] :: M2 :: [(pb2,oc 3 [vi x2])] :: [(pb3,oc 106 [c5])] :: [(pb4,oc 137 [vu x4.bits,vs x4.text])] :: [(pb5,oc 137 [vu x5.bits,vs x5.text])] :: S) w ∧ Env 35 a [(1,(Value.func (.func 54) #[] #[.pointer (some ⟨pb0,0,none⟩),.pointer (some ⟨pb1,0,none⟩),.pointer (some ⟨pb2,0,none⟩)])),(5,vi s.1),(6,vb v17),(9,vb s.2.1),(10,vc_0),(11,(vi (c_0.length:Int))),(12,vi v18),(17,(vi (x22.length:Int))),(18,vi s.2.2)] ∧ InR .i64 s.1 ∧ InR .i64 s.2.2) (fun (b:(Int × Bool)) e a w=>e = (.exit 2) ∧ Ok u m0 ([(pb0,oc 69 [(Value.func (.func 76) #[] #[.pointer (some ⟨pb3,0,none⟩),.pointer (some ⟨pb4,0,none⟩),.pointer (some ⟨pb5,0,none⟩)])])] :: [(pb1,oc 83 [c1])] :: M2 :: [(pb2,oc 3 [vi x2])] :: [(pb3,oc 106 [c5])] :: [(pb4,oc 137 [vu x4.bits,vs x4.text])] :: [(pb5,oc 137 [vu x5.bits,vs x5.text])] :: S) w ∧ Env 35 a [(1,(Value.func (.func 54) #[] #[.pointer (some ⟨pb0,0,none⟩),.pointer (some ⟨pb1,0,none⟩),.pointer (some ⟨pb2,0,none⟩)])),(5,vi b.1),(6,vb v17),(9,vb b.2),(10,vc_0),(11,(vi (c_0.length:Int))),(12,vi v18)] ∧ InR .i64 b.1) ?_ ?_ N _ a w hL ⟨ok,E.keep [1,5,6,9,10,11,12,17,18],r19,(ir 0)⟩
 rotate_left
 ·intro e a w _ hO
  obtain ⟨rfl,ok,E,r47⟩:=hO
  refine qaN<|qaa<|qac<|mz E rfl rfl fun a E=>qdv v17 (fun c48=>?_) (fun c48=>?_)
  ·have hF:=qdd c48 hF
   have E:=E.upd 30 c48 rfl
   refine ls E fun a E=>pt E rfl rfl fun a E=>av E rfl fun a E=>wpList_nil<|qap<|qaa<|qac<|lw E (qaA rfl rfl (InR.inc r20 (qal hc_0) c21)) fun a E=>mv E rfl fun a E=>wpList_nil ?_
   cases hF
   exact qau ⟨ok,E.keep [1,5,6,10,11,12],r47,(InR.inc r20 (qal hc_0) c21)⟩
  have hF:=qdc c48 hF
  have E:=E.upd 30 c48 rfl
  refine mv E rfl fun a E=>pf E rfl rfl fun a E=>av E rfl fun a E=>wpList_nil<|qap<|qaa<|qac<|lw E (qaA rfl rfl (InR.inc r20 (qal hc_0) c21)) fun a E=>mv E rfl fun a E=>wpList_nil ?_
  cases hF
  exact qau ⟨ok,E.keep [1,5,6,10,11,12],r47,(InR.inc r20 (qal hc_0) c21)⟩
 rintro ⟨v38,v39,v40⟩ a w r ⟨ok,E,r41,r42⟩ hF
 replace hF:qb6 N x1 x2 x3 x4 x5 x22 v38 v39 v40 = some r:=hF
 unfold qb6 at hF
 refine sg<|lw E (qaC rfl rfl) fun a E=>wn<|wp_seq<|cg E rfl hF (fun c43 hF=>?_) fun c43 hF=>?_
 ·refine wp_exit<|qaE ?_
  cases hF
  exact so (⟨rfl,⟨ok,E.keep [1,5,6,9,10,11,12],r41⟩⟩)
 refine wp_skip<|qaa<|wp_seq<|wp_block<|sg<|mz E rfl rfl fun a E=>qdv v39 (fun c44=>?_) (fun c44=>?_)
 rotate_left
 ·have hF:=qdc c44 hF
  have E:=E.upd 21 c44 rfl
  refine lsq E fun a E=>ls E fun a E=>pf E rfl rfl fun a E=>aw E rfl fun a E=>qac<|mv E rfl fun a E=>lw E (qcg rfl rfl) fun a E=>av E rfl fun a E=>wpList_nil<|qap<|qaa<|qac<|lw E (qaA rfl rfl (InR.inc r42 (qal h32) c43)) fun a E=>mv E rfl fun a E=>wpList_nil ?_
  cases hF
  exact qau ⟨ok,E.keep [1,5,6,9,10,11,12,17,18],(InR.wrap _ _),(InR.inc r42 (qal h32) c43)⟩
 have hF:=qdd c44 hF
 have E:=E.upd 21 c44 rfl
 refine mz E rfl rfl fun a E=>bd hF fun r45 e46 hF=>qfY E rfl quP rfl (qkL N v38 r41 x1 h3 x2 r4 x3 h6 x4 r7 l8 x5 r9 l10 e46 ok) rfl rfl ?_
 rintro _ w ⟨rfl,ok⟩
 refine ⟨_,rfl,fun a E=>?_⟩
 refine pt E rfl rfl fun a E=>aw E rfl fun a E=>qac<|mv E rfl fun a E=>lw E (qcg rfl rfl) fun a E=>av E rfl fun a E=>wpList_nil<|qap<|qaa<|qac<|lw E (qaA rfl rfl (InR.inc r42 (qal h32) c43)) fun a E=>mv E rfl fun a E=>wpList_nil ?_
 cases hF
 exact qau ⟨ok,E.keep [1,5,6,9,10,11,12,17,18],(InR.wrap _ _),(InR.inc r42 (qal h32) c43)⟩
def qkM (u:World) (m0:Mem) (S:Segs) (r:Bool) (a:Act) (w:World):Prop :=
 Ok u m0 S w ∧ a.defers = [] ∧ RVs Tryd.prog a w [.t 2 (.bool r)]
theorem qkJ (N:Nat) (vl_0:Value) (l_0:List (Bool)) (hl_0:(pL 1 pB) m0 [vl_0] l_0) {r:Bool} (hF:qgY N l_0 = some r) (ok:Ok u m0 S w) :
  Calls Tryd.prog 38 [vl_0].toArray w fun e w'=>(e = .returned (.bool r) ∧ Ok u m0 S w'):=by
 unfold qgY at hF
 refine en (qkM u m0 S) r Tryd.func38 rfl rfl rfl (fun _ _ h=>ra h rfl) fun fin a E=>sg<|aw E rfl fun a E=>sg<|mv E rfl fun a E=>?_
 obtain ⟨x1,e2,hF⟩:=bnd hF
 obtain ⟨b3,o4,es5,hl6,rr7,at8,yy9⟩:=qlD qbD hl_0 e2 (P:=Tryd.prog) (X:=.tmp 3) (I:=.const (vi 0)) (kd:=.i64) (qay E rfl) (qay E rfl)
 obtain rfl:=rr7
 refine lv E ok (yy9 _ _) fun a E=>lv E ok (qai qdk rfl (qab.ro at8)) fun a E=>mv E rfl fun a E=>qdv x1 (fun c10=>?_) (fun c10=>?_)
 rotate_left
 ·have hF:=qdc c10 hF
  have E:=E.upd 6 c10 rfl
  refine lsq E fun a E=>ls E fun a E=>pf E rfl rfl fun a E=>aw E rfl fun a E=>wp_ret ?_
  exact fin hF ⟨ok,E.d,rz E rfl⟩
 have hF:=qdd c10 hF
 have E:=E.upd 6 c10 rfl
 refine mv E rfl fun a E=>?_
 obtain ⟨x11,e12,hF⟩:=bnd hF
 obtain ⟨b13,o14,es15,hl16,rr17,at18,yy19⟩:=qlD qbD hl_0 e12 (P:=Tryd.prog) (X:=.tmp 7) (I:=.const (vi 1)) (kd:=.i64) (qay E rfl) (qay E rfl)
 obtain rfl:=rr17
 refine lv E ok (yy19 _ _) fun a E=>lv E ok (qai qdk rfl (qab.ro at18)) fun a E=>pt E rfl rfl fun a E=>aw E rfl fun a E=>wp_ret ?_
 exact fin hF ⟨ok,E.d,rz E rfl⟩
end Go.Proofs.YtidfofhmnlhfjaaDoor
