/- Texts of this proof, put together by pack.py: what its declarations name. -/
import Derived.Test.YtidfofhmnlhfjaaGreatDoorPkAb1
import Derived.Test.YtidfofhmnlhfjaaGreatDoorCards
import Derived.Test.YtidfofhmnlhfjaaGreatDoorChecked
import Derived.Test.YtidfofhmnlhfjaaGreatDoorProg
import Derived.Test.YtidfofhmnlhfjaaGreatDoorRows
import Derived.Test.YtidfofhmnlhfjaaGreatDoorTie
set_option linter.unusedVariables false
set_option linter.unusedSimpArgs false
namespace Go.Proofs.YtidfofhmnlhfjaaGreatDoor
open Go.X
structure DFA where
 Start:Int
 Next:List (List (Int))
 Accept:List (Bool)
structure Arr6_Tracker where
 e0:Tracker
 e1:Tracker
 e2:Tracker
 e3:Tracker
 e4:Tracker
 e5:Tracker
 deriving DecidableEq
def Arr6_Tracker.list (a:Arr6_Tracker):List (Tracker):=[a.e0,a.e1,a.e2,a.e3,a.e4,a.e5]
def Arr6_Tracker.of:List (Tracker) → Option Arr6_Tracker
 | [x0,x1,x2,x3,x4,x5]=>some ⟨x0,x1,x2,x3,x4,x5⟩
 | _=>none
def Arr6_Tracker.get (a:Arr6_Tracker) (i:Int):Option (Tracker):=idx a.list i
def Arr6_Tracker.set (a:Arr6_Tracker) (i:Int) (x:Tracker):Option Arr6_Tracker:=(setI a.list i x).bind Arr6_Tracker.of
structure Reading where
 phase:Int
 trackers:Arr6_Tracker
 deriving DecidableEq
structure Arr11_Int where
 e0:Int
 e1:Int
 e2:Int
 e3:Int
 e4:Int
 e5:Int
 e6:Int
 e7:Int
 e8:Int
 e9:Int
 e10:Int
 deriving DecidableEq
def Arr11_Int.list (a:Arr11_Int):List (Int):=[a.e0,a.e1,a.e2,a.e3,a.e4,a.e5,a.e6,a.e7,a.e8,a.e9,a.e10]
def Arr11_Int.of:List (Int) → Option Arr11_Int
 | [x0,x1,x2,x3,x4,x5,x6,x7,x8,x9,x10]=>some ⟨x0,x1,x2,x3,x4,x5,x6,x7,x8,x9,x10⟩
 | _=>none
def Arr11_Int.get (a:Arr11_Int) (i:Int):Option (Int):=idx a.list i
def Arr11_Int.set (a:Arr11_Int) (i:Int) (x:Int):Option Arr11_Int:=(setI a.list i x).bind Arr11_Int.of
structure Table where
 next:List (Arr11_Int)
 accept:List (Bool)
structure Key where
 class_:Int
 next:Arr11_Int
 deriving DecidableEq
structure DigitsRead where
 phase:Int
 count:Int
 zero:Bool
 deriving DecidableEq
def qc6 (_N:Nat) (c_0:Int) (symbol_1:Int) (x0:List (Int)) (x1:Table) (x2:List (Int)):Option Int :=
 (idx x2 c_0).bind fun x11 =>
 (idx x1.next x11).bind fun x22 =>
 (Arr11_Int.get x22 symbol_1).bind fun x42 =>
 (idx x0 x42).bind fun x44 =>
 some x44
def qdQ (_N:Nat) (c_0:Int) (x0:Table) (x1:List (Int)):Option Bool :=
 (idx x1 c_0).bind fun x8 =>
 (idx x0.accept x8).bind fun x19 =>
 some x19
def qbE (N:Nat) (x0:List (Int)) (x1:Table) (x2:List (Int)) (i_59:Int) (states_118:List (Int)) (x_119:Int) (x_120:Arr11_Int) (number_121:List (Int × Int)):Option (((List (Int)) × Int × Arr11_Int × (List (Int × Int))) ⊕ ((Arr11_Int × (List (Int × Int)) × (List (Int))))) :=
 bif (decide (x_119 < 11)) then
  (idx states_118 i_59).bind fun x141 =>
  (qc6 N x141 x_119 x0 x1 x2).bind fun r152 =>
  bif (!((mget number_121 r152).isSome)) then
   (mset number_121 r152 (states_118.length:Int)).bind fun l161 =>
   (app states_118 ([r152]:List (Int))).bind fun l168 =>
   (Arr11_Int.get x_120 x_119).bind fun _x173 =>
   (Arr11_Int.set x_120 x_119 (states_118.length:Int)).bind fun z175 =>
   some (.inl (l168,(x_119 + 1),z175,l161))
  else
   (Arr11_Int.get x_120 x_119).bind fun _x179 =>
   (Arr11_Int.set x_120 x_119 ((mget number_121 r152).getD 0)).bind fun z181 =>
   some (.inl (states_118,(x_119 + 1),z181,number_121))
 else
  some (.inr (x_120,number_121,states_118))
def qbV (N:Nat) (x0:List (Int)) (x1:Table) (x2:List (Int)) (states_58:List (Int)) (i_59:Int) (x_60:Table) (number_61:List (Int × Int)):Option (((List (Int)) × Int × Table × (List (Int × Int))) ⊕ Table) :=
 bif (decide (i_59 < (states_58.length:Int))) then
  (iter (fun s=>qbE N x0 x1 x2 i_59 s.1 s.2.1 s.2.2.1 s.2.2.2) N (states_58,0,(Arr11_Int.mk 0 0 0 0 0 0 0 0 0 0 0),number_61)).bind fun o99 =>
  (app x_60.next ([o99.1]:List (Arr11_Int))).bind fun l205 =>
  (show Option Table from
   (idx o99.2.2 i_59).bind fun x217 =>
   (qdQ N x217 x1 x2).bind fun r228 =>
   (app x_60.accept ([r228]:List (Bool))).bind fun l233 =>
   some (Table.mk l205 l233)).bind fun o210 =>
  some (.inl (o99.2.2,(i_59 + 1),o210,o99.2.1))
 else
  some (.inr x_60)
def qcP (N:Nat) (start_0:Int) (x0:List (Int)) (x1:Table) (x2:List (Int)):Option Table :=
 (mset ([]:List (Int × Int)) start_0 0).bind fun l15 =>
 (iter (fun s=>qbV N x0 x1 x2 s.1 s.2.1 s.2.2.1 s.2.2.2) N (([start_0]:List (Int)),0,(Table.mk ([]) ([])),l15)).bind fun o44 =>
 some o44
def qcm (_N:Nat) (t_0:Table) (x_23:Int) (x_24:List (Int)):Option ((Int × (List (Int))) ⊕ (((List (Int))))) :=
 bif (decide (x_23 < (t_0.accept.length:Int))) then
  (idx t_0.accept x_23).bind fun x30 =>
  bif x30 then
   (idx x_24 x_23).bind fun _x40 =>
   (setI x_24 x_23 1).bind fun l46 =>
   some (.inl ((x_23 + 1),l46))
  else
   some (.inl ((x_23 + 1),x_24))
 else
  some (.inr x_24)
def qb0 (_N:Nat) (x_64:List (Int)) (x104:Arr11_Int) (x_165:Int) (x_166:Key):Option ((Int × Key) ⊕ Key) :=
 bif (decide (x_165 < 11)) then
  (idx [(x104.e0:Int),(x104.e1:Int),(x104.e2:Int),(x104.e3:Int),(x104.e4:Int),(x104.e5:Int),(x104.e6:Int),(x104.e7:Int),(x104.e8:Int),(x104.e9:Int),(x104.e10:Int)] x_165).bind fun z181 =>
  (idx x_64 z181).bind fun x183 =>
  (Arr11_Int.get x_166.next x_165).bind fun _x194 =>
  (Arr11_Int.set x_166.next x_165 x183).bind fun z196 =>
  some (.inl ((x_165 + 1),(Key.mk x_166.class_ z196)))
 else
  some (.inr x_166)
def qcV (N:Nat) (t_0:Table) (x_64:List (Int)) (x_93:Int) (known_94:List (Key × Int)) (finer_95:List (Int)):Option ((Int × (List (Key × Int)) × (List (Int))) ⊕ (((List (Key × Int)) × (List (Int))))) :=
 bif (decide (x_93 < (t_0.next.length:Int))) then
  (idx t_0.next x_93).bind fun x104 =>
  (idx x_64 x_93).bind fun x125 =>
  (iter (fun s=>qb0 N x_64 x104 s.1 s.2) N (0,(Key.mk x125 (Arr11_Int.mk 0 0 0 0 0 0 0 0 0 0 0)))).bind fun o151 =>
  (show Option ((List (Key × Int)) × Int) from
   bif (!((mget known_94 o151).isSome)) then
    (mset known_94 o151 (known_94.length:Int)).bind fun l223 =>
    some (l223,(known_94.length:Int))
   else
    some (known_94,((mget known_94 o151).getD 0))).bind fun o217 =>
  (idx finer_95 x_93).bind fun _x231 =>
  (setI finer_95 x_93 o217.2).bind fun l237 =>
  some (.inl ((x_93 + 1),o217.1,l237))
 else
  some (.inr (known_94,finer_95))
def qbY (N:Nat) (t_0:Table) (count_63:Int) (x_64:List (Int)):Option ((Int × (List (Int))) ⊕ (((List (Int)) × Int))) :=
 (mk (x_64.length:Int) (0:Int)).bind fun l72 =>
 (iter (fun s=>qcV N t_0 x_64 s.1 s.2.1 s.2.2) N (0,([]:List (Key × Int)),l72)).bind fun o85 =>
 bif ((o85.1.length:Int) == count_63) then
  some (.inr (o85.2,count_63))
 else
  some (.inl ((o85.1.length:Int),o85.2))
def qcl (_N:Nat) (o58:((List (Int)) × Int)) (i_286:Int) (x_287:List (Int)):Option ((Int × (List (Int))) ⊕ (((List (Int))))) :=
 bif (decide (i_286 ≥ 0)) then
  (show Option ((List (Int))) from
   (idx o58.1 i_286).bind fun x297 =>
   (idx x_287 x297).bind fun _x308 =>
   (setI x_287 x297 i_286).bind fun l314 =>
   some l314).bind fun o293 =>
  some (.inl ((IntKind.wrap .i64 (i_286 - 1)),o293))
 else
  some (.inr x_287)
def qdA (N:Nat) (t_0:Table):Option Table :=
 (mk (t_0.next.length:Int) (0:Int)).bind fun l7 =>
 (iter (fun s=>qcm N t_0 s.1 s.2) N (0,l7)).bind fun o18 =>
 (iter (fun s=>qbY N t_0 s.1 s.2) N (0,o18)).bind fun o58 =>
 (mk o58.2 (0:Int)).bind fun l270 =>
 (iter (fun s=>qcl N o58 s.1 s.2) N ((IntKind.wrap .i64 ((o58.1.length:Int) - 1)),l270)).bind fun o281 =>
 (idx o58.1 0).bind fun x339 =>
 (qcP N x339 o58.1 t_0 o281).bind fun r350 =>
 some r350
def qc1 (_N:Nat) (t_0:Table) (x_27:Int) (x_28:DFA):Option ((Int × DFA) ⊕ DFA) :=
 bif (decide (x_27 < (t_0.next.length:Int))) then
  (idx t_0.next x_27).bind fun x38 =>
  (show Option DFA from
   (app x_28.Next ([([x38.e0,x38.e1,x38.e2,x38.e3,x38.e4,x38.e5,x38.e6,x38.e7,x38.e8,x38.e9,x38.e10]:List (Int))]:List (List (Int)))).bind fun l71 =>
   some (DFA.mk x_28.Start l71 x_28.Accept)).bind fun o61 =>
  some (.inl ((x_27 + 1),o61))
 else
  some (.inr x_28)
def qep (N:Nat) (t_0:Table):Option DFA :=
 (iter (fun s=>qc1 N t_0 s.1 s.2) N (0,(DFA.mk 0 ([]) t_0.accept))).bind fun o18 =>
 some o18
end Go.Proofs.YtidfofhmnlhfjaaGreatDoor
namespace Go.Proofs.YtidfofhmnlhfjaaGreatDoor
open Go.X
def qbj (N:Nat) (l_1:List (Relation)) (symbol_2:Int) (x_52:Int) (x_53:Reading):Option ((Int × Reading) ⊕ Reading) :=
 bif (decide (x_52 < (l_1.length:Int))) then
  (idx l_1 x_52).bind fun x70 =>
  (show Option Reading from
   (Arr6_Tracker.get x_53.trackers x_52).bind fun x99 =>
   (qbb N x99 x70 (x_53.phase == 3) symbol_2).bind fun r101 =>
   (Arr6_Tracker.get x_53.trackers x_52).bind fun _x108 =>
   (Arr6_Tracker.set x_53.trackers x_52 r101).bind fun z110 =>
   some (Reading.mk x_53.phase z110)).bind fun o84 =>
  some (.inl ((x_52 + 1),o84))
 else
  some (.inr x_53)
def qeA (N:Nat) (l_1:List (Relation)) (symbol_2:Int) (x_222:Int) (x_223:Reading):Option ((Int × Reading) ⊕ Reading) :=
 bif (decide (x_222 < (l_1.length:Int))) then
  (idx l_1 x_222).bind fun x240 =>
  (show Option Reading from
   (Arr6_Tracker.get x_223.trackers x_222).bind fun x269 =>
   (qbb N x269 x240 (x_223.phase == 3) symbol_2).bind fun r271 =>
   (Arr6_Tracker.get x_223.trackers x_222).bind fun _x278 =>
   (Arr6_Tracker.set x_223.trackers x_222 r271).bind fun z280 =>
   some (Reading.mk x_223.phase z280)).bind fun o254 =>
  some (.inl ((x_222 + 1),o254))
 else
  some (.inr x_223)
def qey (N:Nat) (l_1:List (Relation)) (symbol_2:Int) (x_367:Int) (x_368:Reading):Option ((Int × Reading) ⊕ Reading) :=
 bif (decide (x_367 < (l_1.length:Int))) then
  (idx l_1 x_367).bind fun x385 =>
  (show Option Reading from
   (Arr6_Tracker.get x_368.trackers x_367).bind fun x414 =>
   (qbb N x414 x385 (x_368.phase == 3) symbol_2).bind fun r416 =>
   (Arr6_Tracker.get x_368.trackers x_367).bind fun _x423 =>
   (Arr6_Tracker.set x_368.trackers x_367 r416).bind fun z425 =>
   some (Reading.mk x_368.phase z425)).bind fun o399 =>
  some (.inl ((x_367 + 1),o399))
 else
  some (.inr x_368)
def qeB (N:Nat) (l_1:List (Relation)) (symbol_2:Int) (x_537:Int) (x_538:Reading):Option ((Int × Reading) ⊕ Reading) :=
 bif (decide (x_537 < (l_1.length:Int))) then
  (idx l_1 x_537).bind fun x555 =>
  (show Option Reading from
   (Arr6_Tracker.get x_538.trackers x_537).bind fun x584 =>
   (qbb N x584 x555 (x_538.phase == 3) symbol_2).bind fun r586 =>
   (Arr6_Tracker.get x_538.trackers x_537).bind fun _x593 =>
   (Arr6_Tracker.set x_538.trackers x_537 r586).bind fun z595 =>
   some (Reading.mk x_538.phase z595)).bind fun o569 =>
  some (.inl ((x_537 + 1),o569))
 else
  some (.inr x_538)
def qfn (N:Nat) (s_0:Reading) (l_1:List (Relation)) (symbol_2:Int):Option Reading :=
 bif (symbol_2 == 10) then
  bif (s_0.phase == 1) then
   some (Reading.mk 2 s_0.trackers)
  else
   bif (symbol_2 == 10) then
    some (Reading.mk 4 (Arr6_Tracker.mk (Tracker.mk 0 0) (Tracker.mk 0 0) (Tracker.mk 0 0) (Tracker.mk 0 0) (Tracker.mk 0 0) (Tracker.mk 0 0)))
   else
    bif (s_0.phase == 4) then
     some (Reading.mk 4 (Arr6_Tracker.mk (Tracker.mk 0 0) (Tracker.mk 0 0) (Tracker.mk 0 0) (Tracker.mk 0 0) (Tracker.mk 0 0) (Tracker.mk 0 0)))
    else
     bif (s_0.phase == 0) then
      (iter (fun s=>qbj N l_1 symbol_2 s.1 s.2) N (0,(Reading.mk 1 s_0.trackers))).bind fun o36 =>
      some o36
     else
      (show Option Reading from
       bif (s_0.phase == 1) then
        some (Reading.mk 1 s_0.trackers)
       else
        some (Reading.mk 3 s_0.trackers)).bind fun o163 =>
      (iter (fun s=>qeA N l_1 symbol_2 s.1 s.2) N (0,o163)).bind fun o206 =>
      some o206
 else
  bif (symbol_2 == 10) then
   some (Reading.mk 4 (Arr6_Tracker.mk (Tracker.mk 0 0) (Tracker.mk 0 0) (Tracker.mk 0 0) (Tracker.mk 0 0) (Tracker.mk 0 0) (Tracker.mk 0 0)))
  else
   bif (s_0.phase == 4) then
    some (Reading.mk 4 (Arr6_Tracker.mk (Tracker.mk 0 0) (Tracker.mk 0 0) (Tracker.mk 0 0) (Tracker.mk 0 0) (Tracker.mk 0 0) (Tracker.mk 0 0)))
   else
    bif (s_0.phase == 0) then
     (iter (fun s=>qey N l_1 symbol_2 s.1 s.2) N (0,(Reading.mk 1 s_0.trackers))).bind fun o351 =>
     some o351
    else
     (show Option Reading from
      bif (s_0.phase == 1) then
       some (Reading.mk 1 s_0.trackers)
      else
       some (Reading.mk 3 s_0.trackers)).bind fun o478 =>
     (iter (fun s=>qeB N l_1 symbol_2 s.1 s.2) N (0,o478)).bind fun o521 =>
     some o521
def qcj (N:Nat) (s_0:Reading) (symbol_1:Int) (x0:List (Relation)):Option Reading :=
 (qfn N s_0 x0 symbol_1).bind fun r18 =>
 some r18
def qd2 (N:Nat) (i_0:Int) (x0:Reading) (x1:List (Relation)):Option Bool :=
 (Arr6_Tracker.get x0.trackers i_0).bind fun x16 =>
 (idx x1 i_0).bind fun x18 =>
 (qcd N x16 x18).bind fun r31 =>
 some r31
def qcY (N:Nat) (x0:Reading) (x1:List (Relation)) (x27:List (Relation)) (at_43:Int) (all_44:Bool) (x_45:Int):Option ((Int × Bool × Int) ⊕ ((Int × Bool))) :=
 bif (decide (x_45 < (x27.length:Int))) then
  bif all_44 then
   (qd2 N at_43 x0 x1).bind fun r50 =>
   some (.inl ((IntKind.wrap .i64 (at_43 + 1)),r50,(x_45 + 1)))
  else
   some (.inl ((IntKind.wrap .i64 (at_43 + 1)),false,(x_45 + 1)))
 else
  some (.inr (at_43,all_44))
def qcX (N:Nat) (c_0:List (List (Relation))) (x0:Reading) (x1:List (Relation)) (at_21:Int) (found_22:Bool) (x_23:Int):Option ((Int × Bool × Int) ⊕ Bool) :=
 bif (decide (x_23 < (c_0.length:Int))) then
  (idx c_0 x_23).bind fun x27 =>
  (iter (fun s=>qcY N x0 x1 x27 s.1 s.2.1 s.2.2) N (at_21,true,0)).bind fun o40 =>
  bif found_22 then
   some (.inl (o40.1,true,(x_23 + 1)))
  else
   some (.inl (o40.1,o40.2,(x_23 + 1)))
 else
  some (.inr found_22)
def qer (N:Nat) (c_0:List (List (Relation))) (x0:Reading) (x1:List (Relation)):Option Bool :=
 (iter (fun s=>qcX N c_0 x0 x1 s.1 s.2.1 s.2.2) N (0,false,0)).bind fun o18 =>
 some o18
def qcG (N:Nat) (s_0:Reading) (x0:List (List (Relation))) (x1:List (Relation)):Option Bool :=
 bif (s_0.phase == 1) then
  (qer N x0 s_0 x1).bind fun r20 =>
  some r20
 else
  bif (s_0.phase == 3) then
   (qer N x0 s_0 x1).bind fun r23 =>
   some r23
  else
   some false
end Go.Proofs.YtidfofhmnlhfjaaGreatDoor
namespace Go.Proofs.YtidfofhmnlhfjaaGreatDoor
open Go.X
def qa7 (N:Nat) (x0:List (Relation)) (i_68:Int) (states_129:List (Reading)) (x_130:Int) (x_131:Arr11_Int) (number_132:List (Reading × Int)):Option (((List (Reading)) × Int × Arr11_Int × (List (Reading × Int))) ⊕ ((Arr11_Int × (List (Reading × Int)) × (List (Reading))))) :=
 bif (decide (x_130 < 11)) then
  (idx states_129 i_68).bind fun x153 =>
  (qcj N x153 x_130 x0).bind fun r176 =>
  bif (!((mget number_132 r176).isSome)) then
   (mset number_132 r176 (states_129.length:Int)).bind fun l201 =>
   (app states_129 ([r176]:List (Reading))).bind fun l208 =>
   (Arr11_Int.get x_131 x_130).bind fun _x213 =>
   (Arr11_Int.set x_131 x_130 (states_129.length:Int)).bind fun z215 =>
   some (.inl (l208,(x_130 + 1),z215,l201))
  else
   (Arr11_Int.get x_131 x_130).bind fun _x219 =>
   (Arr11_Int.set x_131 x_130 ((mget number_132 r176).getD 0)).bind fun z221 =>
   some (.inl (states_129,(x_130 + 1),z221,number_132))
 else
  some (.inr (x_131,number_132,states_129))
def qbk (N:Nat) (x0:List (Relation)) (x1:List (List (Relation))) (states_67:List (Reading)) (i_68:Int) (x_69:Table) (number_70:List (Reading × Int)):Option (((List (Reading)) × Int × Table × (List (Reading × Int))) ⊕ Table) :=
 bif (decide (i_68 < (states_67.length:Int))) then
  (iter (fun s=>qa7 N x0 i_68 s.1 s.2.1 s.2.2.1 s.2.2.2) N (states_67,0,(Arr11_Int.mk 0 0 0 0 0 0 0 0 0 0 0),number_70)).bind fun o109 =>
  (app x_69.next ([o109.1]:List (Arr11_Int))).bind fun l246 =>
  (show Option Table from
   (idx o109.2.2 i_68).bind fun x258 =>
   (qcG N x258 x1 x0).bind fun r281 =>
   (app x_69.accept ([r281]:List (Bool))).bind fun l286 =>
   some (Table.mk l246 l286)).bind fun o251 =>
  some (.inl (o109.2.2,(i_68 + 1),o251,o109.2.1))
 else
  some (.inr x_69)
def qbJ (N:Nat) (start_0:Reading) (x0:List (Relation)) (x1:List (List (Relation))):Option Table :=
 (mset ([]:List (Reading × Int)) start_0 0).bind fun l23 =>
 (iter (fun s=>qbk N x0 x1 s.1 s.2.1 s.2.2.1 s.2.2.2) N (([start_0]:List (Reading)),0,(Table.mk ([]) ([])),l23)).bind fun o52 =>
 some o52
def qb5 (N:Nat) (c_0:List (List (Relation))):Option (DFA × Int) :=
 (qdG N c_0).bind fun r3 =>
 bif (r3.2 != 0) then
  some ((DFA.mk 0 ([]) ([])),r3.2)
 else
  bif (decide (r3.1 > 4000)) then
   some ((DFA.mk 0 ([]) ([])),6)
  else
   (qet N c_0).bind fun r9 =>
   (qbJ N (Reading.mk 0 (Arr6_Tracker.mk (Tracker.mk 0 0) (Tracker.mk 0 0) (Tracker.mk 0 0) (Tracker.mk 0 0) (Tracker.mk 0 0) (Tracker.mk 0 0))) r9 c_0).bind fun r15 =>
   (qdA N r15).bind fun r24 =>
   bif (decide ((r24.next.length:Int) > 2000)) then
    some ((DFA.mk 0 ([]) ([])),6)
   else
    (qep N r24).bind fun r35 =>
    some (r35,0)
def qfM (_N:Nat) (s_0:DigitsRead) (symbol_1:Int):Option DigitsRead :=
 bif (symbol_1 == 10) then
  bif (s_0.phase == 1) then
   some (DigitsRead.mk 2 0 false)
  else
   bif (symbol_1 == 10) then
    some (DigitsRead.mk 4 0 false)
   else
    bif (s_0.phase == 4) then
     some (DigitsRead.mk 4 0 false)
    else
     bif s_0.zero then
      some (DigitsRead.mk 4 0 false)
     else
      bif (s_0.phase == 0) then
       some (DigitsRead.mk 1 1 (symbol_1 == 0))
      else
       bif (s_0.phase == 1) then
        bif (decide (s_0.count < 15)) then
         some (DigitsRead.mk 1 (s_0.count + 1) false)
        else
         bif (s_0.phase == 2) then
          some (DigitsRead.mk 3 1 false)
         else
          bif (s_0.phase == 3) then
           bif (decide (s_0.count < 6)) then
            some (DigitsRead.mk 3 (s_0.count + 1) false)
           else
            some (DigitsRead.mk 4 0 false)
          else
           some (DigitsRead.mk 4 0 false)
       else
        bif (s_0.phase == 2) then
         some (DigitsRead.mk 3 1 false)
        else
         bif (s_0.phase == 3) then
          bif (decide (s_0.count < 6)) then
           some (DigitsRead.mk 3 (s_0.count + 1) false)
          else
           some (DigitsRead.mk 4 0 false)
         else
          some (DigitsRead.mk 4 0 false)
 else
  bif (symbol_1 == 10) then
   some (DigitsRead.mk 4 0 false)
  else
   bif (s_0.phase == 4) then
    some (DigitsRead.mk 4 0 false)
   else
    bif s_0.zero then
     some (DigitsRead.mk 4 0 false)
    else
     bif (s_0.phase == 0) then
      some (DigitsRead.mk 1 1 (symbol_1 == 0))
     else
      bif (s_0.phase == 1) then
       bif (decide (s_0.count < 15)) then
        some (DigitsRead.mk 1 (s_0.count + 1) false)
       else
        bif (s_0.phase == 2) then
         some (DigitsRead.mk 3 1 false)
        else
         bif (s_0.phase == 3) then
          bif (decide (s_0.count < 6)) then
           some (DigitsRead.mk 3 (s_0.count + 1) false)
          else
           some (DigitsRead.mk 4 0 false)
         else
          some (DigitsRead.mk 4 0 false)
      else
       bif (s_0.phase == 2) then
        some (DigitsRead.mk 3 1 false)
       else
        bif (s_0.phase == 3) then
         bif (decide (s_0.count < 6)) then
          some (DigitsRead.mk 3 (s_0.count + 1) false)
         else
          some (DigitsRead.mk 4 0 false)
        else
         some (DigitsRead.mk 4 0 false)
def qhk (_N:Nat) (s_0:DigitsRead):Option Bool :=
 bif (s_0.phase == 1) then
  some true
 else
  some (s_0.phase == 3)
def qcs (N:Nat) (i_53:Int) (states_114:List (DigitsRead)) (x_115:Int) (x_116:Arr11_Int) (number_117:List (DigitsRead × Int)):Option (((List (DigitsRead)) × Int × Arr11_Int × (List (DigitsRead × Int))) ⊕ ((Arr11_Int × (List (DigitsRead × Int)) × (List (DigitsRead))))) :=
 bif (decide (x_115 < 11)) then
  (idx states_114 i_53).bind fun x138 =>
  (qfM N x138 x_115).bind fun r150 =>
  bif (!((mget number_117 r150).isSome)) then
   (mset number_117 r150 (states_114.length:Int)).bind fun l164 =>
   (app states_114 ([r150]:List (DigitsRead))).bind fun l171 =>
   (Arr11_Int.get x_116 x_115).bind fun _x176 =>
   (Arr11_Int.set x_116 x_115 (states_114.length:Int)).bind fun z178 =>
   some (.inl (l171,(x_115 + 1),z178,l164))
  else
   (Arr11_Int.get x_116 x_115).bind fun _x182 =>
   (Arr11_Int.set x_116 x_115 ((mget number_117 r150).getD 0)).bind fun z184 =>
   some (.inl (states_114,(x_115 + 1),z184,number_117))
 else
  some (.inr (x_116,number_117,states_114))
def qcr (N:Nat) (states_52:List (DigitsRead)) (i_53:Int) (x_54:Table) (number_55:List (DigitsRead × Int)):Option (((List (DigitsRead)) × Int × Table × (List (DigitsRead × Int))) ⊕ Table) :=
 bif (decide (i_53 < (states_52.length:Int))) then
  (iter (fun s=>qcs N i_53 s.1 s.2.1 s.2.2.1 s.2.2.2) N (states_52,0,(Arr11_Int.mk 0 0 0 0 0 0 0 0 0 0 0),number_55)).bind fun o94 =>
  (app x_54.next ([o94.1]:List (Arr11_Int))).bind fun l209 =>
  (show Option Table from
   (idx o94.2.2 i_53).bind fun x221 =>
   (qhk N x221).bind fun r233 =>
   (app x_54.accept ([r233]:List (Bool))).bind fun l238 =>
   some (Table.mk l209 l238)).bind fun o214 =>
  some (.inl (o94.2.2,(i_53 + 1),o214,o94.2.1))
 else
  some (.inr x_54)
def qcN (N:Nat) (start_0:DigitsRead):Option Table :=
 (mset ([]:List (DigitsRead × Int)) start_0 0).bind fun l8 =>
 (iter (fun s=>qcr N s.1 s.2.1 s.2.2.1 s.2.2.2) N (([start_0]:List (DigitsRead)),0,(Table.mk ([]) ([])),l8)).bind fun o37 =>
 some o37
def qgQ (N:Nat):Option DFA :=
 (qcN N (DigitsRead.mk 0 0 false)).bind fun r2 =>
 (qdA N r2).bind fun r11 =>
 (qep N r11).bind fun r20 =>
 some r20
end Go.Proofs.YtidfofhmnlhfjaaGreatDoor
namespace Go.Proofs.YtidfofhmnlhfjaaGreatDoor
open Go.X
structure Reduction where
 bound:Int
 mod:Int
 deriving DecidableEq
structure Walker where
 c:List (List (Relation))
 l:List (Relation)
 whole:Reduction
 part:Reduction
structure State2 where
 phase:Int
 whole:Int
 truth:List UInt8
 some:Bool
 v:Int
 w:Int
 f:Int
 t:Int
 deriving DecidableEq
structure Arr7_Bool where
 e0:Bool
 e1:Bool
 e2:Bool
 e3:Bool
 e4:Bool
 e5:Bool
 e6:Bool
 deriving DecidableEq
def Arr7_Bool.list (a:Arr7_Bool):List (Bool):=[a.e0,a.e1,a.e2,a.e3,a.e4,a.e5,a.e6]
def Arr7_Bool.of:List (Bool) → Option Arr7_Bool
 | [x0,x1,x2,x3,x4,x5,x6]=>some ⟨x0,x1,x2,x3,x4,x5,x6⟩
 | _=>none
def Arr7_Bool.get (a:Arr7_Bool) (i:Int):Option (Bool):=idx a.list i
def Arr7_Bool.set (a:Arr7_Bool) (i:Int) (x:Bool):Option Arr7_Bool:=(setI a.list i x).bind Arr7_Bool.of
def qgI (_N:Nat) (c_0:List (List (Relation))) (out_13:List (Relation)) (i_14:Int):Option (((List (Relation)) × Int) ⊕ (((List (Relation))))) :=
 bif (decide (i_14 < (c_0.length:Int))) then
  (idx c_0 i_14).bind fun x20 =>
  (app out_13 x20).bind fun l31 =>
  some (.inl (l31,(i_14 + 1)))
 else
  some (.inr out_13)
def qfC (N:Nat) (c_0:List (List (Relation))):Option (List (Relation)) :=
 (iter (fun s=>qgI N c_0 s.1 s.2) N ([],0)).bind fun o8 =>
 some o8
def qgx (_N:Nat) (r_0:Relation) (n_11:Int) (i_12:Int):Option ((Int × Int) ⊕ Int) :=
 bif (decide (i_12 < (r_0.Spans.length:Int))) then
  (idx r_0.Spans i_12).bind fun x16 =>
  some (.inl ((max n_11 x16.To),(i_12 + 1)))
 else
  some (.inr n_11)
def qdg (N:Nat) (r_0:Relation):Option Int :=
 (iter (fun s=>qgx N r_0 s.1 s.2) N (0,0)).bind fun o8 =>
 some o8
def qcy (N:Nat) (r4:(List (Relation))) (n_14:Int) (i_15:Int):Option ((Int × Int) ⊕ Int) :=
 bif (decide (i_15 < (r4.length:Int))) then
  (idx r4 i_15).bind fun x19 =>
  (show Option Int from
   bif (x19.Mod == 0) then
    (idx r4 i_15).bind fun x35 =>
    (qdg N x35).bind fun r48 =>
    some (IntKind.wrap .i64 (r48 + 2))
   else
    some x19.Mod).bind fun o32 =>
  (idx r4 i_15).bind fun x52 =>
  (show Option Int from
   bif (x52.Operand == 6) then
    some (IntKind.wrap .i64 (o32 * o32))
   else
    some o32).bind fun o65 =>
  some (.inl ((min 1000000 (IntKind.wrap .i64 (n_14 * o65))),(i_15 + 1)))
 else
  some (.inr n_14)
def qcD (N:Nat) (c_0:List (List (Relation))):Option (Int × Int) :=
 (qeX N c_0).bind fun r1 =>
 bif (!r1) then
  some (0,1)
 else
  (qfC N c_0).bind fun r4 =>
  (iter (fun s=>qcy N r4 s.1 s.2) N (1,0)).bind fun o11 =>
  some (o11,0)
def qd1 (r_calqueref10_gcd:Int → Int → Option Int) (N:Nat) (a_0:Int) (b_1:Int):Option Int :=
 bif (b_1 == 0) then
  some a_0
 else
  (rm a_0 b_1).bind fun q2 =>
  (r_calqueref10_gcd b_1 q2).bind fun r4 =>
  some r4
def qhR:Nat → (Int → Int → Option Int)
 | 0=>(fun _ _=>none)
 | N + 1=>(qd1 (qhR N) N)
def qdt (N:Nat):Int → Int → Option Int:=(qhR N)
def qcz (N:Nat) (l_0:List (Relation)) (a_1:Int) (b_2:Int) (i_11:Int) (x_12:Reduction):Option ((Int × Reduction) ⊕ Reduction) :=
 bif (decide (i_11 < (l_0.length:Int))) then
  (idx l_0 i_11).bind fun x17 =>
  bif (x17.Operand != a_1) then
   (idx l_0 i_11).bind fun x31 =>
   bif (x31.Operand != b_2) then
    some (.inl ((i_11 + 1),x_12))
   else
    (idx l_0 i_11).bind fun x45 =>
    bif (x45.Mod == 0) then
     (show Option Reduction from
      (idx l_0 i_11).bind fun x62 =>
      (qdg N x62).bind fun r75 =>
      some (Reduction.mk (max x_12.bound r75) x_12.mod)).bind fun o59 =>
     some (.inl ((i_11 + 1),o59))
    else
     (show Option Reduction from
      (idx l_0 i_11).bind fun x95 =>
      (qdt N x_12.mod x95.Mod).bind fun r108 =>
      (qt .i64 x_12.mod r108).bind fun q111 =>
      (idx l_0 i_11).bind fun x113 =>
      some (Reduction.mk x_12.bound (IntKind.wrap .i64 (q111 * x113.Mod)))).bind fun o92 =>
     some (.inl ((i_11 + 1),o92))
  else
   (idx l_0 i_11).bind fun x151 =>
   bif (x151.Mod == 0) then
    (show Option Reduction from
     (idx l_0 i_11).bind fun x168 =>
     (qdg N x168).bind fun r181 =>
     some (Reduction.mk (max x_12.bound r181) x_12.mod)).bind fun o165 =>
    some (.inl ((i_11 + 1),o165))
   else
    (show Option Reduction from
     (idx l_0 i_11).bind fun x201 =>
     (qdt N x_12.mod x201.Mod).bind fun r214 =>
     (qt .i64 x_12.mod r214).bind fun q217 =>
     (idx l_0 i_11).bind fun x219 =>
     some (Reduction.mk x_12.bound (IntKind.wrap .i64 (q217 * x219.Mod)))).bind fun o198 =>
    some (.inl ((i_11 + 1),o198))
 else
  some (.inr x_12)
def qdS (N:Nat) (l_0:List (Relation)) (a_1:Int) (b_2:Int):Option Reduction :=
 (iter (fun s=>qcz N l_0 a_1 b_2 s.1 s.2) N (0,(Reduction.mk (-1) 1))).bind fun o7 =>
 some o7
def qbM (_N:Nat) (x_0:Walker) (i_24:Int) (x_25:Arr7_Bool):Option ((Int × Arr7_Bool) ⊕ Arr7_Bool) :=
 bif (decide (i_24 < (x_0.l.length:Int))) then
  (idx x_0.l i_24).bind fun x28 =>
  (Arr7_Bool.get x_25 x28.Operand).bind fun _x41 =>
  (Arr7_Bool.set x_25 x28.Operand true).bind fun z43 =>
  some (.inl ((i_24 + 1),z43))
 else
  some (.inr x_25)
def qa9 (N:Nat) (x_0:Walker) (s_1:State2):Option State2 :=
 (iter (fun s=>qbM N x_0 s.1 s.2) N (0,(Arr7_Bool.mk false false false false false false false))).bind fun o22 =>
 (show Option State2 from
  bif (!o22.e1) then
   some (State2.mk s_1.phase s_1.whole s_1.truth false s_1.v s_1.w s_1.f s_1.t)
  else
   some s_1).bind fun o47 =>
 bif (!o22.e3) then
  (show Option State2 from
   bif (!o22.e4) then
    some (State2.mk o47.phase o47.whole o47.truth o47.some 0 o47.w o47.f o47.t)
   else
    some o47).bind fun o64 =>
  (show Option State2 from
   bif (!o22.e4) then
    some (State2.mk o64.phase o64.whole o64.truth o64.some o64.v 0 o64.f o64.t)
   else
    some o64).bind fun o80 =>
  bif (!o22.e5) then
   (show Option State2 from
    bif (!o22.e6) then
     some (State2.mk o80.phase o80.whole o80.truth o80.some o80.v o80.w 0 o80.t)
    else
     some o80).bind fun o97 =>
   bif (!o22.e6) then
    some (State2.mk o97.phase o97.whole o97.truth o97.some o97.v o97.w o97.f 0)
   else
    some o97
  else
   bif (!o22.e6) then
    some (State2.mk o80.phase o80.whole o80.truth o80.some o80.v o80.w o80.f 0)
   else
    some o80
 else
  (show Option State2 from
   bif (!o22.e4) then
    some (State2.mk o47.phase o47.whole o47.truth o47.some o47.v 0 o47.f o47.t)
   else
    some o47).bind fun o115 =>
  bif (!o22.e5) then
   (show Option State2 from
    bif (!o22.e6) then
     some (State2.mk o115.phase o115.whole o115.truth o115.some o115.v o115.w 0 o115.t)
    else
     some o115).bind fun o132 =>
   bif (!o22.e6) then
    some (State2.mk o132.phase o132.whole o132.truth o132.some o132.v o132.w o132.f 0)
   else
    some o132
  else
   bif (!o22.e6) then
    some (State2.mk o115.phase o115.whole o115.truth o115.some o115.v o115.w o115.f 0)
   else
    some o115
def qbi (_N:Nat) (x_0:Reduction) (n_1:Int):Option Int :=
 bif (decide (n_1 ≤ x_0.bound)) then
  some n_1
 else
  (rm (IntKind.wrap .i64 ((IntKind.wrap .i64 (n_1 - x_0.bound)) - 1)) x_0.mod).bind fun q5 =>
  some (IntKind.wrap .i64 ((IntKind.wrap .i64 (x_0.bound + 1)) + q5))
def qdW (_N:Nat) (l_0:List (Span)) (n_1:Int) (i_4:Int):Option (Int ⊕ ((Unit ⊕ Bool))) :=
 bif (decide (i_4 < (l_0.length:Int))) then
  (idx l_0 i_4).bind fun x7 =>
  bif (decide (n_1 ≥ x7.From)) then
   (idx l_0 i_4).bind fun x19 =>
   bif (decide (n_1 ≤ x19.To)) then
    some (.inr (.inr true))
   else
    some (.inl (i_4 + 1))
  else
   some (.inl (i_4 + 1))
 else
  some (.inr (.inl ()))
def qeP (N:Nat) (l_0:List (Span)) (n_1:Int):Option Bool :=
 (iter (fun s=>qdW N l_0 n_1 s) N 0).bind fun o2 =>
 Sum.elim (fun _o2 =>
  some false)
 (fun o2 =>
  some o2) o2
def qba (N:Nat) (r_0:Relation) (n_1:Int):Option Bool :=
 (show Option Int from
  bif (r_0.Mod != 0) then
   (rm n_1 r_0.Mod).bind fun q9 =>
   some q9
  else
   some n_1).bind fun o6 =>
 (qeP N r_0.Spans o6).bind fun r12 =>
 some (r12 != r_0.Not)
def qbI (N:Nat) (x_0:Walker) (n_1:Int) (s_15:List UInt8) (i_16:Int):Option (((List UInt8) × Int) ⊕ (((List UInt8)))) :=
 bif (decide (i_16 < (x_0.l.length:Int))) then
  (idx x_0.l i_16).bind fun x20 =>
  bif (decide (x20.Operand ≤ 2)) then
   (qba N x20 n_1).bind fun r35 =>
   bif r35 then
    (cat s_15 ([49])).bind fun s38 =>
    some (.inl (s38,(i_16 + 1)))
   else
    (cat s_15 ([48])).bind fun s40 =>
    some (.inl (s40,(i_16 + 1)))
  else
   (cat s_15 ([48])).bind fun s42 =>
   some (.inl (s42,(i_16 + 1)))
 else
  some (.inr s_15)
def qbn (N:Nat) (x_0:Walker) (n_1:Int):Option (List UInt8) :=
 (iter (fun s=>qbI N x_0 n_1 s.1 s.2) N ([],0)).bind fun o12 =>
 some o12
end Go.Proofs.YtidfofhmnlhfjaaGreatDoor
namespace Go.Proofs.YtidfofhmnlhfjaaGreatDoor
open Go.X
def qaQ (N:Nat) (x_0:Walker) (s_1:State2) (c_2:Int):Option State2 :=
 bif (decide (s_1.phase ≤ 1)) then
  bif (decide (c_2 < 10)) then
   (qbi N x_0.whole (IntKind.wrap .i64 ((IntKind.wrap .i64 ((10:Int) * s_1.whole)) + c_2))).bind fun r21 =>
   some (State2.mk 1 r21 ([]) false 0 0 0 0)
  else
   bif (s_1.phase == 1) then
    (qbn N x_0 s_1.whole).bind fun r25 =>
    some (State2.mk 2 0 r25 false 0 0 0 0)
   else
    bif (s_1.phase == 2) then
     bif (decide (c_2 < 10)) then
      (qbi N x_0.part (IntKind.wrap .i64 ((IntKind.wrap .i64 ((10:Int) * s_1.f)) + c_2))).bind fun r30 =>
      bif (c_2 != 0) then
       some (State2.mk 3 s_1.whole s_1.truth true (min (IntKind.wrap .i64 (s_1.v + 1)) 7) (min (IntKind.wrap .i64 (s_1.v + 1)) 7) r30 r30)
      else
       some (State2.mk 3 s_1.whole s_1.truth s_1.some (min (IntKind.wrap .i64 (s_1.v + 1)) 7) s_1.w r30 s_1.t)
     else
      some (State2.mk 4 0 ([]) false 0 0 0 0)
    else
     bif (s_1.phase == 3) then
      bif (decide (c_2 < 10)) then
       (qbi N x_0.part (IntKind.wrap .i64 ((IntKind.wrap .i64 ((10:Int) * s_1.f)) + c_2))).bind fun r36 =>
       bif (c_2 != 0) then
        some (State2.mk 3 s_1.whole s_1.truth true (min (IntKind.wrap .i64 (s_1.v + 1)) 7) (min (IntKind.wrap .i64 (s_1.v + 1)) 7) r36 r36)
       else
        some (State2.mk 3 s_1.whole s_1.truth s_1.some (min (IntKind.wrap .i64 (s_1.v + 1)) 7) s_1.w r36 s_1.t)
      else
       some (State2.mk 4 0 ([]) false 0 0 0 0)
     else
      some (State2.mk 4 0 ([]) false 0 0 0 0)
 else
  bif (s_1.phase == 1) then
   (qbn N x_0 s_1.whole).bind fun r41 =>
   some (State2.mk 2 0 r41 false 0 0 0 0)
  else
   bif (s_1.phase == 2) then
    bif (decide (c_2 < 10)) then
     (qbi N x_0.part (IntKind.wrap .i64 ((IntKind.wrap .i64 ((10:Int) * s_1.f)) + c_2))).bind fun r46 =>
     bif (c_2 != 0) then
      some (State2.mk 3 s_1.whole s_1.truth true (min (IntKind.wrap .i64 (s_1.v + 1)) 7) (min (IntKind.wrap .i64 (s_1.v + 1)) 7) r46 r46)
     else
      some (State2.mk 3 s_1.whole s_1.truth s_1.some (min (IntKind.wrap .i64 (s_1.v + 1)) 7) s_1.w r46 s_1.t)
    else
     some (State2.mk 4 0 ([]) false 0 0 0 0)
   else
    bif (s_1.phase == 3) then
     bif (decide (c_2 < 10)) then
      (qbi N x_0.part (IntKind.wrap .i64 ((IntKind.wrap .i64 ((10:Int) * s_1.f)) + c_2))).bind fun r52 =>
      bif (c_2 != 0) then
       some (State2.mk 3 s_1.whole s_1.truth true (min (IntKind.wrap .i64 (s_1.v + 1)) 7) (min (IntKind.wrap .i64 (s_1.v + 1)) 7) r52 r52)
      else
       some (State2.mk 3 s_1.whole s_1.truth s_1.some (min (IntKind.wrap .i64 (s_1.v + 1)) 7) s_1.w r52 s_1.t)
     else
      some (State2.mk 4 0 ([]) false 0 0 0 0)
    else
     some (State2.mk 4 0 ([]) false 0 0 0 0)
def qbC (N:Nat) (x_0:Walker) (o20:State2) (i_45:Int) (k_54:Int) (every_55:Bool) (j_56:Int):Option ((Int × Bool × Int) ⊕ ((Int × Bool))) :=
 (idx x_0.c i_45).bind fun x59 =>
 bif (decide (j_56 < (x59.length:Int))) then
  (idx x_0.l k_54).bind fun x71 =>
  (idx o20.truth k_54).bind fun c85 =>
  (show Option Bool from
   bif (x71.Operand == 1) then
    bif ((c85.toNat:Int) == 49) then
     bif (!o20.some) then
      some true
     else
      bif o20.some then
       some x71.Not
      else
       some false
    else
     bif o20.some then
      some x71.Not
     else
      some false
   else
    bif (x71.Operand == 3) then
     (qba N x71 o20.v).bind fun r94 =>
     some r94
    else
     bif (x71.Operand == 4) then
      (qba N x71 o20.w).bind fun r97 =>
      some r97
     else
      bif (x71.Operand == 5) then
       (qba N x71 o20.f).bind fun r100 =>
       some r100
      else
       bif (x71.Operand == 6) then
        (qba N x71 o20.t).bind fun r103 =>
        some r103
       else
        some ((c85.toNat:Int) == 49)).bind fun o87 =>
  bif every_55 then
   some (.inl ((IntKind.wrap .i64 (k_54 + 1)),o87,(j_56 + 1)))
  else
   some (.inl ((IntKind.wrap .i64 (k_54 + 1)),false,(j_56 + 1)))
 else
  some (.inr (k_54,every_55))
def qbg (N:Nat) (x_0:Walker) (o20:State2) (k_44:Int) (i_45:Int):Option ((Int × Int) ⊕ ((Unit ⊕ Bool))) :=
 bif (decide (i_45 < (x_0.c.length:Int))) then
  (iter (fun s=>qbC N x_0 o20 i_45 s.1 s.2.1 s.2.2) N (k_44,true,0)).bind fun o51 =>
  bif o51.2 then
   some (.inr (.inr true))
  else
   some (.inl (o51.1,(i_45 + 1)))
 else
  some (.inr (.inl ()))
def qee (N:Nat) (x_0:Walker) (o111:State2) (i_136:Int) (k_145:Int) (every_146:Bool) (j_147:Int):Option ((Int × Bool × Int) ⊕ ((Int × Bool))) :=
 (idx x_0.c i_136).bind fun x150 =>
 bif (decide (j_147 < (x150.length:Int))) then
  (idx x_0.l k_145).bind fun x162 =>
  (idx o111.truth k_145).bind fun c176 =>
  (show Option Bool from
   bif (x162.Operand == 1) then
    bif ((c176.toNat:Int) == 49) then
     bif (!o111.some) then
      some true
     else
      bif o111.some then
       some x162.Not
      else
       some false
    else
     bif o111.some then
      some x162.Not
     else
      some false
   else
    bif (x162.Operand == 3) then
     (qba N x162 o111.v).bind fun r185 =>
     some r185
    else
     bif (x162.Operand == 4) then
      (qba N x162 o111.w).bind fun r188 =>
      some r188
     else
      bif (x162.Operand == 5) then
       (qba N x162 o111.f).bind fun r191 =>
       some r191
      else
       bif (x162.Operand == 6) then
        (qba N x162 o111.t).bind fun r194 =>
        some r194
       else
        some ((c176.toNat:Int) == 49)).bind fun o178 =>
  bif every_146 then
   some (.inl ((IntKind.wrap .i64 (k_145 + 1)),o178,(j_147 + 1)))
  else
   some (.inl ((IntKind.wrap .i64 (k_145 + 1)),false,(j_147 + 1)))
 else
  some (.inr (k_145,every_146))
def qda (N:Nat) (x_0:Walker) (o111:State2) (k_135:Int) (i_136:Int):Option ((Int × Int) ⊕ ((Unit ⊕ Bool))) :=
 bif (decide (i_136 < (x_0.c.length:Int))) then
  (iter (fun s=>qee N x_0 o111 i_136 s.1 s.2.1 s.2.2) N (k_135,true,0)).bind fun o142 =>
  bif o142.2 then
   some (.inr (.inr true))
  else
   some (.inl (o142.1,(i_136 + 1)))
 else
  some (.inr (.inl ()))
def qbA (N:Nat) (x_0:Walker) (s_1:State2):Option Bool :=
 bif (s_1.phase != 1) then
  bif (s_1.phase != 3) then
   some false
  else
   (show Option State2 from
    bif (s_1.phase == 1) then
     (qbn N x_0 s_1.whole).bind fun r29 =>
     some (State2.mk s_1.phase s_1.whole r29 s_1.some s_1.v s_1.w s_1.f s_1.t)
    else
     some s_1).bind fun o20 =>
   (iter (fun s=>qbg N x_0 o20 s.1 s.2) N (0,0)).bind fun o41 =>
   Sum.elim (fun _o41 =>
    some false)
   (fun o41 =>
    some o41) o41
 else
  (show Option State2 from
   bif (s_1.phase == 1) then
    (qbn N x_0 s_1.whole).bind fun r120 =>
    some (State2.mk s_1.phase s_1.whole r120 s_1.some s_1.v s_1.w s_1.f s_1.t)
   else
    some s_1).bind fun o111 =>
  (iter (fun s=>qda N x_0 o111 s.1 s.2) N (0,0)).bind fun o132 =>
  Sum.elim (fun _o132 =>
   some false)
  (fun o132 =>
   some o132) o132
def qcL (_N:Nat) (d_0:DFA) (of_1:List (Int)) (a_2:Int) (b_3:Int) (c_31:Int):Option (Int ⊕ ((Unit ⊕ Bool))) :=
 bif (decide (c_31 < 11)) then
  (idx d_0.Next a_2).bind fun x34 =>
  (idx x34 c_31).bind fun x45 =>
  (idx of_1 x45).bind fun x55 =>
  (idx d_0.Next b_3).bind fun x65 =>
  (idx x65 c_31).bind fun x76 =>
  (idx of_1 x76).bind fun x86 =>
  bif (x55 != x86) then
   some (.inr (.inr false))
  else
   some (.inl (c_31 + 1))
 else
  some (.inr (.inl ()))
def qeV (N:Nat) (d_0:DFA) (of_1:List (Int)) (a_2:Int) (b_3:Int):Option Bool :=
 (idx of_1 a_2).bind fun x7 =>
 (idx of_1 b_3).bind fun x17 =>
 bif (x7 != x17) then
  some false
 else
  (iter (fun s=>qcL N d_0 of_1 a_2 b_3 s) N 0).bind fun o29 =>
  Sum.elim (fun _o29 =>
   some true)
  (fun o29 =>
   some o29) o29
def qcT (_N:Nat) (d_0:DFA) (of_19:List (Int)) (i_20:Int):Option (((List (Int)) × Int) ⊕ (((List (Int))))) :=
 bif (decide (i_20 < (d_0.Next.length:Int))) then
  (idx d_0.Accept i_20).bind fun x26 =>
  (show Option Int from
   bif x26 then
    some 1
   else
    some 0).bind fun o35 =>
  (app of_19 ([o35]:List (Int))).bind fun l42 =>
  some (.inl (l42,(i_20 + 1)))
 else
  some (.inr of_19)
def qck (N:Nat) (d_0:DFA) (of_59:List (Int)) (first_86:List (Int)) (i_87:Int) (n_99:Int):Option (Int ⊕ Int) :=
 bif (decide (n_99 < (first_86.length:Int))) then
  (idx first_86 n_99).bind fun x102 =>
  (qeV N d_0 of_59 i_87 x102).bind fun r118 =>
  bif (!r118) then
   some (.inl (n_99 + 1))
  else
   some (.inr n_99)
 else
  some (.inr n_99)
def qcR (N:Nat) (d_0:DFA) (of_59:List (Int)) (next_85:List (Int)) (first_86:List (Int)) (i_87:Int):Option (((List (Int)) × (List (Int)) × Int) ⊕ (((List (Int)) × (List (Int))))) :=
 bif (decide (i_87 < (d_0.Next.length:Int))) then
  (iter (fun s=>qck N d_0 of_59 first_86 i_87 s) N 0).bind fun o97 =>
  (show Option ((List (Int))) from
   bif (o97 == (first_86.length:Int)) then
    (app first_86 ([i_87]:List (Int))).bind fun l130 =>
    some l130
   else
    some first_86).bind fun o122 =>
  (app next_85 ([o97]:List (Int))).bind fun l141 =>
  some (.inl (l141,o122,(i_87 + 1)))
 else
  some (.inr (next_85,first_86))
def qdE (N:Nat) (d_0:DFA) (of_59:List (Int)) (count_60:Int):Option (((List (Int)) × Int) ⊕ (((List (Int))))) :=
 (iter (fun s=>qcR N d_0 of_59 s.1 s.2.1 s.2.2) N ([],[],0)).bind fun o77 =>
 bif ((o77.2.length:Int) == count_60) then
  some (.inr o77.1)
 else
  some (.inl (o77.1,(o77.2.length:Int)))
def qei (N:Nat) (d_0:DFA):Option (List (Int)) :=
 (iter (fun s=>qcT N d_0 s.1 s.2) N ([],0)).bind fun o14 =>
 (iter (fun s=>qdE N d_0 s.1 s.2) N (o14,1)).bind fun o54 =>
 some o54
def qdk (_N:Nat) (l_0:List (Int)) (n_1:Int) (i_4:Int):Option (Int ⊕ ((Unit ⊕ Int))) :=
 bif (decide (i_4 < (l_0.length:Int))) then
  (idx l_0 i_4).bind fun x7 =>
  bif (x7 == n_1) then
   some (.inr (.inr i_4))
  else
   some (.inl (i_4 + 1))
 else
  some (.inr (.inl ()))
def qeY (N:Nat) (l_0:List (Int)) (n_1:Int):Option Int :=
 (iter (fun s=>qdk N l_0 n_1 s) N 0).bind fun o2 =>
 Sum.elim (fun _o2 =>
  some (-1))
 (fun o2 =>
  some o2) o2
end Go.Proofs.YtidfofhmnlhfjaaGreatDoor
namespace Go.Proofs.YtidfofhmnlhfjaaGreatDoor
open Go.X
def qcQ (N:Nat) (d_0:DFA) (r8:(List (Int))) (i_73:Int) (found_121:List (Int)) (state_122:List (Int)) (row_123:List (Int)) (c_124:Int):Option (((List (Int)) × (List (Int)) × (List (Int)) × Int) ⊕ (((List (Int)) × (List (Int)) × (List (Int))))) :=
 bif (decide (c_124 < 11)) then
  (idx state_122 i_73).bind fun x136 =>
  (idx d_0.Next x136).bind fun x147 =>
  (idx x147 c_124).bind fun x158 =>
  (idx r8 x158).bind fun x168 =>
  (qeY N found_121 x168).bind fun r183 =>
  (show Option ((List (Int)) × (List (Int)) × Int) from
   bif (decide (r183 < 0)) then
    (idx r8 x158).bind fun x195 =>
    (app found_121 ([x195]:List (Int))).bind fun l208 =>
    (app state_122 ([x158]:List (Int))).bind fun l216 =>
    some (l208,l216,(found_121.length:Int))
   else
    some (found_121,state_122,r183)).bind fun o186 =>
  (app row_123 ([o186.2.2]:List (Int))).bind fun l231 =>
  some (.inl (o186.1,o186.2.1,l231,(c_124 + 1)))
 else
  some (.inr (found_121,state_122,row_123))
def qcS (N:Nat) (d_0:DFA) (r8:(List (Int))) (found_71:List (Int)) (state_72:List (Int)) (i_73:Int) (x_74:DFA):Option (((List (Int)) × (List (Int)) × Int × DFA) ⊕ DFA) :=
 bif (decide (i_73 < (found_71.length:Int))) then
  (iter (fun s=>qcQ N d_0 r8 i_73 s.1 s.2.1 s.2.2.1 s.2.2.2) N (found_71,state_72,[],0)).bind fun o110 =>
  (show Option DFA from
   (app x_74.Next ([o110.2.2]:List (List (Int)))).bind fun l259 =>
   (idx o110.2.1 i_73).bind fun x264 =>
   (idx d_0.Accept x264).bind fun x275 =>
   (app x_74.Accept ([x275]:List (Bool))).bind fun l287 =>
   some (DFA.mk x_74.Start l259 l287)).bind fun o245 =>
  some (.inl (o110.1,o110.2.1,(i_73 + 1),o245))
 else
  some (.inr x_74)
def qdz (N:Nat) (d_0:DFA):Option DFA :=
 (qei N d_0).bind fun r8 =>
 (idx r8 d_0.Start).bind fun x13 =>
 (iter (fun s=>qcS N d_0 r8 s.1 s.2.1 s.2.2.1 s.2.2.2) N (([x13]:List (Int)),([d_0.Start]:List (Int)),0,(DFA.mk 0 ([]) ([])))).bind fun o55 =>
 some o55
def qfq (N:Nat) (d_0:DFA):Option DFA :=
 (qdz N d_0).bind fun r8 =>
 some r8
def qfT (N:Nat) (d_0:DFA):Option (DFA × Int) :=
 (qfq N d_0).bind fun r8 =>
 bif (decide ((r8.Next.length:Int) > 2000)) then
  some ((DFA.mk 0 ([]) ([])),6)
 else
  some (r8,0)
def qcx (_N:Nat) (found_102:List (State2)) (o114:State2) (n_246:Int):Option (Int ⊕ Int) :=
 bif (decide (n_246 < (found_102.length:Int))) then
  (idx found_102 n_246).bind fun x249 =>
  bif (!((x249.phase == o114.phase) && ((x249.whole == o114.whole) && ((x249.truth == o114.truth) && ((x249.some == o114.some) && ((x249.v == o114.v) && ((x249.w == o114.w) && ((x249.f == o114.f) && (x249.t == o114.t))))))))) then
   some (.inl (n_246 + 1))
  else
   some (.inr n_246)
 else
  some (.inr n_246)
def qb2 (N:Nat) (c_0:List (List (Relation))) (r8:(List (Relation))) (r13:Reduction) (r20:Reduction) (i_65:Int) (found_102:List (State2)) (row_103:List (Int)) (k_104:Int):Option (((List (State2)) × (List (Int)) × Int) ⊕ (((List (State2)) × (List (Int))))) :=
 bif (decide (k_104 < 11)) then
  (show Option State2 from
   (idx found_102 i_65).bind fun x124 =>
   (qaQ N (Walker.mk c_0 r8 r13 r20) x124 k_104).bind fun r141 =>
   (qa9 N (Walker.mk c_0 r8 r13 r20) r141).bind fun r153 =>
   some r153).bind fun o114 =>
  (iter (fun s=>qcx N found_102 o114 s) N 0).bind fun o244 =>
  (show Option ((List (State2))) from
   bif (o244 == (found_102.length:Int)) then
    (app found_102 ([o114]:List (State2))).bind fun l276 =>
    some l276
   else
    some found_102).bind fun o268 =>
  (app row_103 ([o244]:List (Int))).bind fun l287 =>
  some (.inl (o268,l287,(k_104 + 1)))
 else
  some (.inr (found_102,row_103))
def qcw (N:Nat) (c_0:List (List (Relation))) (r8:(List (Relation))) (r13:Reduction) (r20:Reduction) (found_64:List (State2)) (i_65:Int) (x_66:DFA):Option (((List (State2)) × Int × DFA) ⊕ DFA) :=
 bif (decide (i_65 < (found_64.length:Int))) then
  (iter (fun s=>qb2 N c_0 r8 r13 r20 i_65 s.1 s.2.1 s.2.2) N (found_64,[],0)).bind fun o93 =>
  (show Option DFA from
   (app x_66.Next ([o93.2]:List (List (Int)))).bind fun l314 =>
   (idx o93.1 i_65).bind fun x319 =>
   (qbA N (Walker.mk c_0 r8 r13 r20) x319).bind fun r336 =>
   (app x_66.Accept ([r336]:List (Bool))).bind fun l341 =>
   some (DFA.mk x_66.Start l314 l341)).bind fun o300 =>
  some (.inl (o93.1,(i_65 + 1),o300))
 else
  some (.inr x_66)
def qbt (N:Nat) (c_0:List (List (Relation))):Option (DFA × Int) :=
 (qcD N c_0).bind fun r2 =>
 bif (r2.2 != 0) then
  some ((DFA.mk 0 ([]) ([])),r2.2)
 else
  bif (decide (r2.1 > 4000)) then
   some ((DFA.mk 0 ([]) ([])),6)
  else
   (qfC N c_0).bind fun r8 =>
   (qdS N r8 1 2).bind fun r13 =>
   (qdS N r8 5 6).bind fun r20 =>
   (iter (fun s=>qcw N c_0 r8 r13 r20 s.1 s.2.1 s.2.2) N (([(State2.mk 0 0 ([]) false 0 0 0 0)]:List (State2)),0,(DFA.mk 0 ([]) ([])))).bind fun o51 =>
   (qfT N o51).bind fun r402 =>
   some (r402.1,r402.2)
def qge (_N:Nat) (d_0:DFA) (i_15:Int) (c_33:Int):Option (Int ⊕ ((Unit ⊕ Bool))) :=
 bif (decide (c_33 < 11)) then
  (idx d_0.Next i_15).bind fun x36 =>
  (idx x36 c_33).bind fun x47 =>
  bif (decide (x47 < 0)) then
   some (.inr (.inr false))
  else
   (idx d_0.Next i_15).bind fun x58 =>
   (idx x58 c_33).bind fun x69 =>
   bif (decide (x69 ≥ (d_0.Next.length:Int))) then
    some (.inr (.inr false))
   else
    some (.inl (c_33 + 1))
 else
  some (.inr (.inl ()))
def qgk (N:Nat) (d_0:DFA) (i_15:Int):Option (Int ⊕ ((Unit ⊕ Bool))) :=
 bif (decide (i_15 < (d_0.Next.length:Int))) then
  (idx d_0.Next i_15).bind fun x18 =>
  bif ((x18.length:Int) != 11) then
   some (.inr (.inr false))
  else
   (iter (fun s=>qge N d_0 i_15 s) N 0).bind fun o31 =>
   Sum.elim (fun _o31 =>
    some (.inl (i_15 + 1)))
   (fun o31 =>
    some (.inr (.inr o31))) o31
 else
  some (.inr (.inl ()))
def qgZ (N:Nat) (d_0:DFA):Option Bool :=
 bif (decide ((d_0.Next.length:Int) < 1)) then
  some false
 else
  bif (decide ((d_0.Next.length:Int) > 2000)) then
   some false
  else
   bif ((d_0.Accept.length:Int) != (d_0.Next.length:Int)) then
    some false
   else
    bif (decide (d_0.Start < 0)) then
     some false
    else
     bif (decide (d_0.Start ≥ (d_0.Next.length:Int))) then
      some false
     else
      (iter (fun s=>qgk N d_0 s) N 0).bind fun o13 =>
      Sum.elim (fun _o13 =>
       some true)
      (fun o13 =>
       some o13) o13
def qgz (N:Nat) (d_0:DFA):Option (DFA × Int) :=
 (qgZ N d_0).bind fun r8 =>
 bif (!r8) then
  some ((DFA.mk 0 ([]) ([])),1)
 else
  (qdz N d_0).bind fun r11 =>
  some (r11,0)
end Go.Proofs.YtidfofhmnlhfjaaGreatDoor
namespace Go.Proofs.YtidfofhmnlhfjaaGreatDoor
open Go.X
def qfL (_N:Nat) (s_26:Int) (row_50:List (Int)) (c_51:Int):Option (((List (Int)) × Int) ⊕ (((List (Int))))) :=
 bif (decide (c_51 < 11)) then
  bif (s_26 == 0) then
   (show Option Int from
    bif (c_51 == 0) then
     some 16
    else
     bif (decide (s_26 < 15)) then
      bif (decide (c_51 < 10)) then
       some (s_26 + 1)
      else
       bif (decide (s_26 > 0)) then
        bif (decide (s_26 ≤ 16)) then
         bif (c_51 == 10) then
          some 17
         else
          bif (decide (s_26 ≥ 17)) then
           bif (decide (s_26 < 23)) then
            bif (decide (c_51 < 10)) then
             some (s_26 + 1)
            else
             some 24
           else
            some 24
          else
           some 24
        else
         bif (decide (s_26 ≥ 17)) then
          bif (decide (s_26 < 23)) then
           bif (decide (c_51 < 10)) then
            some (s_26 + 1)
           else
            some 24
          else
           some 24
         else
          some 24
       else
        bif (decide (s_26 ≥ 17)) then
         bif (decide (s_26 < 23)) then
          bif (decide (c_51 < 10)) then
           some (s_26 + 1)
          else
           some 24
         else
          some 24
        else
         some 24
     else
      bif (decide (s_26 > 0)) then
       bif (decide (s_26 ≤ 16)) then
        bif (c_51 == 10) then
         some 17
        else
         bif (decide (s_26 ≥ 17)) then
          bif (decide (s_26 < 23)) then
           bif (decide (c_51 < 10)) then
            some (s_26 + 1)
           else
            some 24
          else
           some 24
         else
          some 24
       else
        bif (decide (s_26 ≥ 17)) then
         bif (decide (s_26 < 23)) then
          bif (decide (c_51 < 10)) then
           some (s_26 + 1)
          else
           some 24
         else
          some 24
        else
         some 24
      else
       bif (decide (s_26 ≥ 17)) then
        bif (decide (s_26 < 23)) then
         bif (decide (c_51 < 10)) then
          some (s_26 + 1)
         else
          some 24
        else
         some 24
       else
        some 24).bind fun o58 =>
   (app row_50 ([o58]:List (Int))).bind fun l91 =>
   some (.inl (l91,(c_51 + 1)))
  else
   bif (decide (s_26 < 15)) then
    (show Option Int from
     bif (decide (c_51 < 10)) then
      some (s_26 + 1)
     else
      bif (decide (s_26 > 0)) then
       bif (decide (s_26 ≤ 16)) then
        bif (c_51 == 10) then
         some 17
        else
         bif (decide (s_26 ≥ 17)) then
          bif (decide (s_26 < 23)) then
           bif (decide (c_51 < 10)) then
            some (s_26 + 1)
           else
            some 24
          else
           some 24
         else
          some 24
       else
        bif (decide (s_26 ≥ 17)) then
         bif (decide (s_26 < 23)) then
          bif (decide (c_51 < 10)) then
           some (s_26 + 1)
          else
           some 24
         else
          some 24
        else
         some 24
      else
       bif (decide (s_26 ≥ 17)) then
        bif (decide (s_26 < 23)) then
         bif (decide (c_51 < 10)) then
          some (s_26 + 1)
         else
          some 24
        else
         some 24
       else
        some 24).bind fun o97 =>
    (app row_50 ([o97]:List (Int))).bind fun l116 =>
    some (.inl (l116,(c_51 + 1)))
   else
    bif (decide (s_26 > 0)) then
     bif (decide (s_26 ≤ 16)) then
      (show Option Int from
       bif (c_51 == 10) then
        some 17
       else
        bif (decide (s_26 ≥ 17)) then
         bif (decide (s_26 < 23)) then
          bif (decide (c_51 < 10)) then
           some (s_26 + 1)
          else
           some 24
         else
          some 24
        else
         some 24).bind fun o123 =>
      (app row_50 ([o123]:List (Int))).bind fun l133 =>
      some (.inl (l133,(c_51 + 1)))
     else
      bif (decide (s_26 ≥ 17)) then
       bif (decide (s_26 < 23)) then
        (show Option Int from
         bif (decide (c_51 < 10)) then
          some (s_26 + 1)
         else
          some 24).bind fun o140 =>
        (app row_50 ([o140]:List (Int))).bind fun l147 =>
        some (.inl (l147,(c_51 + 1)))
       else
        (app row_50 ([24]:List (Int))).bind fun l155 =>
        some (.inl (l155,(c_51 + 1)))
      else
       (app row_50 ([24]:List (Int))).bind fun l163 =>
       some (.inl (l163,(c_51 + 1)))
    else
     bif (decide (s_26 ≥ 17)) then
      bif (decide (s_26 < 23)) then
       (show Option Int from
        bif (decide (c_51 < 10)) then
         some (s_26 + 1)
        else
         some 24).bind fun o170 =>
       (app row_50 ([o170]:List (Int))).bind fun l177 =>
       some (.inl (l177,(c_51 + 1)))
      else
       (app row_50 ([24]:List (Int))).bind fun l185 =>
       some (.inl (l185,(c_51 + 1)))
     else
      (app row_50 ([24]:List (Int))).bind fun l193 =>
      some (.inl (l193,(c_51 + 1)))
 else
  some (.inr row_50)
def qfO (N:Nat) (s_26:Int) (x_27:DFA):Option ((Int × DFA) ⊕ DFA) :=
 bif (decide (s_26 ≤ 24)) then
  (iter (fun s=>qfL N s_26 s.1 s.2) N ([],0)).bind fun o45 =>
  (show Option DFA from
   (app x_27.Next ([o45]:List (List (Int)))).bind fun l215 =>
   bif (decide (s_26 > 0)) then
    bif (decide (s_26 < 24)) then
     (app x_27.Accept ([(s_26 != 17)]:List (Bool))).bind fun l225 =>
     some (DFA.mk x_27.Start l215 l225)
    else
     (app x_27.Accept ([false]:List (Bool))).bind fun l247 =>
     some (DFA.mk x_27.Start l215 l247)
   else
    (app x_27.Accept ([false]:List (Bool))).bind fun l269 =>
    some (DFA.mk x_27.Start l215 l269)).bind fun o201 =>
  some (.inl ((IntKind.wrap .i64 (s_26 + 1)),o201))
 else
  some (.inr x_27)
def qfu (N:Nat):Option DFA :=
 (iter (fun s=>qfO N s.1 s.2) N (0,(DFA.mk 0 ([]) ([])))).bind fun o16 =>
 (qgz N o16).bind fun r311 =>
 some r311.1
def qdi (_N:Nat) (a_0:DFA) (b_1:DFA) (i_19:Int) (c_48:Int):Option (Int ⊕ ((Unit ⊕ Bool))) :=
 (idx a_0.Next i_19).bind fun x50 =>
 bif (decide (c_48 < (x50.length:Int))) then
  (idx a_0.Next i_19).bind fun x62 =>
  (idx x62 c_48).bind fun x73 =>
  (idx b_1.Next i_19).bind fun x83 =>
  (idx x83 c_48).bind fun x94 =>
  bif (x73 != x94) then
   some (.inr (.inr false))
  else
   some (.inl (c_48 + 1))
 else
  some (.inr (.inl ()))
def qdj (N:Nat) (a_0:DFA) (b_1:DFA) (i_19:Int):Option (Int ⊕ ((Unit ⊕ Bool))) :=
 bif (decide (i_19 < (a_0.Next.length:Int))) then
  (idx a_0.Next i_19).bind fun x22 =>
  (idx b_1.Next i_19).bind fun x33 =>
  bif ((x22.length:Int) != (x33.length:Int)) then
   some (.inr (.inr false))
  else
   (iter (fun s=>qdi N a_0 b_1 i_19 s) N 0).bind fun o46 =>
   Sum.elim (fun _o46 =>
    some (.inl (i_19 + 1)))
   (fun o46 =>
    some (.inr (.inr o46))) o46
 else
  some (.inr (.inl ()))
def qdl (_N:Nat) (a_0:DFA) (b_1:DFA) (i_110:Int):Option (Int ⊕ ((Unit ⊕ Bool))) :=
 bif (decide (i_110 < (a_0.Accept.length:Int))) then
  (idx a_0.Accept i_110).bind fun x113 =>
  (idx b_1.Accept i_110).bind fun x122 =>
  bif (x113 != x122) then
   some (.inr (.inr false))
  else
   some (.inl (i_110 + 1))
 else
  some (.inr (.inl ()))
def qbS (N:Nat) (a_0:DFA) (b_1:DFA):Option Bool :=
 bif (a_0.Start != b_1.Start) then
  some false
 else
  bif ((a_0.Next.length:Int) != (b_1.Next.length:Int)) then
   some false
  else
   bif ((a_0.Accept.length:Int) != (b_1.Accept.length:Int)) then
    some false
   else
    (iter (fun s=>qdj N a_0 b_1 s) N 0).bind fun o17 =>
    Sum.elim (fun _o17 =>
     (iter (fun s=>qdl N a_0 b_1 s) N 0).bind fun o108 =>
     Sum.elim (fun _o108 =>
      some true)
     (fun o108 =>
      some o108) o108)
    (fun o17 =>
     some o17) o17
end Go.Proofs.YtidfofhmnlhfjaaGreatDoor
namespace Go.Proofs.YtidfofhmnlhfjaaGreatDoor
open Go.X
def qbL (N:Nat) (c_0:List (List (Relation))):Option Bool :=
 (qdr N ).bind fun r1 =>
 bif (!r1) then
  (qdr N ).bind fun r4 =>
  some r4
 else
  (qfA N ([c_0]:List (List (List (Relation))))).bind fun r14 =>
  bif (!r14) then
   (qdr N ).bind fun r17 =>
   some r17
  else
   (qdG N c_0).bind fun r19 =>
   (qcD N c_0).bind fun r23 =>
   bif (r19.1 != r23.1) then
    some false
   else
    bif (r19.2 != r23.2) then
     some false
    else
     (qgQ N ).bind fun r29 =>
     (qfu N ).bind fun r39 =>
     (qbS N r29 r39).bind fun r49 =>
     bif (!r49) then
      some false
     else
      bif (r19.2 == 0) then
       bif (decide (r19.1 > 120)) then
        bif (decide (r19.1 ≤ 4000)) then
         some true
        else
         (qb5 N c_0).bind fun r55 =>
         (qbt N c_0).bind fun r67 =>
         bif (r55.2 == r67.2) then
          (qbS N r55.1 r67.1).bind fun r80 =>
          some r80
         else
          some false
       else
        (qb5 N c_0).bind fun r82 =>
        (qbt N c_0).bind fun r94 =>
        bif (r82.2 == r94.2) then
         (qbS N r82.1 r94.1).bind fun r107 =>
         some r107
        else
         some false
      else
       (qb5 N c_0).bind fun r109 =>
       (qbt N c_0).bind fun r121 =>
       bif (r109.2 == r121.2) then
        (qbS N r109.1 r121.1).bind fun r134 =>
        some r134
       else
        some false
end Go.Proofs.YtidfofhmnlhfjaaGreatDoor
namespace Go.Proofs
open Go.Shelf
def Tryz.laysM171_ren:Go.Shelf.Ren:=⟨fun | 171=>122 | 243=>149 | 246=>165 | 283=>178 | 284=>179 | 285=>180 | 286=>181 | 129=>196 | 317=>195 | 318=>197 | 319=>198 | 320=>199 | 337=>208 | 338=>209 | n=>n,fun | 3=>3 | 9=>9 | 2=>2 | 4=>4 | 171=>223 | 0=>0 | 53=>178 | 37=>160 | 5=>5 | 173=>226 | 212=>239 | 51=>240 | 20=>20 | 213=>241 | 46=>230 | 232=>261 | 233=>262 | n=>n,fun | 17=>1 | 18=>6 | 19=>7 | n=>n⟩
theorem Tryz.laysM171:Go.Proofs.LaysM.n171 Tryz.prog Tryz.laysM171_ren:={
 mixed:=by kernel_rfl
 f129:=Tryz.func196.trans (congrArg some (by kernel_rfl))
 f171:=Tryz.func122.trans (congrArg some (by kernel_rfl))
 f243:=Tryz.func149.trans (congrArg some (by kernel_rfl))
 f246:=Tryz.func165.trans (congrArg some (by kernel_rfl))
 f283:=Tryz.func178.trans (congrArg some (by kernel_rfl))
 f284:=Tryz.func179.trans (congrArg some (by kernel_rfl))
 f285:=Tryz.func180.trans (congrArg some (by kernel_rfl))
 f286:=Tryz.func181.trans (congrArg some (by kernel_rfl))
 f317:=Tryz.func195.trans (congrArg some (by kernel_rfl))
 f318:=Tryz.func197.trans (congrArg some (by kernel_rfl))
 f319:=Tryz.func198.trans (congrArg some (by kernel_rfl))
 f320:=Tryz.func199.trans (congrArg some (by kernel_rfl))
 f337:=Tryz.func208.trans (congrArg some (by kernel_rfl))
 f338:=Tryz.func209.trans (congrArg some (by kernel_rfl))
 t0:=Tryz.underlying0
 a0:=Tryz.isAgg0
 z0:=Tryz.sizeOf0
 v0:=Tryz.zeroValue0
 t2:=Tryz.underlying2
 a2:=Tryz.isAgg2
 z2:=Tryz.sizeOf2
 v2:=Tryz.zeroValue2
 t3:=Tryz.underlying3
 a3:=Tryz.isAgg3
 z3:=Tryz.sizeOf3
 v3:=Tryz.zeroValue3
 t4:=Tryz.underlying4
 a4:=Tryz.isAgg4
 z4:=Tryz.sizeOf4
 v4:=Tryz.zeroValue4
 t5:=Tryz.underlying5
 a5:=Tryz.isAgg5
 z5:=Tryz.sizeOf5
 v5:=Tryz.zeroValue5
 t9:=Tryz.underlying9
 a9:=Tryz.isAgg9
 z9:=Tryz.sizeOf9
 v9:=Tryz.zeroValue9
 t20:=Tryz.underlying20
 a20:=Tryz.isAgg20
 z20:=Tryz.sizeOf20
 v20:=Tryz.zeroValue20
 t37:=Tryz.underlying160
 a37:=Tryz.isAgg160
 z37:=Tryz.sizeOf160
 v37:=Tryz.zeroValue160
 t46:=Tryz.underlying230
 a46:=Tryz.isAgg230
 z46:=Tryz.sizeOf230
 v46:=Tryz.zeroValue230
 t51:=Tryz.underlying240
 a51:=Tryz.isAgg240
 z51:=Tryz.sizeOf240
 v51:=Tryz.zeroValue240
 t53:=Tryz.underlying178
 a53:=Tryz.isAgg178
 z53:=Tryz.sizeOf178
 v53:=Tryz.zeroValue178
 t171:=Tryz.underlying223
 a171:=Tryz.isAgg223
 z171:=Tryz.sizeOf223
 v171:=Tryz.zeroValue223
 t173:=Tryz.underlying226
 a173:=Tryz.isAgg226
 z173:=Tryz.sizeOf226
 v173:=Tryz.zeroValue226
 t212:=Tryz.underlying239
 a212:=Tryz.isAgg239
 z212:=Tryz.sizeOf239
 v212:=Tryz.zeroValue239
 t213:=Tryz.underlying241
 a213:=Tryz.isAgg241
 z213:=Tryz.sizeOf241
 t232:=Tryz.underlying261
 a232:=Tryz.isAgg261
 z232:=Tryz.sizeOf261
 v232:=Tryz.zeroValue261
 t233:=Tryz.underlying262
 a233:=Tryz.isAgg262
 z233:=Tryz.sizeOf262
 v233:=Tryz.zeroValue262
 g17:=by kernel_rfl
 g18:=by kernel_rfl
 g19:=by kernel_rfl
 i0:=by kernel_rfl
 i2:=by kernel_rfl
 i3:=by kernel_rfl
 i4:=by kernel_rfl
 i5:=by kernel_rfl
 i9:=by kernel_rfl
 i20:=by kernel_rfl
 i37:=by kernel_rfl
 i46:=by kernel_rfl
 i51:=by kernel_rfl
 i53:=by kernel_rfl
 i171:=by kernel_rfl
 i173:=by kernel_rfl
 i212:=by kernel_rfl
 i232:=by kernel_rfl
 i233:=by kernel_rfl
 m17:=by kernel_rfl
 m18:=by kernel_rfl
 m19:=by kernel_rfl }
end Go.Proofs
namespace Go.Proofs.YtidfofhmnlhfjaaGreatDoor
open Go.X
variable {u:World} {m0:Mem} {S:Segs} {w:World}
set_option maxHeartbeats 4000000
set_option maxRecDepth 100000
def Glob (u:World):Prop:=∃ mx,u.cell? ⟨0,0,none⟩ = some (.int .i64 mx)
def Tab (u:World):Prop:=Lib.TabIs Tryz.prog u "internal/strconv.uint64pow10" .u64 Lib.pow10Tab
def qdI:Rp Span:=fun _ cs x=>cs = [.int .i64 x.From,.int .i64 x.To] ∧ InR .i64 x.From ∧ InR .i64 x.To
theorem qdF:Mono qdI:=⟨fun _ h=>by
 obtain ⟨e,h0,h1⟩:=h
 exact ⟨e,h0,h1⟩,fun h=>by
 obtain ⟨rfl,h0,h1⟩:=h
 exact ⟨rfl,rfl,trivial⟩⟩
def qap:Rp Relation:=fun m cs x=>∃ c3,cs = [.int .i64 x.Operand,.int .i64 x.Mod,.bool x.Not,c3] ∧ InR .i64 x.Operand ∧ InR .i64 x.Mod ∧ (pL 2 qdI) m [c3] x.Spans
theorem qaf:Mono qap:=⟨fun hm h=>by
 obtain ⟨c3,e,h0,h1,h3⟩:=h
 exact ⟨c3,e,h0,h1,(mL qdF).up hm h3⟩,fun h=>by
 obtain ⟨c3,rfl,h0,h1,h3⟩:=h
 exact ⟨rfl,rfl,rfl,((mL qdF).one h3).1,trivial⟩⟩
def qo0:Rp Rule:=fun m cs x=>∃ c1,cs = [.string (bs x.Class),c1] ∧ x.Class.length ≤ LIMS ∧ (pL 1 (pL 4 qap)) m [c1] x.Cond
theorem qqy:Mono qo0:=⟨fun hm h=>by
 obtain ⟨c1,e,h0,h1⟩:=h
 exact ⟨c1,e,h0,(mL (mL qaf)).up hm h1⟩,fun h=>by
 obtain ⟨c1,rfl,h0,h1⟩:=h
 exact ⟨rfl,((mL (mL qaf)).one h1).1,trivial⟩⟩
def qb8:Rp Part:=fun _ cs x=>cs = [.int .u64 x.bits,.string (bs x.text)] ∧ InR .u64 x.bits ∧ x.text.length ≤ LIMS
theorem qcu:Mono qb8:=⟨fun _ h=>by
 obtain ⟨e,h0,h1⟩:=h
 exact ⟨e,h0,h1⟩,fun h=>by
 obtain ⟨rfl,h0,h1⟩:=h
 exact ⟨rfl,rfl,trivial⟩⟩
def qfH:Rp qaL:=fun m cs x=>∃ c0 c1 c2,cs = [c0,c1,c2] ∧ (pL 4 qap) m [c0] x.l ∧ (pL 2 qb8) m [c1] x.wholes ∧ (pL 2 qb8) m [c2] x.fraction
theorem ql5:Mono qfH:=⟨fun hm h=>by
 obtain ⟨c0,c1,c2,e,h0,h1,h2⟩:=h
 exact ⟨c0,c1,c2,e,(mL qaf).up hm h0,(mL qcu).up hm h1,(mL qcu).up hm h2⟩,fun h=>by
 obtain ⟨c0,c1,c2,rfl,h0,h1,h2⟩:=h
 exact ⟨((mL qaf).one h0).1,((mL qcu).one h1).1,((mL qcu).one h2).1,trivial⟩⟩
def qbD:Rp Tracker:=fun _ cs x=>cs = [.int .i64 x.a,.int .i64 x.b] ∧ InR .i64 x.a ∧ InR .i64 x.b
theorem qbr:Mono qbD:=⟨fun _ h=>by
 obtain ⟨e,h0,h1⟩:=h
 exact ⟨e,h0,h1⟩,fun h=>by
 obtain ⟨rfl,h0,h1⟩:=h
 exact ⟨rfl,rfl,trivial⟩⟩
def qg8:Rp State:=fun m cs x=>∃ c1,cs = [.string (bs x.s),c1,.bool x.integer] ∧ x.s.length ≤ LIMS ∧ (pL 2 qbD) m [c1] x.trackers
theorem qdT:Mono qg8:=⟨fun hm h=>by
 obtain ⟨c1,e,h0,h1⟩:=h
 exact ⟨c1,e,h0,(mL qbr).up hm h1⟩,fun h=>by
 obtain ⟨c1,rfl,h0,h1⟩:=h
 exact ⟨rfl,((mL qbr).one h1).1,rfl,trivial⟩⟩
def qqw:Rp Word:=fun _ cs x=>cs = [.string (bs x.text),.int .i64 x.at_] ∧ x.text.length ≤ LIMS ∧ InR .i64 x.at_
theorem qeQ:aggB Tryz.prog 126 2 = true:=by kernel_rfl
theorem qmK:aggB Tryz.prog 163 2 = true:=by kernel_rfl
theorem qiO:aggB Tryz.prog 181 2 = true:=by kernel_rfl
theorem qow:aggB Tryz.prog 199 3 = true:=by kernel_rfl
theorem qse:aggB Tryz.prog 45 2 = true:=by kernel_rfl
theorem qbc:aggB Tryz.prog 69 4 = true:=by kernel_rfl
theorem qbT:aggB Tryz.prog 86 2 = true:=by kernel_rfl
theorem qeS:qaH Tryz.prog 126 0 0 = true:=by kernel_rfl
theorem qdK:qaH Tryz.prog 126 1 1 = true:=by kernel_rfl
theorem qkn:qaH Tryz.prog 163 0 0 = true:=by kernel_rfl
theorem qlU:qaH Tryz.prog 163 1 1 = true:=by kernel_rfl
theorem qnX:qaH Tryz.prog 165 0 0 = true:=by kernel_rfl
theorem qnL:qaH Tryz.prog 165 1 1 = true:=by kernel_rfl
theorem qgd:qaH Tryz.prog 165 2 2 = true:=by kernel_rfl
theorem qnV:qaH Tryz.prog 165 3 4 = true:=by kernel_rfl
theorem qhe:qaH Tryz.prog 165 4 5 = true:=by kernel_rfl
theorem qh4:qaH Tryz.prog 175 0 0 = true:=by kernel_rfl
theorem qmb:qaH Tryz.prog 175 1 1 = true:=by kernel_rfl
theorem ql3:qaH Tryz.prog 175 2 2 = true:=by kernel_rfl
theorem qhf:qaH Tryz.prog 181 0 0 = true:=by kernel_rfl
theorem qi7:qaH Tryz.prog 181 1 1 = true:=by kernel_rfl
theorem ql7:qaH Tryz.prog 199 0 0 = true:=by kernel_rfl
theorem qjc:qaH Tryz.prog 199 1 1 = true:=by kernel_rfl
theorem qks:qaH Tryz.prog 199 2 2 = true:=by kernel_rfl
theorem qrf:qaH Tryz.prog 45 1 1 = true:=by kernel_rfl
theorem qa2:qaH Tryz.prog 69 0 0 = true:=by kernel_rfl
theorem qcn:qaH Tryz.prog 69 1 1 = true:=by kernel_rfl
theorem qe9:qaH Tryz.prog 69 2 2 = true:=by kernel_rfl
theorem qbs:qaH Tryz.prog 69 3 3 = true:=by kernel_rfl
theorem qfy:qaH Tryz.prog 86 0 0 = true:=by kernel_rfl
theorem qfZ:qaH Tryz.prog 86 1 1 = true:=by kernel_rfl
theorem qmG:goB Tryz.prog 101 = true:=by kernel_rfl
theorem qmg:goB Tryz.prog 102 = true:=by kernel_rfl
theorem qll:goB Tryz.prog 103 = true:=by kernel_rfl
theorem qrL:goB Tryz.prog 106 = true:=by kernel_rfl
theorem qdp:goB Tryz.prog 111 = true:=by kernel_rfl
theorem qr9:goB Tryz.prog 112 = true:=by kernel_rfl
theorem qeg:goB Tryz.prog 113 = true:=by kernel_rfl
theorem qph:goB Tryz.prog 114 = true:=by kernel_rfl
theorem qel:goB Tryz.prog 115 = true:=by kernel_rfl
theorem qrZ:goB Tryz.prog 116 = true:=by kernel_rfl
theorem qpE:goB Tryz.prog 117 = true:=by kernel_rfl
theorem qoO:goB Tryz.prog 12 = true:=by kernel_rfl
theorem qmm:goB Tryz.prog 120 = true:=by kernel_rfl
theorem qf3:goB Tryz.prog 122 = true:=by kernel_rfl
theorem qlo:goB Tryz.prog 123 = true:=by kernel_rfl
theorem qpf:goB Tryz.prog 124 = true:=by kernel_rfl
theorem qpa:goB Tryz.prog 125 = true:=by kernel_rfl
theorem qrG:goB Tryz.prog 126 = true:=by kernel_rfl
theorem qsb:goB Tryz.prog 127 = true:=by kernel_rfl
theorem qrS:goB Tryz.prog 128 = true:=by kernel_rfl
theorem qsv:goB Tryz.prog 129 = true:=by kernel_rfl
theorem qsi:goB Tryz.prog 142 = true:=by kernel_rfl
theorem qmC:goB Tryz.prog 143 = true:=by kernel_rfl
theorem qmE:goB Tryz.prog 144 = true:=by kernel_rfl
theorem qmj:goB Tryz.prog 145 = true:=by kernel_rfl
theorem qmq:goB Tryz.prog 146 = true:=by kernel_rfl
theorem qrU:goB Tryz.prog 147 = true:=by kernel_rfl
theorem qr1:goB Tryz.prog 150 = true:=by kernel_rfl
theorem qpM:goB Tryz.prog 163 = true:=by kernel_rfl
theorem qrE:goB Tryz.prog 164 = true:=by kernel_rfl
theorem qsa:goB Tryz.prog 166 = true:=by kernel_rfl
theorem qs4:goB Tryz.prog 19 = true:=by kernel_rfl
theorem qoV:goB Tryz.prog 35 = true:=by kernel_rfl
theorem qsC:goB Tryz.prog 36 = true:=by kernel_rfl
theorem qqt:goB Tryz.prog 37 = true:=by kernel_rfl
theorem qqB:goB Tryz.prog 38 = true:=by kernel_rfl
theorem qqp:goB Tryz.prog 47 = true:=by kernel_rfl
theorem qoR:goB Tryz.prog 52 = true:=by kernel_rfl
theorem qqq:goB Tryz.prog 54 = true:=by kernel_rfl
theorem qsx:goB Tryz.prog 60 = true:=by kernel_rfl
theorem qsV:goB Tryz.prog 61 = true:=by kernel_rfl
theorem qsK:goB Tryz.prog 62 = true:=by kernel_rfl
theorem qsY:goB Tryz.prog 69 = true:=by kernel_rfl
theorem qsP:goB Tryz.prog 80 = true:=by kernel_rfl
theorem qsH:goB Tryz.prog 81 = true:=by kernel_rfl
theorem qsW:goB Tryz.prog 82 = true:=by kernel_rfl
theorem qml:goB Tryz.prog 88 = true:=by kernel_rfl
theorem qsQ:goB Tryz.prog 94 = true:=by kernel_rfl
theorem qsS:goB Tryz.prog 95 = true:=by kernel_rfl
theorem qqu:goB Tryz.prog 96 = true:=by kernel_rfl
theorem qsX:goB Tryz.prog 97 = true:=by kernel_rfl
theorem qfW:∃ i,Tryz.prog.info? 126 = some i ∧ i.size = 2:=⟨_,rfl,by kernel_rfl⟩
theorem qmN:∃ i,Tryz.prog.info? 163 = some i ∧ i.size = 2:=⟨_,rfl,by kernel_rfl⟩
theorem qqO:∃ i,Tryz.prog.info? 165 = some i ∧ i.size = 6:=⟨_,rfl,by kernel_rfl⟩
theorem qoE:∃ i,Tryz.prog.info? 173 = some i ∧ i.size = 1:=⟨_,rfl,by kernel_rfl⟩
theorem qm3:∃ i,Tryz.prog.info? 181 = some i ∧ i.size = 2:=⟨_,rfl,by kernel_rfl⟩
theorem qe8:∃ i,Tryz.prog.info? 199 = some i ∧ i.size = 3:=⟨_,rfl,by kernel_rfl⟩
theorem qsf:∃ i,Tryz.prog.info? 27 = some i ∧ i.size = 1:=⟨_,rfl,by kernel_rfl⟩
theorem qaZ:∃ i,Tryz.prog.info? 3 = some i ∧ i.size = 1:=⟨_,rfl,by kernel_rfl⟩
theorem qjq:∃ i,Tryz.prog.info? 4 = some i ∧ i.size = 1:=⟨_,rfl,by kernel_rfl⟩
theorem qsm:∃ i,Tryz.prog.info? 45 = some i ∧ i.size = 2:=⟨_,rfl,by kernel_rfl⟩
theorem qnE:∃ i,Tryz.prog.info? 66 = some i ∧ i.size = 1:=⟨_,rfl,by kernel_rfl⟩
theorem qmx:∃ i,Tryz.prog.info? 67 = some i ∧ i.size = 1:=⟨_,rfl,by kernel_rfl⟩
theorem qfF:∃ i,Tryz.prog.info? 69 = some i ∧ i.size = 4:=⟨_,rfl,by kernel_rfl⟩
theorem qmB:∃ i,Tryz.prog.info? 72 = some i ∧ i.size = 1:=⟨_,rfl,by kernel_rfl⟩
theorem qef:∃ i,Tryz.prog.info? 86 = some i ∧ i.size = 2:=⟨_,rfl,by kernel_rfl⟩
theorem qqz:∃ i,Tryz.prog.info? 9 = some i ∧ i.size = 1:=⟨_,rfl,by kernel_rfl⟩
theorem qrs:oneB Tryz.prog 109 = true:=by kernel_rfl
theorem qmR:oneB Tryz.prog 143 = true:=by kernel_rfl
theorem qlF:oneB Tryz.prog 173 = true:=by kernel_rfl
theorem qj3:oneB Tryz.prog 176 = true:=by kernel_rfl
theorem qhW:oneB Tryz.prog 178 = true:=by kernel_rfl
theorem qfh:oneB Tryz.prog 23 = true:=by kernel_rfl
theorem qmy:oneB Tryz.prog 26 = true:=by kernel_rfl
theorem qj7:oneB Tryz.prog 27 = true:=by kernel_rfl
theorem qak:oneB Tryz.prog 3 = true:=by kernel_rfl
theorem qbx:oneB Tryz.prog 4 = true:=by kernel_rfl
theorem qci:oneB Tryz.prog 66 = true:=by kernel_rfl
theorem qb3:oneB Tryz.prog 67 = true:=by kernel_rfl
theorem qc3:oneB Tryz.prog 72 = true:=by kernel_rfl
theorem qfs:oneB Tryz.prog 9 = true:=by kernel_rfl
theorem qrR:oneB Tryz.prog 94 = true:=by kernel_rfl
theorem qoQ:qdP Tryz.prog 126 = some [(0,1),(1,1)]:=by kernel_rfl
theorem qmi:qdP Tryz.prog 163 = some [(0,1),(1,1)]:=by kernel_rfl
theorem qmH:qdP Tryz.prog 165 = some [(0,1),(1,1),(2,2),(4,1),(5,1)]:=by kernel_rfl
theorem qoW:qdP Tryz.prog 175 = some [(0,1),(1,1),(2,1)]:=by kernel_rfl
theorem qmw:qdP Tryz.prog 181 = some [(0,1),(1,1)]:=by kernel_rfl
theorem qdn:qdP Tryz.prog 199 = some [(0,1),(1,1),(2,1)]:=by kernel_rfl
theorem qni:qdP Tryz.prog 45 = some [(0,1),(1,1)]:=by kernel_rfl
theorem qh8:SlT Tryz.prog 173 181 2:=SlT.of (by kernel_rfl)
theorem qeh:SlT Tryz.prog 176 86 2:=SlT.of (by kernel_rfl)
theorem qlm:SlT Tryz.prog 200 199 3:=SlT.of (by kernel_rfl)
theorem qcM:SlT Tryz.prog 23 66 1:=SlT.of (by kernel_rfl)
theorem qfp:SlT Tryz.prog 26 23 1:=SlT.of (by kernel_rfl)
theorem qce:SlT Tryz.prog 32 4 1:=SlT.of (by kernel_rfl)
theorem qme:SlT Tryz.prog 43 45 2:=SlT.of (by kernel_rfl)
theorem qa4:SlT Tryz.prog 66 69 4:=SlT.of (by kernel_rfl)
theorem qbO:SlT Tryz.prog 67 126 2:=SlT.of (by kernel_rfl)
theorem qaJ:SlT Tryz.prog 72 3 1:=SlT.of (by kernel_rfl)
theorem qre:qmJ Tryz.prog 4 = some (vb false):=by kernel_rfl
theorem qdd:qcb Tryz.prog 126 = some [vi 0,vi 0]:=by kernel_rfl
theorem qlV:qcb Tryz.prog 163 = some [(vs ([])),vi 0]:=by kernel_rfl
theorem qlY:qcb Tryz.prog 165 = some [(vs ([])),vi 0,(vs ([])),vi 0,vi 0,vi 0]:=by kernel_rfl
theorem qqe:qcb Tryz.prog 175 = some [(Value.slice none 0 0),(Value.slice none 0 0),(Value.slice none 0 0)]:=by kernel_rfl
theorem qhm:qcb Tryz.prog 181 = some [vu 0,(vs ([]))]:=by kernel_rfl
theorem qbH:qcb Tryz.prog 199 = some [(vs ([])),(Value.slice none 0 0),vb false]:=by kernel_rfl
theorem qlv:qcb Tryz.prog 23 = some [(Value.slice none 0 0)]:=by kernel_rfl
theorem qbl:qcb Tryz.prog 3 = some [vi 0]:=by kernel_rfl
theorem qdD:qcb Tryz.prog 4 = some [vb false]:=by kernel_rfl
theorem qlI:qcb Tryz.prog 45 = some [(vs ([])),(Value.slice none 0 0)]:=by kernel_rfl
theorem qop:qcb Tryz.prog 66 = some [(Value.slice none 0 0)]:=by kernel_rfl
theorem qcU:qcb Tryz.prog 69 = some [vi 0,vi 0,vb false,(Value.slice none 0 0)]:=by kernel_rfl
theorem qdC:qcb Tryz.prog 72 = some [(Value.slice none 0 0)]:=by kernel_rfl
theorem qe7:qcb Tryz.prog 86 = some [vi 0,vi 0]:=by kernel_rfl
def qhc (u:World) (m0:Mem) (S:Segs) (r:Int) (a:Act) (w:World):Prop :=
 Ok u m0 S w ∧ a.defers = [] ∧ RVs Tryz.prog a w [.t 4 (.int .i64 r)] ∧ InR .i64 r
theorem qjE (N:Nat) (vs_0:Value) (s_0:List (Int)) (hs_0:(pL 1 (pI .i64)) m0 [vs_0] s_0) (v_1:Int) (rv_1:InR .i64 v_1) {r:Int} (hF:qe4 N s_0 v_1 = some r) (hG:Glob u) (ok:Ok u m0 S w) :
  Calls Tryz.prog 164 [vs_0,vi v_1].toArray w fun e w'=>(e = .returned (.int .i64 r) ∧ Ok u m0 S w') ∧ InR .i64 r:=by
 unfold qe4 at hF
 refine en (qhc u m0 S) r Tryz.func164 rfl rfl rfl (fun _ _ h=>rb h rfl) fun fin a E=>sg<|aw E rfl fun a E=>wp_seq<|sg<|mv E rfl fun a E=>lv E ok (qaD qaJ hs_0 rfl) fun a E=>mv E rfl fun a E=>wn<|wp_block<|bd hF fun o2 hL hF=>qaE _ (fun (s:Int) a w=>Ok u m0 (S) w ∧ Env 19 a [(0,vs_0),(1,vi v_1),(7,(vi (s_0.length:Int))),(8,vi s)] ∧ InR .i64 s) (fun (b:(Unit ⊕ Int)) e a w=>(Sum.elim (fun b18=>e = (.exit 0) ∧ Ok u m0 (S) w ∧ Env 19 a []) (fun b19=>e = .ret ∧ qhc u m0 S b19 a w)) b) ?_ ?_ N _ a w hL ⟨ok,E.keep [0,1,7,8],(ir 0)⟩
 rotate_left
 ·intro e a w _ hO
  rcases o2 with o2 | o2
  rotate_left
  ·obtain ⟨rfl,hret⟩:=hO
   refine qaz<|qaq ?_
   exact fin hF hret
  have hF:=qca hF
  obtain ⟨rfl,ok,E⟩:=hO
  refine qaM<|qaa<|sg<|aw E rfl fun a E=>wp_ret ?_
  exact fin hF ⟨ok,E.d,rz E rfl,(ir (-1))⟩
 rintro v4 a w r ⟨ok,E,r5⟩ hF
 replace hF:qdo N s_0 v_1 v4 = some r:=hF
 unfold qdo at hF
 refine sg<|lw E (qav rfl rfl) fun a E=>wn<|wp_seq<|cg E rfl hF (fun c6 hF=>?_) fun c6 hF=>?_
 ·refine wp_exit<|qaA ?_
  cases hF
  exact so (sl ⟨rfl,⟨ok,E.keep []⟩⟩)
 refine wp_skip<|qaa<|wp_seq<|wp_block<|sg<|mv E rfl fun a E=>av E rfl fun a E=>wn<|sg<|mz E rfl rfl fun a E=>mv E rfl fun a E=>?_
 obtain ⟨x7,e8,hF⟩:=bnd hF
 obtain ⟨b9,o10,es11,hl12,rr13,at14,yy15⟩:=ia E 12 13 qaJ hs_0 e8
 obtain ⟨rfl,r16⟩:=rr13
 refine lv E ok (yy15 _ _) fun a E=>lv E ok (qaj qak rfl (qab.ro at14)) fun a E=>lw E (qau rfl rfl) fun a E=>wn<|cg E rfl hF (fun c17 hF=>?_) fun c17 hF=>?_
 ·refine wp_skip<|qal<|qaa<|qac<|lw E (qaw rfl rfl (InR.inc r5 (qam hs_0) c6)) fun a E=>mv E rfl fun a E=>wpList_nil ?_
  cases hF
  exact qas ⟨ok,E.keep [0,1,7,8],(InR.inc r5 (qam hs_0) c6)⟩
 refine sg<|mv E rfl fun a E=>aw E rfl fun a E=>wp_ret<|qaz<|qaq ?_
 cases hF
 exact so (sr ⟨rfl,⟨ok,E.d,rz E rfl,r5⟩⟩)
def qiI (u:World) (m0:Mem) (S:Segs) (r:Bool) (a:Act) (w:World):Prop :=
 Ok u m0 S w ∧ a.defers = [] ∧ RVs Tryz.prog a w [.t 4 (.bool r)]
theorem qiJ (N:Nat) (vs_0:Value) (s_0:List (Int)) (hs_0:(pL 1 (pI .i64)) m0 [vs_0] s_0) (v_1:Int) (rv_1:InR .i64 v_1) {r:Bool} (hF:qdq N s_0 v_1 = some r) (hG:Glob u) (ok:Ok u m0 S w) :
  Calls Tryz.prog 147 [vs_0,vi v_1].toArray w fun e w'=>(e = .returned (.bool r) ∧ Ok u m0 S w'):=by
 unfold qdq at hF
 refine en (qiI u m0 S) r Tryz.func147 rfl rfl rfl (fun _ _ h=>ra h rfl) fun fin a E=>sg<|aw E rfl fun a E=>sg<|mz E rfl rfl fun a E=>bd hF fun r1 e2 hF=>qan E qrE rfl (qjE N _ s_0 hs_0 v_1 rv_1 e2 hG ok) rfl rfl ?_
 rintro _ w ⟨⟨rfl,ok⟩,r3⟩
 refine ⟨_,rfl,fun a E=>?_⟩
 refine lw E (qev rfl rfl) fun a E=>aw E rfl fun a E=>wp_ret ?_
 exact fin hF ⟨ok,E.d,rz E rfl⟩
def qj0 (u:World) (m0:Mem) (S:Segs) (r:Bool) (a:Act) (w:World):Prop :=
 Ok u m0 S w ∧ a.defers = [] ∧ RVs Tryz.prog a w [.t 4 (.bool r)]
theorem qjS (N:Nat) (operand_0:Int) (roperand_0:InR .i64 operand_0) (mod_1:Int) (rmod_1:InR .i64 mod_1) {r:Bool} (hF:qej N operand_0 mod_1 = some r) (hG:Glob u) (ok:Ok u m0 S w) :
  Calls Tryz.prog 116 [vi operand_0,vi mod_1].toArray w fun e w'=>(e = .returned (.bool r) ∧ Ok u m0 S w'):=by
 unfold qej at hF
 refine en (qj0 u m0 S) r Tryz.func116 rfl rfl rfl (fun _ _ h=>ra h rfl) fun fin a E=>sg<|aw E rfl fun a E=>wp_seq<|sg<|mv E rfl fun a E=>wn<|wp_block<|wp_seq<|sg<|lw E (qau rfl rfl) fun a E=>aw E rfl fun a E=>bd hF fun o1 hJ hF=>qaG (Q':=fun e a w=>e = .normal ∧ Ok u m0 (S) w ∧ Env 21 a [(1,vi mod_1),(5,vi operand_0),(6,vb o1)]) ?_ ?_
 ·have hF:=hJ
  refine cf E rfl hF (fun c2 hF=>?_) fun c2 hF=>?_
  ·refine wp_skip ?_
   cases hF
   exact ⟨rfl,⟨ok,E.keep [1,5,6]⟩⟩
  refine qac<|lw E (qau rfl rfl) fun a E=>av E rfl fun a E=>wpList_nil ?_
  cases hF
  exact ⟨rfl,⟨ok,E.keep [1,5,6]⟩⟩
 intro e a w hO
 obtain ⟨rfl,ok,E⟩:=hO
 refine qaa<|cf E rfl hF (fun c3 hF=>?_) fun c3 hF=>?_
 ·refine sg<|qaW (R:=(pI .i64)) (xo:=[.const (vi 2),.const (vi 3),.const (vi 4),.const (vi 5),.const (vi 6),.const (vi 10),.const (vi 20),.const (vi 25),.const (vi 50),.const (vi 100)]) (xs:=([2,3,4,5,6,10,20,25,50,100]:List (Int))) E ok qaJ qbl rfl ⟨⟨_,rfl,rfl,(qaX (ir 2))⟩,⟨_,rfl,rfl,(qaX (ir 3))⟩,⟨_,rfl,rfl,(qaX (ir 4))⟩,⟨_,rfl,rfl,(qaX (ir 5))⟩,⟨_,rfl,rfl,(qaX (ir 6))⟩,⟨_,rfl,rfl,(qaX (ir 10))⟩,⟨_,rfl,rfl,(qaX (ir 20))⟩,⟨_,rfl,rfl,(qaX (ir 25))⟩,⟨_,rfl,rfl,(qaX (ir 50))⟩,⟨_,rfl,rfl,(qaX (ir 100))⟩,trivial⟩ rfl rfl rfl rfl fun c4 M5 a w E ok h6=>mv E rfl fun a E=>?_
  obtain ⟨r12,e13,hF⟩:=bnd hF
  obtain ⟨m7,hle9,ok8,hfz10⟩:=(ok.frs 0 rfl).freeze
  have h11:=ORow.froz (mI .i64) h6 hle9 hfz10 (by decide)
  refine qan E qrU rfl (qiJ N _ ([2,3,4,5,6,10,20,25,50,100]:List (Int)) h11 mod_1 rmod_1 e13 hG ok8) rfl rfl ?_
  rintro _ w ⟨rfl,okz⟩
  replace ok:=(Ok.thawAt 0 rfl ok hle9 hfz10 okz)
  refine ⟨_,rfl,fun a E=>?_⟩
  refine aw E rfl fun a E=>wp_ret<|qaz<|qaq ?_
  exact fin hF ⟨ok.drop,E.d,rz E rfl⟩
 refine wp_seq<|sg<|lw E (qau rfl rfl) fun a E=>aw E rfl fun a E=>bd hF fun o14 hJ hF=>qaG (Q':=fun e a w=>e = .normal ∧ Ok u m0 (S) w ∧ Env 21 a [(1,vi mod_1),(12,vb o14)]) ?_ ?_
 ·have hF:=hJ
  refine cf E rfl hF (fun c15 hF=>?_) fun c15 hF=>?_
  ·refine wp_skip ?_
   cases hF
   exact ⟨rfl,⟨ok,E.keep [1,12]⟩⟩
  refine qac<|lw E (qau rfl rfl) fun a E=>av E rfl fun a E=>wpList_nil ?_
  cases hF
  exact ⟨rfl,⟨ok,E.keep [1,12]⟩⟩
 intro e a w hO
 obtain ⟨rfl,ok,E⟩:=hO
 refine qaa<|cg E rfl hF (fun c16 hF=>?_) fun c16 hF=>?_
 ·refine wp_skip<|qal<|qaa<|sg<|aw E rfl fun a E=>wp_ret ?_
  exact fin hF ⟨ok,E.d,rz E rfl⟩
 refine sg<|mv E rfl fun a E=>lw E (qau rfl rfl) fun a E=>mv E rfl fun a E=>bu E 17 hF (fun c17 hF E=>?_) fun c17 hF E=>?_
 ·refine lsq E fun a E=>pt E rfl rfl fun a E=>aw E rfl fun a E=>wp_ret<|qaz<|qaq ?_
  exact fin hF ⟨ok,E.d,rz E rfl⟩
 refine mv E rfl fun a E=>lw E (qau rfl rfl) fun a E=>pf E rfl rfl fun a E=>aw E rfl fun a E=>wp_ret<|qaz<|qaq ?_
 exact fin hF ⟨ok,E.d,rz E rfl⟩
def qkq (u:World) (m0:Mem) (S:Segs) (r:Int) (a:Act) (w:World):Prop :=
 Ok u m0 S w ∧ a.defers = [] ∧ RVs Tryz.prog a w [.t 2 (.int .i64 r)] ∧ InR .i64 r
theorem qe5 (N:Nat) (operand_0:Int) (roperand_0:InR .i64 operand_0) {r:Int} (hF:qdU N operand_0 = some r) (hG:Glob u) (ok:Ok u m0 S w) :
  Calls Tryz.prog 117 [vi operand_0].toArray w fun e w'=>(e = .returned (.int .i64 r) ∧ Ok u m0 S w') ∧ InR .i64 r:=by
 unfold qdU at hF
 refine en (qkq u m0 S) r Tryz.func117 rfl rfl rfl (fun _ _ h=>rb h rfl) fun fin a E=>sg<|aw E rfl fun a E=>wp_seq<|sg<|mv E rfl fun a E=>lw E (qau rfl rfl) fun a E=>mv E rfl fun a E=>bu E 5 hF (fun c1 hF E=>?_) fun c1 hF E=>?_
 ·refine lsq E fun a E=>pt E rfl rfl fun a E=>wn<|c_if E rfl (fun _=>?_) (fun h=>by cases h)
  refine sg<|aw E rfl fun a E=>wp_ret<|qaq ?_
  exact fin hF ⟨ok,E.d,rz E rfl,(ir 6)⟩
 refine mv E rfl fun a E=>lw E (qau rfl rfl) fun a E=>pf E rfl rfl fun a E=>wn<|cf E rfl hF (fun c2 hF=>?_) fun c2 hF=>?_
 ·refine sg<|aw E rfl fun a E=>wp_ret<|qaq ?_
  exact fin hF ⟨ok,E.d,rz E rfl,(ir 6)⟩
 refine wp_skip<|qaa<|sg<|aw E rfl fun a E=>wp_ret ?_
 exact fin hF ⟨ok,E.d,rz E rfl,(ir 100)⟩
def qgH (u:World) (m0:Mem) (S:Segs) (r:Bool) (a:Act) (w:World):Prop :=
 Ok u m0 S w ∧ a.defers = [] ∧ RVs Tryz.prog a w [.t 2 (.bool r)]
theorem qlt (N:Nat) (vr_0:List Value) (r_0:Relation) (hr_0:qap m0 vr_0 r_0) {r:Bool} (hF:qfg N r_0 = some r) (hG:Glob u) (ok:Ok u m0 S w) :
  Calls Tryz.prog 82 [.agg vr_0.toArray].toArray w fun e w'=>(e = .returned (.bool r) ∧ Ok u m0 S w'):=by
 obtain ⟨c3,rfl,r1,r2,h4⟩:=hr_0
 unfold qfg at hF
 refine en (qgH u m0 S) r Tryz.func82 rfl rfl rfl (fun _ _ h=>ra h rfl) fun fin a E=>sg<|qbz E ok rfl rfl rfl fun b5 a w E ok=>aw E rfl fun a E=>wp_seq<|sg<|fk E ok qa2 qak rfl 0 rfl rfl fun a E=>lw E (qav rfl rfl) fun a E=>mv E rfl fun a E=>bu E 8 hF (fun c6 hF E=>?_) fun c6 hF E=>?_
 ·refine lsq E fun a E=>ls E fun a E=>pt E rfl rfl fun a E=>mv E rfl fun a E=>lsz E fun a E=>lsz E fun a E=>lsq E fun a E=>ls E fun a E=>?_
  refine pt E rfl rfl fun a E=>mv E rfl fun a E=>lsz E fun a E=>pt E rfl rfl fun a E=>mv E rfl fun a E=>lsz E fun a E=>pt E rfl rfl fun a E=>wn<|c_if E rfl (fun _=>?_) (fun h=>by cases h)
  refine sg<|aw E rfl fun a E=>wp_ret<|qaq ?_
  exact fin hF ⟨ok.drop,E.d,rz E rfl⟩
 refine fk E ok qa2 qak rfl 0 rfl rfl fun a E=>lw E (qb1 rfl rfl) fun a E=>pf E rfl rfl fun a E=>mv E rfl fun a E=>bu E 13 hF (fun c7 hF E=>?_) fun c7 hF E=>?_
 ·refine lsz E fun a E=>lsz E fun a E=>lsq E fun a E=>ls E fun a E=>pt E rfl rfl fun a E=>mv E rfl fun a E=>lsq E fun a E=>ls E fun a E=>?_
  refine ls E fun a E=>pt E rfl rfl fun a E=>mv E rfl fun a E=>lsz E fun a E=>pt E rfl rfl fun a E=>wn<|c_if E rfl (fun _=>?_) (fun h=>by cases h)
  refine sg<|aw E rfl fun a E=>wp_ret<|qaq ?_
  exact fin hF ⟨ok.drop,E.d,rz E rfl⟩
 refine fk E ok qcn qak rfl 0 rfl rfl fun a E=>lw E (qb7 rfl rfl) fun a E=>mv E rfl fun a E=>bw E 17 hF (fun c8 hF E=>?_) fun c8 hF E=>?_
 ·as_aux_lemma =>
   refine lsz E fun a E=>lsq E fun a E=>pf E rfl rfl fun a E=>pf E rfl rfl fun a E=>mv E rfl fun a E=>fk E ok qbs qb3 rfl 0 rfl rfl fun a E=>lv E ok (qaD qbO h4 rfl) fun a E=>lw E (qav rfl rfl) fun a E=>pf E rfl rfl fun a E=>mv E rfl fun a E=>bu E 32 hF (fun c40 hF E=>?_) fun c40 hF E=>?_
   ·refine lsz E fun a E=>pt E rfl rfl fun a E=>wn<|c_if E rfl (fun _=>?_) (fun h=>by cases h)
    refine sg<|aw E rfl fun a E=>wp_ret<|qaq ?_
    exact fin hF ⟨ok.drop,E.d,rz E rfl⟩
   refine fk E ok qbs qb3 rfl 0 rfl rfl fun a E=>lv E ok (qaD qbO h4 rfl) fun a E=>lw E (qb1 rfl rfl) fun a E=>pf E rfl rfl fun a E=>wn<|cf E rfl hF (fun c41 hF=>?_) fun c41 hF=>?_
   ·refine sg<|aw E rfl fun a E=>wp_ret<|qaq ?_
    exact fin hF ⟨ok.drop,E.d,rz E rfl⟩
   refine wp_skip<|qaa<|wp_seq<|sg<|fk E ok qbs qb3 rfl 0 rfl rfl fun a E=>lv E ok (qaD qbO h4 rfl) fun a E=>mv E rfl fun a E=>wn<|wp_block<|bd hF fun o43 hL hF=>qaE _ (fun (s:Int) a w=>Ok u m0 ([(b5,oc 69 [vi r_0.Operand,vi r_0.Mod,vb r_0.Not,c3])] :: S) w ∧ Env 64 a [(1,vp b5),(39,c3),(40,(vi (r_0.Spans.length:Int))),(41,vi s)] ∧ InR .i64 s) (fun (b:(Unit ⊕ Bool)) e a w=>(Sum.elim (fun b66=>e = (.exit 0) ∧ Ok u m0 ([(b5,oc 69 [vi r_0.Operand,vi r_0.Mod,vb r_0.Not,c3])] :: S) w ∧ Env 64 a []) (fun b67=>e = .ret ∧ qgH u m0 S b67 a w)) b) ?_ ?_ N _ a w hL ⟨ok,E.keep [1,39,40,41],(ir 0)⟩
   rotate_left
   ·intro e a w _ hO
    rcases o43 with o43 | o43
    rotate_left
    ·obtain ⟨rfl,hret⟩:=hO
     refine qaz<|qaq ?_
     exact fin hF hret
    have hF:=qca hF
    obtain ⟨rfl,ok,E⟩:=hO
    refine qaM<|qaa<|sg<|aw E rfl fun a E=>wp_ret ?_
    exact fin hF ⟨ok.drop,E.d,rz E rfl⟩
   rintro v45 a w r ⟨ok,E,r46⟩ hF
   replace hF:qfm N r_0 v45 = some r:=hF
   unfold qfm at hF
   refine sg<|lw E (qav rfl rfl) fun a E=>wn<|wp_seq<|cg E rfl hF (fun c47 hF=>?_) fun c47 hF=>?_
   ·refine wp_exit<|qaA ?_
    cases hF
    exact so (sl ⟨rfl,⟨ok,E.keep []⟩⟩)
   refine wp_skip<|qaa<|wp_seq<|wp_block<|sg ?_
   obtain ⟨x48,e49,hF⟩:=bnd hF
   obtain ⟨b50,o51,es52,hl53,rr54,at55,yy56⟩:=ia E 39 41 qbO h4 e49
   obtain ⟨rfl,r57,r58⟩:=rr54
   refine lv E ok (yy56 _ _) fun a E=>lv E ok (qag (cs:=[vi x48.From,vi x48.To]) qeQ rfl rfl (qab.ro at55)) fun a E=>qax E ok qdd rfl rfl fun b59 a w E ok=>qad E ok 0 rfl rfl rfl qfW rfl rfl ⟨rfl,rfl,trivial⟩ rfl rfl fun w ok=>wn<|wp_seq<|qdc (by kernel_rfl) (by kernel_rfl) ok<|qv E (qae qeS rfl) fun a E=>qv E (qaj qak rfl (qab.own 0 rfl rfl)) fun a E=>qv E (qav rfl rfl) fun a E=>qv E (qah rfl) fun a E=>bu E 48 hF (fun c60 hF E=>?_) fun c60 hF E=>?_
   ·refine qs E fun a E=>qs E fun a E=>qs E fun a E=>qs E fun a E=>qs E fun a E=>qv E (qa8 rfl rfl) fun a E=>qv E (qah rfl) fun a E=>qs E fun a E=>qs E fun a E=>qs E fun a E=>qs E fun a E=>qs E fun a E=>qs E fun a E=>qv E (qa8 rfl rfl) fun a E=>wpQuiet_nil ?_
    intro w ok
    refine qaa<|c_if E rfl (fun _=>?_) (fun h=>by cases h)
    refine sg<|aw E rfl fun a E=>wp_ret<|qaz<|qaq ?_
    cases hF
    exact so (sr ⟨rfl,⟨ok.drop.drop,E.d,rz E rfl⟩⟩)
   refine qv E (qae qeS rfl) fun a E=>qv E (qaj qak rfl (qab.own 0 rfl rfl)) fun a E=>qv E (qae qdK rfl) fun a E=>qv E (qaj qak rfl (qab.own 0 rfl rfl)) fun a E=>qv E (qb1 rfl rfl) fun a E=>qv E (qa1 rfl rfl) fun a E=>qv E (qah rfl) fun a E=>bu E 55 hF (fun c61 hF E=>?_) fun c61 hF E=>?_
   ·refine qs E fun a E=>qs E fun a E=>qs E fun a E=>qs E fun a E=>qs E fun a E=>qs E fun a E=>qv E (qa8 rfl rfl) fun a E=>wpQuiet_nil ?_
    intro w ok
    refine qaa<|c_if E rfl (fun _=>?_) (fun h=>by cases h)
    refine sg<|aw E rfl fun a E=>wp_ret<|qaz<|qaq ?_
    cases hF
    exact so (sr ⟨rfl,⟨ok.drop.drop,E.d,rz E rfl⟩⟩)
   refine qv E (qae qdK rfl) fun a E=>qv E (qaj qak rfl (qab.own 0 rfl rfl)) fun a E=>qv E (qae qa2 rfl) fun a E=>qv E (qaj qak rfl (qab.own 1 rfl rfl)) fun a E=>?_
   obtain ⟨r62,e63,hF⟩:=bnd hF
   obtain ⟨_,_,⟨_,_⟩,r64⟩:=Go.X.Calls.get (qe5 N r_0.Operand r1 e63 hG ok)
   refine qgn E qpE rfl (fun w ok=>(qe5 N r_0.Operand r1 e63 hG ok).mono (fun _ _ h=>h.1)) rfl rfl fun a E=>qv E (qb1 rfl rfl) fun a E=>qv E (qa1 rfl rfl) fun a E=>wpQuiet_nil ?_
   intro w ok
   refine qaa<|cg E rfl hF (fun c65 hF=>?_) fun c65 hF=>?_
   ·refine wp_skip<|qal<|qaa<|qac<|lw E (qaw rfl rfl (InR.inc r46 (qam h4) c47)) fun a E=>mv E rfl fun a E=>wpList_nil ?_
    cases hF
    exact qas ⟨(ok.pk 2 [1] rfl (by decide)),E.keep [1,39,40,41],(InR.inc r46 (qam h4) c47)⟩
   refine sg<|aw E rfl fun a E=>wp_ret<|qaz<|qaq ?_
   cases hF
   exact so (sr ⟨rfl,⟨ok.drop.drop,E.d,rz E rfl⟩⟩)
 refine fk E ok qa2 qak rfl 0 rfl rfl fun a E=>fk E ok qcn qak rfl 0 rfl rfl fun a E=>bd hF fun r9 e10 hF=>lc E qrZ rfl (qjS N r_0.Operand r1 r_0.Mod r2 e10 hG ok) fun w ok a E=>lw E (qbu rfl) fun a E=>pt E rfl rfl fun a E=>pf E rfl rfl fun a E=>mv E rfl fun a E=>bu E 26 hF (fun c11 hF E=>?_) fun c11 hF E=>?_
 ·refine lsz E fun a E=>pt E rfl rfl fun a E=>mv E rfl fun a E=>lsz E fun a E=>pt E rfl rfl fun a E=>wn<|c_if E rfl (fun _=>?_) (fun h=>by cases h)
  refine sg<|aw E rfl fun a E=>wp_ret<|qaq ?_
  exact fin hF ⟨ok.drop,E.d,rz E rfl⟩
 refine fk E ok qbs qb3 rfl 0 rfl rfl fun a E=>lv E ok (qaD qbO h4 rfl) fun a E=>lw E (qav rfl rfl) fun a E=>pf E rfl rfl fun a E=>mv E rfl fun a E=>bu E 32 hF (fun c12 hF E=>?_) fun c12 hF E=>?_
 ·refine lsz E fun a E=>pt E rfl rfl fun a E=>wn<|c_if E rfl (fun _=>?_) (fun h=>by cases h)
  refine sg<|aw E rfl fun a E=>wp_ret<|qaq ?_
  exact fin hF ⟨ok.drop,E.d,rz E rfl⟩
 refine fk E ok qbs qb3 rfl 0 rfl rfl fun a E=>lv E ok (qaD qbO h4 rfl) fun a E=>lw E (qb1 rfl rfl) fun a E=>pf E rfl rfl fun a E=>wn<|cf E rfl hF (fun c13 hF=>?_) fun c13 hF=>?_
 ·refine sg<|aw E rfl fun a E=>wp_ret<|qaq ?_
  exact fin hF ⟨ok.drop,E.d,rz E rfl⟩
 refine wp_skip<|qaa<|wp_seq<|sg<|fk E ok qbs qb3 rfl 0 rfl rfl fun a E=>lv E ok (qaD qbO h4 rfl) fun a E=>mv E rfl fun a E=>wn<|wp_block<|bd hF fun o15 hL hF=>qaE _ (fun (s:Int) a w=>Ok u m0 ([(b5,oc 69 [vi r_0.Operand,vi r_0.Mod,vb r_0.Not,c3])] :: S) w ∧ Env 64 a [(1,vp b5),(39,c3),(40,(vi (r_0.Spans.length:Int))),(41,vi s)] ∧ InR .i64 s) (fun (b:(Unit ⊕ Bool)) e a w=>(Sum.elim (fun b38=>e = (.exit 0) ∧ Ok u m0 ([(b5,oc 69 [vi r_0.Operand,vi r_0.Mod,vb r_0.Not,c3])] :: S) w ∧ Env 64 a []) (fun b39=>e = .ret ∧ qgH u m0 S b39 a w)) b) ?_ ?_ N _ a w hL ⟨ok,E.keep [1,39,40,41],(ir 0)⟩
 rotate_left
 ·intro e a w _ hO
  rcases o15 with o15 | o15
  rotate_left
  ·obtain ⟨rfl,hret⟩:=hO
   refine qaz<|qaq ?_
   exact fin hF hret
  have hF:=qca hF
  obtain ⟨rfl,ok,E⟩:=hO
  refine qaM<|qaa<|sg<|aw E rfl fun a E=>wp_ret ?_
  exact fin hF ⟨ok.drop,E.d,rz E rfl⟩
 rintro v17 a w r ⟨ok,E,r18⟩ hF
 replace hF:qdy N r_0 v17 = some r:=hF
 unfold qdy at hF
 refine sg<|lw E (qav rfl rfl) fun a E=>wn<|wp_seq<|cg E rfl hF (fun c19 hF=>?_) fun c19 hF=>?_
 ·refine wp_exit<|qaA ?_
  cases hF
  exact so (sl ⟨rfl,⟨ok,E.keep []⟩⟩)
 refine wp_skip<|qaa<|wp_seq<|wp_block<|sg ?_
 obtain ⟨x20,e21,hF⟩:=bnd hF
 obtain ⟨b22,o23,es24,hl25,rr26,at27,yy28⟩:=ia E 39 41 qbO h4 e21
 obtain ⟨rfl,r29,r30⟩:=rr26
 refine lv E ok (yy28 _ _) fun a E=>lv E ok (qag (cs:=[vi x20.From,vi x20.To]) qeQ rfl rfl (qab.ro at27)) fun a E=>qax E ok qdd rfl rfl fun b31 a w E ok=>qad E ok 0 rfl rfl rfl qfW rfl rfl ⟨rfl,rfl,trivial⟩ rfl rfl fun w ok=>wn<|wp_seq<|qdc (by kernel_rfl) (by kernel_rfl) ok<|qv E (qae qeS rfl) fun a E=>qv E (qaj qak rfl (qab.own 0 rfl rfl)) fun a E=>qv E (qav rfl rfl) fun a E=>qv E (qah rfl) fun a E=>bu E 48 hF (fun c32 hF E=>?_) fun c32 hF E=>?_
 ·refine qs E fun a E=>qs E fun a E=>qs E fun a E=>qs E fun a E=>qs E fun a E=>qv E (qa8 rfl rfl) fun a E=>qv E (qah rfl) fun a E=>qs E fun a E=>qs E fun a E=>qs E fun a E=>qs E fun a E=>qs E fun a E=>qs E fun a E=>qv E (qa8 rfl rfl) fun a E=>wpQuiet_nil ?_
  intro w ok
  refine qaa<|c_if E rfl (fun _=>?_) (fun h=>by cases h)
  refine sg<|aw E rfl fun a E=>wp_ret<|qaz<|qaq ?_
  cases hF
  exact so (sr ⟨rfl,⟨ok.drop.drop,E.d,rz E rfl⟩⟩)
 refine qv E (qae qeS rfl) fun a E=>qv E (qaj qak rfl (qab.own 0 rfl rfl)) fun a E=>qv E (qae qdK rfl) fun a E=>qv E (qaj qak rfl (qab.own 0 rfl rfl)) fun a E=>qv E (qb1 rfl rfl) fun a E=>qv E (qa1 rfl rfl) fun a E=>qv E (qah rfl) fun a E=>bu E 55 hF (fun c33 hF E=>?_) fun c33 hF E=>?_
 ·refine qs E fun a E=>qs E fun a E=>qs E fun a E=>qs E fun a E=>qs E fun a E=>qs E fun a E=>qv E (qa8 rfl rfl) fun a E=>wpQuiet_nil ?_
  intro w ok
  refine qaa<|c_if E rfl (fun _=>?_) (fun h=>by cases h)
  refine sg<|aw E rfl fun a E=>wp_ret<|qaz<|qaq ?_
  cases hF
  exact so (sr ⟨rfl,⟨ok.drop.drop,E.d,rz E rfl⟩⟩)
 refine qv E (qae qdK rfl) fun a E=>qv E (qaj qak rfl (qab.own 0 rfl rfl)) fun a E=>qv E (qae qa2 rfl) fun a E=>qv E (qaj qak rfl (qab.own 1 rfl rfl)) fun a E=>?_
 obtain ⟨r34,e35,hF⟩:=bnd hF
 obtain ⟨_,_,⟨_,_⟩,r36⟩:=Go.X.Calls.get (qe5 N r_0.Operand r1 e35 hG ok)
 refine qgn E qpE rfl (fun w ok=>(qe5 N r_0.Operand r1 e35 hG ok).mono (fun _ _ h=>h.1)) rfl rfl fun a E=>qv E (qb1 rfl rfl) fun a E=>qv E (qa1 rfl rfl) fun a E=>wpQuiet_nil ?_
 intro w ok
 refine qaa<|cg E rfl hF (fun c37 hF=>?_) fun c37 hF=>?_
 ·refine wp_skip<|qal<|qaa<|qac<|lw E (qaw rfl rfl (InR.inc r18 (qam h4) c19)) fun a E=>mv E rfl fun a E=>wpList_nil ?_
  cases hF
  exact qas ⟨(ok.pk 2 [1] rfl (by decide)),E.keep [1,39,40,41],(InR.inc r18 (qam h4) c19)⟩
 refine sg<|aw E rfl fun a E=>wp_ret<|qaz<|qaq ?_
 cases hF
 exact so (sr ⟨rfl,⟨ok.drop.drop,E.d,rz E rfl⟩⟩)
def qk1 (u:World) (m0:Mem) (S:Segs) (r:Bool) (a:Act) (w:World):Prop :=
 Ok u m0 S w ∧ a.defers = [] ∧ RVs Tryz.prog a w [.t 2 (.bool r)]
theorem qkM (N:Nat) (vr_0:List Value) (r_0:Relation) (hr_0:qap m0 vr_0 r_0) {r:Bool} (hF:qfS N r_0 = some r) (hG:Glob u) (ok:Ok u m0 S w) :
  Calls Tryz.prog 81 [.agg vr_0.toArray].toArray w fun e w'=>(e = .returned (.bool r) ∧ Ok u m0 S w'):=by
 obtain ⟨c3,rfl,r1,r2,h4⟩:=hr_0
 unfold qfS at hF
 refine en (qk1 u m0 S) r Tryz.func81 rfl rfl rfl (fun _ _ h=>ra h rfl) fun fin a E=>sg<|qbz E ok rfl rfl rfl fun b5 a w E ok=>aw E rfl fun a E=>sg<|lv E ok (qag (cs:=[vi r_0.Operand,vi r_0.Mod,vb r_0.Not,c3]) qbc rfl rfl (qab.own 0 rfl rfl)) fun a E=>bd hF fun r6 e7 hF=>lc E qsW rfl (qlt N _ r_0 ⟨_,rfl,r1,r2,h4⟩ e7 hG ok) fun w ok a E=>lw E (qbu rfl) fun a E=>aw E rfl fun a E=>wp_ret ?_
 exact fin hF ⟨ok.drop,E.d,rz E rfl⟩
def qdb (u:World) (m0:Mem) (S:Segs) (r:Int) (a:Act) (w:World):Prop :=
 Ok u m0 S w ∧ a.defers = [] ∧ RVs Tryz.prog a w [.t 4 (.int .i64 r)] ∧ InR .i64 r
theorem qfe (N:Nat) (vs_0:Value) (s_0:List (Relation)) (hs_0:(pL 4 qap) m0 [vs_0] s_0) {r:Int} (hF:qbF N s_0 = some r) (hG:Glob u) (ok:Ok u m0 S w) :
  Calls Tryz.prog 106 [vs_0,.func (.func 81) #[] #[]].toArray w fun e w'=>(e = .returned (.int .i64 r) ∧ Ok u m0 S w') ∧ InR .i64 r:=by
 unfold qbF at hF
 refine en (qdb u m0 S) r Tryz.func106 rfl rfl rfl (fun _ _ h=>rb h rfl) fun fin a E=>sg<|aw E rfl fun a E=>wp_seq<|sg<|mv E rfl fun a E=>lv E ok (qaD qa4 hs_0 rfl) fun a E=>mv E rfl fun a E=>wn<|wp_block<|bd hF fun o2 hL hF=>qaE _ (fun (s:Int) a w=>Ok u m0 (S) w ∧ Env 19 a [(0,vs_0),(1,(Value.func (.func 81) #[] #[])),(7,(vi (s_0.length:Int))),(8,vi s)] ∧ InR .i64 s) (fun (b:(Unit ⊕ Int)) e a w=>(Sum.elim (fun b23=>e = (.exit 0) ∧ Ok u m0 (S) w ∧ Env 19 a []) (fun b24=>e = .ret ∧ qdb u m0 S b24 a w)) b) ?_ ?_ N _ a w hL ⟨ok,E.keep [0,1,7,8],(ir 0)⟩
 rotate_left
 ·intro e a w _ hO
  rcases o2 with o2 | o2
  rotate_left
  ·obtain ⟨rfl,hret⟩:=hO
   refine qaz<|qaq ?_
   exact fin hF hret
  have hF:=qca hF
  obtain ⟨rfl,ok,E⟩:=hO
  refine qaM<|qaa<|sg<|aw E rfl fun a E=>wp_ret ?_
  exact fin hF ⟨ok,E.d,rz E rfl,(ir (-1))⟩
 rintro v4 a w r ⟨ok,E,r5⟩ hF
 replace hF:qbf N s_0 v4 = some r:=hF
 unfold qbf at hF
 refine sg<|lw E (qav rfl rfl) fun a E=>wn<|wp_seq<|cg E rfl hF (fun c6 hF=>?_) fun c6 hF=>?_
 ·refine wp_exit<|qaA ?_
  cases hF
  exact so (sl ⟨rfl,⟨ok,E.keep []⟩⟩)
 refine wp_skip<|qaa<|wp_seq<|wp_block<|sg<|mv E rfl fun a E=>av E rfl fun a E=>wn<|sg<|mz E rfl rfl fun a E=>mv E rfl fun a E=>?_
 obtain ⟨x7,e8,hF⟩:=bnd hF
 obtain ⟨b9,o10,es11,hl12,rr13,at14,yy15⟩:=ia E 12 13 qa4 hs_0 e8
 obtain ⟨c18,rfl,r16,r17,h19⟩:=rr13
 refine lv E ok (yy15 _ _) fun a E=>lv E ok (qag (cs:=[vi x7.Operand,vi x7.Mod,vb x7.Not,c18]) qbc rfl rfl (qab.ro at14)) fun a E=>bd hF fun r20 e21 hF=>qlw E rfl qsH rfl (qkM N _ x7 ⟨_,rfl,r16,r17,h19⟩ e21 hG ok) rfl rfl ?_
 rintro _ w ⟨rfl,ok⟩
 refine ⟨_,rfl,fun a E=>?_⟩
 refine wn<|cg E rfl hF (fun c22 hF=>?_) fun c22 hF=>?_
 ·refine wp_skip<|qal<|qaa<|qac<|lw E (qaw rfl rfl (InR.inc r5 (qam hs_0) c6)) fun a E=>mv E rfl fun a E=>wpList_nil ?_
  cases hF
  exact qas ⟨ok,E.keep [0,1,7,8],(InR.inc r5 (qam hs_0) c6)⟩
 refine sg<|mv E rfl fun a E=>aw E rfl fun a E=>wp_ret<|qaz<|qaq ?_
 cases hF
 exact so (sr ⟨rfl,⟨ok,E.d,rz E rfl,r5⟩⟩)
def qe0 (u:World) (m0:Mem) (S:Segs) (r:Bool) (a:Act) (w:World):Prop :=
 Ok u m0 S w ∧ a.defers = [] ∧ RVs Tryz.prog a w [.t 4 (.bool r)]
theorem qeW (N:Nat) (vs_0:Value) (s_0:List (Relation)) (hs_0:(pL 4 qap) m0 [vs_0] s_0) {r:Bool} (hF:qbe N s_0 = some r) (hG:Glob u) (ok:Ok u m0 S w) :
  Calls Tryz.prog 69 [vs_0,.func (.func 81) #[] #[]].toArray w fun e w'=>(e = .returned (.bool r) ∧ Ok u m0 S w'):=by
 unfold qbe at hF
 refine en (qe0 u m0 S) r Tryz.func69 rfl rfl rfl (fun _ _ h=>ra h rfl) fun fin a E=>sg<|aw E rfl fun a E=>sg<|mz E rfl rfl fun a E=>bd hF fun r1 e2 hF=>qan E qrL rfl (qfe N _ s_0 hs_0 e2 hG ok) rfl rfl ?_
 rintro _ w ⟨⟨rfl,ok⟩,r3⟩
 refine ⟨_,rfl,fun a E=>?_⟩
 refine lw E (qev rfl rfl) fun a E=>aw E rfl fun a E=>wp_ret ?_
 exact fin hF ⟨ok,E.d,rz E rfl⟩
def qiC (u:World) (m0:Mem) (S:Segs) (r:Bool) (a:Act) (w:World):Prop :=
 Ok u m0 S w ∧ a.defers = [] ∧ RVs Tryz.prog a w [.t 2 (.bool r)]
theorem qiE (N:Nat) (vc_0:Value) (c_0:List (List (Relation))) (hc_0:(pL 1 (pL 4 qap)) m0 [vc_0] c_0) {r:Bool} (hF:qeR N c_0 = some r) (hG:Glob u) (ok:Ok u m0 S w) :
  Calls Tryz.prog 37 [vc_0].toArray w fun e w'=>(e = .returned (.bool r) ∧ Ok u m0 S w'):=by
 unfold qeR at hF
 refine en (qiC u m0 S) r Tryz.func37 rfl rfl rfl (fun _ _ h=>ra h rfl) fun fin a E=>sg<|aw E rfl fun a E=>sg<|aw E rfl fun a E=>wp_seq<|sg<|mv E rfl fun a E=>lv E ok (qaD qcM hc_0 rfl) fun a E=>mv E rfl fun a E=>wn<|wp_block<|bd hF fun o3 hL hF=>qaE _ (fun (s:Int × Int) a w=>Ok u m0 (S) w ∧ Env 31 a [(0,vc_0),(3,vi s.1),(6,vc_0),(7,(vi (c_0.length:Int))),(8,vi s.2)] ∧ InR .i64 s.1 ∧ InR .i64 s.2) (fun (b:(Int ⊕ Bool)) e a w=>(Sum.elim (fun b28=>e = (.exit 0) ∧ Ok u m0 (S) w ∧ Env 31 a [(0,vc_0),(3,vi b28)] ∧ InR .i64 b28) (fun b30=>e = .ret ∧ qiC u m0 S b30 a w)) b) ?_ ?_ N _ a w hL ⟨ok,E.keep [0,3,6,7,8],(ir 0),(ir 0)⟩
 rotate_left
 ·intro e a w _ hO
  rcases o3 with o3 | o3
  rotate_left
  ·obtain ⟨rfl,hret⟩:=hO
   refine qaz<|qaq ?_
   exact fin hF hret
  have hF:=qca hF
  obtain ⟨rfl,ok,E,r26⟩:=hO
  refine qaM<|qaa<|sg<|mv E rfl fun a E=>lv E ok (qaD qcM hc_0 rfl) fun a E=>lw E (qb1 rfl rfl) fun a E=>mv E rfl fun a E=>bu E 27 hF (fun c27 hF E=>?_) fun c27 hF E=>?_
  ·refine mv E rfl fun a E=>lw E (qeC rfl rfl) fun a E=>pt E rfl rfl fun a E=>aw E rfl fun a E=>wp_ret ?_
   exact fin hF ⟨ok,E.d,rz E rfl⟩
  refine lsq E fun a E=>pf E rfl rfl fun a E=>aw E rfl fun a E=>wp_ret ?_
  exact fin hF ⟨ok,E.d,rz E rfl⟩
 rintro ⟨v6,v7⟩ a w r ⟨ok,E,r8,r9⟩ hF
 replace hF:qcH N c_0 v6 v7 = some r:=hF
 unfold qcH at hF
 refine sg<|lw E (qav rfl rfl) fun a E=>wn<|wp_seq<|cg E rfl hF (fun c10 hF=>?_) fun c10 hF=>?_
 ·refine wp_exit<|qaA ?_
  cases hF
  exact so (sl ⟨rfl,⟨ok,E.keep [0,3],r8⟩⟩)
 refine wp_skip<|qaa<|wp_seq<|wp_block<|sg ?_
 obtain ⟨x11,e12,hF⟩:=bnd hF
 obtain ⟨b13,o14,es15,hl16,rr17,at18,yy19⟩:=ia E 6 8 qcM hc_0 e12
 obtain ⟨c20,rfl,h21⟩:=qbK rr17
 refine lv E ok (yy19 _ _) fun a E=>lv E ok (qaj qci rfl (qab.ro at18)) fun a E=>aw E rfl fun a E=>wp_seq<|sg<|mv E rfl fun a E=>lv E ok (qaD qa4 h21 rfl) fun a E=>lw E (qau rfl rfl) fun a E=>mv E rfl fun a E=>bu E 15 hF (fun c22 hF E=>?_) fun c22 hF E=>?_
 ·refine lsq E fun a E=>pt E rfl rfl fun a E=>wn<|c_if E rfl (fun _=>?_) (fun h=>by cases h)
  refine sg<|aw E rfl fun a E=>wp_ret<|qaq<|qaz<|qaq ?_
  cases hF
  exact so (sr ⟨rfl,⟨ok,E.d,rz E rfl⟩⟩)
 refine mv E rfl fun a E=>bd hF fun r23 e24 hF=>lc E qsY rfl (qeW N _ x11 h21 e24 hG ok) fun w ok a E=>pf E rfl rfl fun a E=>wn<|cf E rfl hF (fun c25 hF=>?_) fun c25 hF=>?_
 ·refine sg<|aw E rfl fun a E=>wp_ret<|qaq<|qaz<|qaq ?_
  cases hF
  exact so (sr ⟨rfl,⟨ok,E.d,rz E rfl⟩⟩)
 refine wp_skip<|qaa<|qac<|mz E rfl rfl fun a E=>lv E ok (qaD qa4 h21 rfl) fun a E=>lw E (qbq rfl rfl) fun a E=>av E rfl fun a E=>wpList_nil<|qal<|qaa<|qac<|lw E (qaw rfl rfl (InR.inc r9 (qam hc_0) c10)) fun a E=>mv E rfl fun a E=>wpList_nil ?_
 cases hF
 exact qas ⟨ok,E.keep [0,3,6,7,8],(InR.wrap _ _),(InR.inc r9 (qam hc_0) c10)⟩
def qlO (u:World) (m0:Mem) (S:Segs) (r:Int) (a:Act) (w:World):Prop :=
 Ok u m0 S w ∧ a.defers = [] ∧ RVs Tryz.prog a w [.t 2 (.int .i64 r)] ∧ InR .i64 r
theorem qiz (N:Nat) (vr_0:List Value) (r_0:Relation) (hr_0:qap m0 vr_0 r_0) {r:Int} (hF:qd5 N r_0 = some r) (hG:Glob u) (ok:Ok u m0 S w) :
  Calls Tryz.prog 38 [.agg vr_0.toArray].toArray w fun e w'=>(e = .returned (.int .i64 r) ∧ Ok u m0 S w') ∧ InR .i64 r:=by
 obtain ⟨c3,rfl,r1,r2,h4⟩:=hr_0
 unfold qd5 at hF
 refine en (qlO u m0 S) r Tryz.func38 rfl rfl rfl (fun _ _ h=>rb h rfl) fun fin a E=>sg<|qbz E ok rfl rfl rfl fun b5 a w E ok=>aw E rfl fun a E=>sg<|aw E rfl fun a E=>wp_seq<|sg<|fv E qbs rfl fun a E=>ld E ok qb3 0 rfl rfl rfl fun a E=>lv E ok (qaD qbO h4 rfl) fun a E=>mv E rfl fun a E=>wn<|wp_block<|bd hF fun o8 hL hF=>qaE _ (fun (s:Int × Int) a w=>Ok u m0 ([(b5,oc 69 [vi r_0.Operand,vi r_0.Mod,vb r_0.Not,c3])] :: S) w ∧ Env 19 a [(3,vi s.1),(7,c3),(8,(vi (r_0.Spans.length:Int))),(9,vi s.2)] ∧ InR .i64 s.1 ∧ InR .i64 s.2) (fun (b:Int) e a w=>e = (.exit 0) ∧ Ok u m0 ([(b5,oc 69 [vi r_0.Operand,vi r_0.Mod,vb r_0.Not,c3])] :: S) w ∧ Env 19 a [(3,vi b)] ∧ InR .i64 b) ?_ ?_ N _ a w hL ⟨ok,E.keep [3,7,8,9],(ir 0),(ir 0)⟩
 rotate_left
 ·intro e a w _ hO
  obtain ⟨rfl,ok,E,r28⟩:=hO
  refine qaM<|qaa<|sg<|mv E rfl fun a E=>aw E rfl fun a E=>wp_ret ?_
  exact fin hF ⟨ok.drop,E.d,rz E rfl,r28⟩
 rintro ⟨v11,v12⟩ a w r ⟨ok,E,r13,r14⟩ hF
 replace hF:qcE N r_0 v11 v12 = some r:=hF
 unfold qcE at hF
 refine sg<|lw E (qav rfl rfl) fun a E=>wn<|wp_seq<|cg E rfl hF (fun c15 hF=>?_) fun c15 hF=>?_
 ·refine wp_exit<|qaA ?_
  cases hF
  exact so (⟨rfl,⟨ok,E.keep [3],r13⟩⟩)
 refine wp_skip<|qaa<|wp_seq<|wp_block<|sg ?_
 obtain ⟨x16,e17,hF⟩:=bnd hF
 obtain ⟨b18,o19,es20,hl21,rr22,at23,yy24⟩:=ia E 7 9 qbO h4 e17
 obtain ⟨rfl,r25,r26⟩:=rr22
 refine lv E ok (yy24 _ _) fun a E=>lv E ok (qag (cs:=[vi x16.From,vi x16.To]) qeQ rfl rfl (qab.ro at23)) fun a E=>qax E ok qdd rfl rfl fun b27 a w E ok=>qad E ok 0 rfl rfl rfl qfW rfl rfl ⟨rfl,rfl,trivial⟩ rfl rfl fun w ok=>wn<|qac<|mv E rfl fun a E=>fk E ok qdK qak rfl 0 rfl rfl fun a E=>lw E (qnr rfl rfl) fun a E=>av E rfl fun a E=>wpList_nil<|qal<|qaa<|qac<|lw E (qaw rfl rfl (InR.inc r14 (qam h4) c15)) fun a E=>mv E rfl fun a E=>wpList_nil ?_
 cases hF
 exact qas ⟨(ok.pk 2 [1] rfl (by decide)),E.keep [3,7,8,9],(InR.max r13 r26),(InR.inc r14 (qam h4) c15)⟩
def qmz (u:World) (m0:Mem) (S:Segs) (r:Int × Int) (a:Act) (w:World):Prop :=
 Ok u m0 S w ∧ a.defers = [] ∧ RVs Tryz.prog a w [.t 2 (.int .i64 r.1),.t 3 (.int .i64 r.2)] ∧ InR .i64 r.1 ∧ InR .i64 r.2
theorem qhx (N:Nat) (vc_0:Value) (c_0:List (List (Relation))) (hc_0:(pL 1 (pL 4 qap)) m0 [vc_0] c_0) {r:Int × Int} (hF:qdG N c_0 = some r) (hG:Glob u) (ok:Ok u m0 S w) :
  Calls Tryz.prog 12 [vc_0].toArray w fun e w'=>(e = .returned (.tuple [(.int .i64 r.1),(.int .i64 r.2)].toArray) ∧ Ok u m0 S w') ∧ InR .i64 r.1 ∧ InR .i64 r.2:=by
 unfold qdG at hF
 refine en (qmz u m0 S) r Tryz.func12 rfl rfl rfl (by rintro a w ⟨ok,hd,hrv,h0,h1⟩; exact qbG [.t 2 (.int .i64 r.1),.t 3 (.int .i64 r.2)] hd rfl hrv ⟨⟨rfl,ok⟩,h0,h1⟩) fun fin a E=>sg<|av E rfl fun a E=>aw E rfl fun a E=>wp_seq<|sg<|mv E rfl fun a E=>bd hF fun r1 e2 hF=>lc E qqt rfl (qiE N _ c_0 hc_0 e2 hG ok) fun w ok a E=>lw E (qbu rfl) fun a E=>wn<|cf E rfl hF (fun c3 hF=>?_) fun c3 hF=>?_
 ·refine sg<|av E rfl fun a E=>aw E rfl fun a E=>wp_ret<|qaq ?_
  exact fin hF ⟨ok,E.d,⟨rv_t E rfl,rv_t E rfl,trivial⟩,(ir 0),(ir 1)⟩
 refine wp_skip<|qaa<|sg<|aw E rfl fun a E=>wp_seq<|sg<|mv E rfl fun a E=>lv E ok (qaD qcM hc_0 rfl) fun a E=>mv E rfl fun a E=>wn<|wp_block<|bd hF fun o6 hL hF=>qaE _ (fun (s:Int × Int) a w=>Ok u m0 (S) w ∧ Env 45 a [(4,vi s.1),(13,vc_0),(14,(vi (c_0.length:Int))),(15,vi s.2)] ∧ InR .i64 s.1 ∧ InR .i64 s.2) (fun (b:Int) e a w=>e = (.exit 0) ∧ Ok u m0 (S) w ∧ Env 45 a [(4,vi b)] ∧ InR .i64 b) ?_ ?_ N _ a w hL ⟨ok,E.keep [4,13,14,15],(ir 1),(ir 0)⟩
 rotate_left
 ·intro e a w _ hO
  obtain ⟨rfl,ok,E,r62⟩:=hO
  refine qaM<|qaa<|sg<|mv E rfl fun a E=>av E rfl fun a E=>av E rfl fun a E=>wn<|wp_ret ?_
  exact fin hF ⟨ok,E.d,⟨rv_t E rfl,rv_t E rfl,trivial⟩,r62,(ir 0)⟩
 rintro ⟨v9,v10⟩ a w r ⟨ok,E,r11,r12⟩ hF
 replace hF:qdO N c_0 v9 v10 = some r:=hF
 unfold qdO at hF
 refine sg<|lw E (qav rfl rfl) fun a E=>wn<|wp_seq<|cg E rfl hF (fun c13 hF=>?_) fun c13 hF=>?_
 ·refine wp_exit<|qaA ?_
  cases hF
  exact so (⟨rfl,⟨ok,E.keep [4],r11⟩⟩)
 refine wp_skip<|qaa<|wp_seq<|wp_block<|sg ?_
 obtain ⟨x14,e15,hF⟩:=bnd hF
 obtain ⟨b16,o17,es18,hl19,rr20,at21,yy22⟩:=ia E 13 15 qcM hc_0 e15
 obtain ⟨c23,rfl,h24⟩:=qbK rr20
 refine lv E ok (yy22 _ _) fun a E=>lv E ok (qaj qci rfl (qab.ro at21)) fun a E=>aw E rfl fun a E=>sg<|mv E rfl fun a E=>lv E ok (qaD qa4 h24 rfl) fun a E=>mv E rfl fun a E=>wn<|wp_block<|bd hF fun o27 hL hF=>qaE _ (fun (s:Int × Int) a w=>Ok u m0 (S) w ∧ Env 45 a [(4,vi s.1),(13,vc_0),(14,(vi (c_0.length:Int))),(15,vi v10),(19,c23),(20,(vi (x14.length:Int))),(21,vi s.2)] ∧ InR .i64 s.1 ∧ InR .i64 s.2) (fun (b:Int) e a w=>e = (.exit 2) ∧ Ok u m0 (S) w ∧ Env 45 a [(4,vi b),(13,vc_0),(14,(vi (c_0.length:Int))),(15,vi v10)] ∧ InR .i64 b) ?_ ?_ N _ a w hL ⟨ok,E.keep [4,13,14,15,19,20,21],r11,(ir 0)⟩
 rotate_left
 ·intro e a w _ hO
  obtain ⟨rfl,ok,E,r60⟩:=hO
  refine qaM<|qal<|qaa<|qac<|lw E (qaw rfl rfl (InR.inc r12 (qam hc_0) c13)) fun a E=>mv E rfl fun a E=>wpList_nil ?_
  cases hF
  exact qas ⟨ok,E.keep [4,13,14,15],r60,(InR.inc r12 (qam hc_0) c13)⟩
 rintro ⟨v30,v31⟩ a w r ⟨ok,E,r32,r33⟩ hF
 replace hF:qdM N x14 v30 v31 = some r:=hF
 unfold qdM at hF
 refine sg<|lw E (qav rfl rfl) fun a E=>wn<|wp_seq<|cg E rfl hF (fun c34 hF=>?_) fun c34 hF=>?_
 ·refine wp_exit<|qaA ?_
  cases hF
  exact so (⟨rfl,⟨ok,E.keep [4,13,14,15],r32⟩⟩)
 refine wp_skip<|qaa<|wp_seq<|wp_block<|sg ?_
 obtain ⟨x35,e36,hF⟩:=bnd hF
 obtain ⟨b37,o38,es39,hl40,rr41,at42,yy43⟩:=ia E 19 21 qa4 h24 e36
 obtain ⟨c46,rfl,r44,r45,h47⟩:=rr41
 refine lv E ok (yy43 _ _) fun a E=>lv E ok (qag (cs:=[vi x35.Operand,vi x35.Mod,vb x35.Not,c46]) qbc rfl rfl (qab.ro at42)) fun a E=>qax E ok qcU rfl rfl fun b48 a w E ok=>qad E ok 0 rfl rfl rfl qfF rfl rfl ⟨rfl,rfl,rfl,(qa5 h47),trivial⟩ rfl rfl fun w ok=>wn<|sg<|fk E ok qcn qak rfl 0 rfl rfl fun a E=>aw E rfl fun a E=>wp_seq<|sg<|mv E rfl fun a E=>lw E (qau rfl rfl) fun a E=>wn<|bd hF fun o49 hJ hF=>qaG (Q':=fun e a w=>e = .normal ∧ Ok u m0 ([(b48,oc 69 [vi x35.Operand,vi x35.Mod,vb x35.Not,c46])] :: S) w ∧ Env 45 a [(4,vi v30),(8,vp b48),(9,vi o49),(13,vc_0),(14,(vi (c_0.length:Int))),(15,vi v10),(19,c23),(20,(vi (x14.length:Int))),(21,vi v31)] ∧ InR .i64 o49) ?_ ?_
 ·have hF:=hJ
  refine cg E rfl hF (fun c51 hF=>?_) fun c51 hF=>?_
  ·refine wp_skip ?_
   cases hF
   exact ⟨rfl,⟨ok,E.keep [4,8,9,13,14,15,19,20,21],r45⟩⟩
  refine qac<|lv E ok (qag (cs:=[vi x35.Operand,vi x35.Mod,vb x35.Not,c46]) qbc rfl rfl (qab.own 0 rfl rfl)) fun a E=>bd hF fun r52 e53 hF=>qan E qqB rfl (qiz N _ x35 ⟨_,rfl,r44,r45,h47⟩ e53 hG ok) rfl rfl ?_
  rintro _ w ⟨⟨rfl,ok⟩,r54⟩
  refine ⟨_,rfl,fun a E=>?_⟩
  refine lw E (qbq rfl rfl) fun a E=>av E rfl fun a E=>wpList_nil ?_
  cases hF
  exact ⟨rfl,⟨ok,E.keep [4,8,9,13,14,15,19,20,21],(InR.wrap _ _)⟩⟩
 intro e a w hO
 obtain ⟨rfl,ok,E,r55⟩:=hO
 refine qaa<|wp_seq<|sg<|fk E ok qa2 qak rfl 0 rfl rfl fun a E=>lw E (qau rfl rfl) fun a E=>wn<|bd hF fun o56 hJ hF=>qaG (Q':=fun e a w=>e = .normal ∧ Ok u m0 ([(b48,oc 69 [vi x35.Operand,vi x35.Mod,vb x35.Not,c46])] :: S) w ∧ Env 45 a [(4,vi v30),(9,vi o56),(13,vc_0),(14,(vi (c_0.length:Int))),(15,vi v10),(19,c23),(20,(vi (x14.length:Int))),(21,vi v31)] ∧ InR .i64 o56) ?_ ?_
 ·have hF:=hJ
  refine cg E rfl hF (fun c58 hF=>?_) fun c58 hF=>?_
  ·refine wp_skip ?_
   cases hF
   exact ⟨rfl,⟨ok,E.keep [4,9,13,14,15,19,20,21],r55⟩⟩
  refine qac<|mz E rfl rfl fun a E=>lw E (qfB rfl rfl) fun a E=>av E rfl fun a E=>wpList_nil ?_
  cases hF
  exact ⟨rfl,⟨ok,E.keep [4,9,13,14,15,19,20,21],(InR.wrap _ _)⟩⟩
 intro e a w hO
 obtain ⟨rfl,ok,E,r59⟩:=hO
 refine qaa<|qac<|mz E rfl rfl fun a E=>lw E (qfB rfl rfl) fun a E=>lw E (qkp rfl rfl) fun a E=>av E rfl fun a E=>wpList_nil<|qal<|qaa<|qac<|lw E (qaw rfl rfl (InR.inc r33 (qam h24) c34)) fun a E=>mv E rfl fun a E=>wpList_nil ?_
 cases hF
 exact qas ⟨(ok.pk 1 [] rfl (by decide)),E.keep [4,13,14,15,19,20,21],(InR.min (InR.wrap _ _) (ir 1000000)),(InR.inc r33 (qam h24) c34)⟩
def qjT (u:World) (m0:Mem) (S:Segs) (r:Bool) (a:Act) (w:World):Prop :=
 Ok u m0 S w ∧ a.defers = [] ∧ RVs Tryz.prog a w [.t 2 (.bool r)]
theorem qmV (N:Nat) (vl_0:Value) (l_0:List (List (List (Relation)))) (hl_0:(pL 1 (pL 1 (pL 4 qap))) m0 [vl_0] l_0) {r:Bool} (hF:qja N l_0 = some r) (hG:Glob u) (ok:Ok u m0 S w) :
  Calls Tryz.prog 60 [vl_0].toArray w fun e w'=>(e = .returned (.bool r) ∧ Ok u m0 S w'):=by
 unfold qja at hF
 refine en (qjT u m0 S) r Tryz.func60 rfl rfl rfl (fun _ _ h=>ra h rfl) fun fin a E=>sg<|aw E rfl fun a E=>wp_seq<|sg<|mv E rfl fun a E=>lv E ok (qaD qfp hl_0 rfl) fun a E=>mv E rfl fun a E=>wn<|wp_block<|bd hF fun o2 hL hF=>qaE _ (fun (s:Int) a w=>Ok u m0 (S) w ∧ Env 18 a [(0,vl_0),(5,vl_0),(6,(vi (l_0.length:Int))),(7,vi s)] ∧ InR .i64 s) (fun (b:(Unit ⊕ Bool)) e a w=>(Sum.elim (fun b21=>e = (.exit 0) ∧ Ok u m0 (S) w ∧ Env 18 a [(0,vl_0)]) (fun b22=>e = .ret ∧ qjT u m0 S b22 a w)) b) ?_ ?_ N _ a w hL ⟨ok,E.keep [0,5,6,7],(ir 0)⟩
 rotate_left
 ·intro e a w _ hO
  rcases o2 with o2 | o2
  rotate_left
  ·obtain ⟨rfl,hret⟩:=hO
   refine qaz<|qaq ?_
   exact fin hF hret
  have hF:=qca hF
  obtain ⟨rfl,ok,E⟩:=hO
  refine qaM<|qaa<|sg<|mv E rfl fun a E=>lv E ok (qaD qfp hl_0 rfl) fun a E=>lw E (qeC rfl rfl) fun a E=>av E rfl fun a E=>wn<|wp_ret ?_
  exact fin hF ⟨ok,E.d,rz E rfl⟩
 rintro v4 a w r ⟨ok,E,r5⟩ hF
 replace hF:qhy N l_0 v4 = some r:=hF
 unfold qhy at hF
 refine sg<|lw E (qav rfl rfl) fun a E=>wn<|wp_seq<|cg E rfl hF (fun c6 hF=>?_) fun c6 hF=>?_
 ·refine wp_exit<|qaA ?_
  cases hF
  exact so (sl ⟨rfl,⟨ok,E.keep [0]⟩⟩)
 refine wp_skip<|qaa<|wp_seq<|wp_block<|sg ?_
 obtain ⟨x7,e8,hF⟩:=bnd hF
 obtain ⟨b9,o10,es11,hl12,rr13,at14,yy15⟩:=ia E 5 7 qfp hl_0 e8
 obtain ⟨c16,rfl,h17⟩:=qbK rr13
 refine lv E ok (yy15 _ _) fun a E=>lv E ok (qaj qfh rfl (qab.ro at14)) fun a E=>aw E rfl fun a E=>sg<|mv E rfl fun a E=>bd hF fun r18 e19 hF=>lc E qqt rfl (qiE N _ x7 h17 e19 hG ok) fun w ok a E=>lw E (qbu rfl) fun a E=>wn<|cg E rfl hF (fun c20 hF=>?_) fun c20 hF=>?_
 ·refine wp_skip<|qal<|qaa<|qac<|lw E (qaw rfl rfl (InR.inc r5 (qam hl_0) c6)) fun a E=>mv E rfl fun a E=>wpList_nil ?_
  cases hF
  exact qas ⟨ok,E.keep [0,5,6,7],(InR.inc r5 (qam hl_0) c6)⟩
 refine sg<|aw E rfl fun a E=>wp_ret<|qaz<|qaq ?_
 cases hF
 exact so (sr ⟨rfl,⟨ok,E.d,rz E rfl⟩⟩)
def qk6 (u:World) (m0:Mem) (S:Segs) (r:(List (Relation))) (a:Act) (w:World):Prop :=
 ∃ m1 v0,m0.le m1 ∧ Ok u m1 S w ∧ a.defers = [] ∧ RVs Tryz.prog a w [.t 2 v0] ∧ (pL 4 qap) m1 [v0] r
theorem qif (N:Nat) (vc_0:Value) (c_0:List (List (Relation))) (hc_0:(pL 1 (pL 4 qap)) m0 [vc_0] c_0) {r:(List (Relation))} (hF:qet N c_0 = some r) (hG:Glob u) (ok:Ok u m0 S w) :
  Calls Tryz.prog 47 [vc_0].toArray w fun e w'=>∃ m1 v0,e = .returned v0 ∧ m0.le m1 ∧ Ok u m1 S w' ∧ (pL 4 qap) m1 [v0] r:=by
 have le_m0:=Mem.le.refl m0
 unfold qet at hF
 refine en (qk6 u m0 S) r Tryz.func47 rfl rfl rfl (fun _ _ h=>rc h fun _=>rfl) fun fin a E=>sg<|aw E rfl fun a E=>sg<|aw E rfl fun a E=>wp_seq<|sg<|mv E rfl fun a E=>lv E ok (qaD qcM hc_0 rfl) fun a E=>mv E rfl fun a E=>wn<|wp_block ?_
 obtain ⟨M6,ok,h7⟩:=qcf (e:=69) (k:=4) (R:=qap) ok
 refine bd hF fun o8 hL hF=>qaE _ (fun (s:(List (Relation)) × Int) a w=>∃ c9 M10,Ok u m0 (M10 :: S) w ∧ Env 17 a [(3,c9),(6,vc_0),(7,(vi (c_0.length:Int))),(8,vi s.2)] ∧ ORow 69 4 qap m0 c9 s.1 M10 ∧ InR .i64 s.2) (fun (b:((List (Relation)))) e a w=>e = (.exit 0) ∧ ∃ c41 M42,Ok u m0 (M42 :: S) w ∧ Env 17 a [(3,c41)] ∧ ORow 69 4 qap m0 c41 b M42) ?_ ?_ N _ a w hL ⟨(Value.slice none 0 0),M6,ok,E.keep [3,6,7,8],h7,(ir 0)⟩
 rotate_left
 ·intro e a w _ hO
  obtain ⟨rfl,c36,M37,ok,E,h38⟩:=hO
  refine qaM<|qaa<|sg<|mv E rfl fun a E=>aw E rfl fun a E=>wp_ret ?_
  obtain ⟨m39,hle,ok,hfz⟩:=(ok.frs 0 rfl).freeze
  have h40:=ORow.froz qaf h38 hle hfz (by decide)
  have le_m0:=le_m0.trans hle
  have hc_0:=(mL (mL qaf)).up hle hc_0
  exact fin hF ⟨m39,c36,le_m0,ok,E.d,rz E rfl,h40⟩
 rintro ⟨v13,v14⟩ a w r ⟨c15,M16,ok,E,h17,r18⟩ hF
 replace hF:qc2 N c_0 v13 v14 = some r:=hF
 unfold qc2 at hF
 refine sg<|lw E (qav rfl rfl) fun a E=>wn<|wp_seq<|cg E rfl hF (fun c19 hF=>?_) fun c19 hF=>?_
 ·refine wp_exit<|qaA ?_
  cases hF
  exact so (⟨rfl,⟨c15,M16,ok,E.keep [3],h17⟩⟩)
 refine wp_skip<|qaa<|wp_seq<|wp_block<|sg ?_
 obtain ⟨x20,e21,hF⟩:=bnd hF
 obtain ⟨b22,o23,es24,hl25,rr26,at27,yy28⟩:=ia E 6 8 qcM hc_0 e21
 obtain ⟨c29,rfl,h30⟩:=qbK rr26
 refine lv E ok (yy28 _ _) fun a E=>lv E ok (qaj qci rfl (qab.ro at27)) fun a E=>aw E rfl fun a E=>qac<|mz E rfl rfl fun a E=>bd hF fun l31 e32 hF=>qbo (R:=qap) E ok 0 qaf qa4 Tryz.underlying66 rfl h17 (qa0.ofL h30 ok) e32 ⟨_,qcU,rfl⟩ rfl rfl rfl rfl fun c33 M34 a w E ok h35=>av E rfl fun a E=>wpList_nil<|qal<|qaa<|qac<|lw E (qaw rfl rfl (InR.inc r18 (qam hc_0) c19)) fun a E=>mv E rfl fun a E=>wpList_nil ?_
 cases hF
 exact qas ⟨c33,M34,ok,E.keep [3,6,7,8],h35,(InR.inc r18 (qam hc_0) c19)⟩
def qlX (u:World) (m0:Mem) (S:Segs) (r:Int) (a:Act) (w:World):Prop :=
 Ok u m0 S w ∧ a.defers = [] ∧ RVs Tryz.prog a w [.t 4 (.int .i64 r)] ∧ InR .i64 r
theorem qgc (N:Nat) (vr_0:List Value) (r_0:Relation) (hr_0:qap m0 vr_0 r_0) (n_1:Int) (rn_1:InR .i64 n_1) {r:Int} (hF:qdY N r_0 n_1 = some r) (hG:Glob u) (ok:Ok u m0 S w) :
  Calls Tryz.prog 120 [.agg vr_0.toArray,vi n_1].toArray w fun e w'=>(e = .returned (.int .i64 r) ∧ Ok u m0 S w') ∧ InR .i64 r:=by
 obtain ⟨c3,rfl,r1,r2,h4⟩:=hr_0
 unfold qdY at hF
 refine en (qlX u m0 S) r Tryz.func120 rfl rfl rfl (fun _ _ h=>rb h rfl) fun fin a E=>sg<|qbz E ok rfl rfl rfl fun b5 a w E ok=>aw E rfl fun a E=>wp_seq<|sg<|fk E ok qcn qak rfl 0 rfl rfl fun a E=>lw E (qb7 rfl rfl) fun a E=>wn<|cf E rfl hF (fun c6 hF=>?_) fun c6 hF=>?_
 ·refine sg<|mv E rfl fun a E=>fk E ok qcn qak rfl 0 rfl rfl fun a E=>bd hF fun q7 e8 hF=>lw E (y_rm rfl rfl e8) fun a E=>aw E rfl fun a E=>wp_ret<|qaq ?_
  exact fin hF ⟨ok.drop,E.d,rz E rfl,(qnP e8 rn_1)⟩
 refine wp_skip<|qaa<|sg<|mv E rfl fun a E=>lv E ok (qag (cs:=[vi r_0.Operand,vi r_0.Mod,vb r_0.Not,c3]) qbc rfl rfl (qab.own 0 rfl rfl)) fun a E=>bd hF fun r9 e10 hF=>qan E qqB rfl (qiz N _ r_0 ⟨_,rfl,r1,r2,h4⟩ e10 hG ok) rfl rfl ?_
 rintro _ w ⟨⟨rfl,ok⟩,r11⟩
 refine ⟨_,rfl,fun a E=>?_⟩
 refine lw E (qbq rfl rfl) fun a E=>lw E (qkp rfl rfl) fun a E=>aw E rfl fun a E=>wp_ret ?_
 exact fin hF ⟨ok.drop,E.d,rz E rfl,(InR.min rn_1 (InR.wrap _ _))⟩
theorem qbv {u:World} {m0:Mem} {S:Segs} {w:World} (N:Nat) (p0_0:Int) (rp0_0:InR .i64 p0_0) {r:(List UInt8)} (hF:qeU N p0_0 = some r) (hG:Glob u) (hTb:Tab u) (ok:Ok u m0 S w) :
 Calls Tryz.prog 122 [vi p0_0].toArray w fun e w'=>(e = .returned (.string (bs r)) ∧ Ok u m0 S w') ∧ r.length ≤ LIMS:=qo9 Tryz.laysM171 hTb p0_0 rp0_0 hF ok
def ql2 (u:World) (m0:Mem) (S:Segs) (r:Bool) (a:Act) (w:World):Prop :=
 Ok u m0 S w ∧ a.defers = [] ∧ RVs Tryz.prog a w [.t 2 (.bool r)]
theorem qfd (N:Nat) (vr_0:List Value) (r_0:Relation) (hr_0:qap m0 vr_0 r_0) {r:Bool} (hF:qen N r_0 = some r) (hG:Glob u) (ok:Ok u m0 S w) :
  Calls Tryz.prog 123 [.agg vr_0.toArray].toArray w fun e w'=>(e = .returned (.bool r) ∧ Ok u m0 S w'):=by
 obtain ⟨c3,rfl,r1,r2,h4⟩:=hr_0
 unfold qen at hF
 refine en (ql2 u m0 S) r Tryz.func123 rfl rfl rfl (fun _ _ h=>ra h rfl) fun fin a E=>sg<|qbz E ok rfl rfl rfl fun b5 a w E ok=>aw E rfl fun a E=>sg<|fk E ok qa2 qak rfl 0 rfl rfl fun a E=>lw E (qau rfl rfl) fun a E=>mv E rfl fun a E=>bu E 6 hF (fun c6 hF E=>?_) fun c6 hF E=>?_
 ·refine lsq E fun a E=>ls E fun a E=>pt E rfl rfl fun a E=>aw E rfl fun a E=>wp_ret ?_
  exact fin hF ⟨ok.drop,E.d,rz E rfl⟩
 refine fk E ok qa2 qak rfl 0 rfl rfl fun a E=>lw E (qau rfl rfl) fun a E=>pf E rfl rfl fun a E=>aw E rfl fun a E=>wp_ret ?_
 exact fin hF ⟨ok.drop,E.d,rz E rfl⟩
def qkG (u:World) (m0:Mem) (S:Segs) (r:(List (Part))) (a:Act) (w:World):Prop :=
 ∃ m1 v0 M0,m0.le m1 ∧ Ok u m1 (M0 :: S) w ∧ a.defers = [] ∧ RVs Tryz.prog a w [.t 4 v0] ∧ ORow 181 2 qb8 m1 v0 r M0
theorem qkD (N:Nat) (vl_0:Value) (l_0:List (Part)) {Ml_0:List (Nat × Obj)} (hl_0:ORow 181 2 qb8 m0 vl_0 l_0 Ml_0) (vp_1:List Value) (p_1:Part) (hp_1:qb8 m0 vp_1 p_1) {r:(List (Part))} (hF:qh6 N l_0 p_1 = some r) (hG:Glob u) (ok:Ok u m0 (Ml_0 :: S) w) :
  Calls Tryz.prog 124 [vl_0,.agg vp_1.toArray].toArray w fun e w'=>∃ m1 v0 M0,e = .returned v0 ∧ m0.le m1 ∧ Ok u m1 (M0 :: S) w' ∧ ORow 181 2 qb8 m1 v0 r M0:=by
 obtain ⟨rfl,r1,l2⟩:=hp_1
 have le_m0:=Mem.le.refl m0
 unfold qh6 at hF
 refine en (qkG u m0 S) r Tryz.func124 rfl rfl rfl (by rintro a w ⟨m1,v0,M0,hle,ok,hd,hrv,h0⟩; exact qbG [.t 4 v0] hd rfl hrv ⟨m1,v0,M0,rfl,hle,ok,h0⟩) fun fin a E=>sg<|qbz E ok rfl rfl rfl fun b3 a w E ok=>aw E rfl fun a E=>wp_seq<|sg<|mv E rfl fun a E=>lv E ok (qcF qh8 hl_0 rfl) fun a E=>mv E rfl fun a E=>wn<|wp_block<|bd hF fun o5 hL hF=>qaE _ (fun (s:Int) a w=>Ok u m0 ([(b3,oc 181 [vu p_1.bits,vs p_1.text])] :: Ml_0 :: S) w ∧ Env 33 a [(0,vl_0),(3,vp b3),(7,vl_0),(8,(vi (l_0.length:Int))),(9,vi s)] ∧ InR .i64 s) (fun (b:(Unit ⊕ ((List (Part))))) e a w=>(Sum.elim (fun b33=>e = (.exit 0) ∧ Ok u m0 ([(b3,oc 181 [vu p_1.bits,vs p_1.text])] :: Ml_0 :: S) w ∧ Env 33 a [(0,vl_0),(3,vp b3)]) (fun b34=>e = .ret ∧ qkG u m0 S b34 a w)) b) ?_ ?_ N _ a w hL ⟨ok,E.keep [0,3,7,8,9],(ir 0)⟩
 rotate_left
 ·intro e a w _ hO
  rcases o5 with o5 | o5
  rotate_left
  ·obtain ⟨rfl,hret⟩:=hO
   refine qaz<|qaq ?_
   exact fin hF hret
  have hF:=qca hF
  obtain ⟨rfl,ok,E⟩:=hO
  refine qaM<|qaa<|sg<|mv E rfl fun a E=>lv E ok (qag (cs:=[vu p_1.bits,vs p_1.text]) qiO rfl rfl (qab.own 0 rfl rfl)) fun a E=>qaW (R:=qb8) (xo:=[.tmp 30]) (xs:=([p_1]:List (Part))) E ok qh8 qhm rfl ⟨⟨_,rfl,rfl,⟨rfl,r1,l2⟩⟩,trivial⟩ rfl rfl rfl rfl fun c25 M26 a w E ok h27=>bd hF fun l28 e29 hF=>qbo (R:=qb8) E ok 2 qcu qh8 Tryz.underlying173 rfl hl_0 (qa0.ofRow h27 0 rfl ok) e29 ⟨_,qhm,rfl⟩ rfl rfl rfl rfl fun c30 M31 a w E ok h32=>aw E rfl fun a E=>wp_ret ?_
  exact fin hF ⟨m0,c30,M31,le_m0,ok.drop.drop,E.d,rz E rfl,h32⟩
 rintro v7 a w r ⟨ok,E,r8⟩ hF
 replace hF:qhZ N l_0 p_1 v7 = some r:=hF
 unfold qhZ at hF
 refine sg<|lw E (qav rfl rfl) fun a E=>wn<|wp_seq<|cg E rfl hF (fun c9 hF=>?_) fun c9 hF=>?_
 ·refine wp_exit<|qaA ?_
  cases hF
  exact so (sl ⟨rfl,⟨ok,E.keep [0,3]⟩⟩)
 refine wp_skip<|qaa<|wp_seq<|wp_block<|sg ?_
 obtain ⟨x10,e11,hF⟩:=bnd hF
 obtain ⟨b12,o13,hp14,yy15⟩:=qbR qh8 hl_0 e11 (P:=Tryz.prog) (X:=.tmp 7) (I:=.tmp 9) (kd:=.i64) (qaT E rfl) (qaT E rfl)
 refine lv E ok (yy15 _ _) fun a E=>?_
 obtain ⟨es16,hl17,rr18,hh19⟩:=qb9 hl_0 e11 hp14 (by decide)
 obtain ⟨rfl,r20,l21⟩:=rr18
 refine lv E ok (qag (cs:=[vu x10.bits,vs x10.text]) qiO rfl rfl (hh19 _ _ _ 1 rfl)) fun a E=>qax E ok qhm rfl rfl fun b22 a w E ok=>qad E ok 0 rfl rfl rfl qm3 rfl rfl ⟨rfl,rfl,trivial⟩ rfl rfl fun w ok=>wn<|sg<|fv E qhf rfl fun a E=>ld E ok qhW 0 rfl rfl rfl fun a E=>fk E ok qhf qhW rfl 1 rfl rfl fun a E=>lw E (qau rfl rfl) fun a E=>mv E rfl fun a E=>bw E 18 hF (fun c23 hF E=>?_) fun c23 hF E=>?_
 ·refine lsz E fun a E=>lsq E fun a E=>ls E fun a E=>pf E rfl rfl fun a E=>wn<|c_if E rfl (fun h=>by cases h) (fun _=>?_)
  refine wp_skip<|qal<|qaa<|qac<|lw E (qaw rfl rfl (InR.inc r8 (ORow.InR hl_0) c9)) fun a E=>mv E rfl fun a E=>wpList_nil ?_
  cases hF
  exact qas ⟨(ok.pk 3 [1,2] rfl (by decide)),E.keep [0,3,7,8,9],(InR.inc r8 (ORow.InR hl_0) c9)⟩
 refine fk E ok qi7 qfs rfl 0 rfl rfl fun a E=>lw E (qeZ Tryz.underlying9 rfl) fun a E=>fk E ok qi7 qfs rfl 1 rfl rfl fun a E=>lw E (qeZ Tryz.underlying9 rfl) fun a E=>lw E (qau rfl rfl) fun a E=>pt E rfl rfl fun a E=>wn<|cg E rfl hF (fun c24 hF=>?_) fun c24 hF=>?_
 ·refine wp_skip<|qal<|qaa<|qac<|lw E (qaw rfl rfl (InR.inc r8 (ORow.InR hl_0) c9)) fun a E=>mv E rfl fun a E=>wpList_nil ?_
  cases hF
  exact qas ⟨(ok.pk 3 [1,2] rfl (by decide)),E.keep [0,3,7,8,9],(InR.inc r8 (ORow.InR hl_0) c9)⟩
 refine sg<|mv E rfl fun a E=>aw E rfl fun a E=>wp_ret<|qaz<|qaq ?_
 cases hF
 exact so (sr ⟨rfl,⟨m0,vl_0,Ml_0,le_m0,ok.drop.drop,E.d,rz E rfl,hl_0⟩⟩)
def qfI (u:World) (m0:Mem) (S:Segs) (r:Bool) (a:Act) (w:World):Prop :=
 Ok u m0 S w ∧ a.defers = [] ∧ RVs Tryz.prog a w [.t 4 (.bool r)]
theorem qg7 (N:Nat) (vt_0:List Value) (t_0:Tracker) (ht_0:qbD m0 vt_0 t_0) (vr_1:List Value) (r_1:Relation) (hr_1:qap m0 vr_1 r_1) {r:Bool} (hF:qcd N t_0 r_1 = some r) (hG:Glob u) (ok:Ok u m0 S w) :
  Calls Tryz.prog 54 [.agg vt_0.toArray,.agg vr_1.toArray].toArray w fun e w'=>(e = .returned (.bool r) ∧ Ok u m0 S w'):=by
 obtain ⟨rfl,r1,r2⟩:=ht_0
 obtain ⟨c5,rfl,r3,r4,h6⟩:=hr_1
 unfold qcd at hF
 refine en (qfI u m0 S) r Tryz.func54 rfl rfl rfl (fun _ _ h=>ra h rfl) fun fin a E=>sg<|qbz E ok rfl rfl rfl fun b7 a w E ok=>qbz E ok rfl rfl rfl fun b8 a w E ok=>aw E rfl fun a E=>wp_seq<|sg<|fk E ok qa2 qak rfl 0 rfl rfl fun a E=>lw E (qau rfl rfl) fun a E=>mv E rfl fun a E=>bw E 10 hF (fun c9 hF E=>?_) fun c9 hF E=>?_
 ·as_aux_lemma =>
   refine lsq E fun a E=>ls E fun a E=>pf E rfl rfl fun a E=>wn<|c_if E rfl (fun h=>by cases h) (fun _=>?_)
   refine wp_skip<|qaa<|wp_seq<|sg<|fk E ok qbs qb3 rfl 0 rfl rfl fun a E=>lv E ok (qaD qbO h6 rfl) fun a E=>mv E rfl fun a E=>wn<|wp_block<|bd hF fun o34 hL hF=>qaE _ (fun (s:Int) a w=>Ok u m0 ([(b8,oc 69 [vi r_1.Operand,vi r_1.Mod,vb r_1.Not,c5])] :: [(b7,oc 86 [vi t_0.a,vi t_0.b])] :: S) w ∧ Env 42 a [(2,vp b7),(3,vp b8),(18,c5),(19,(vi (r_1.Spans.length:Int))),(20,vi s)] ∧ InR .i64 s) (fun (b:(Unit ⊕ Bool)) e a w=>(Sum.elim (fun b53=>e = (.exit 0) ∧ Ok u m0 ([(b8,oc 69 [vi r_1.Operand,vi r_1.Mod,vb r_1.Not,c5])] :: [(b7,oc 86 [vi t_0.a,vi t_0.b])] :: S) w ∧ Env 42 a [(3,vp b8)]) (fun b54=>e = .ret ∧ qfI u m0 S b54 a w)) b) ?_ ?_ N _ a w hL ⟨ok,E.keep [2,3,18,19,20],(ir 0)⟩
   rotate_left
   ·intro e a w _ hO
    rcases o34 with o34 | o34
    rotate_left
    ·obtain ⟨rfl,hret⟩:=hO
     refine qaz<|qaq ?_
     exact fin hF hret
    have hF:=qca hF
    obtain ⟨rfl,ok,E⟩:=hO
    refine qaM<|qaa<|sg<|fk E ok qe9 qbx rfl 0 rfl rfl fun a E=>av E rfl fun a E=>wn<|wp_ret ?_
    exact fin hF ⟨ok.drop.drop,E.d,rz E rfl⟩
   rintro v36 a w r ⟨ok,E,r37⟩ hF
   replace hF:qcK N t_0 r_1 v36 = some r:=hF
   unfold qcK at hF
   refine sg<|lw E (qav rfl rfl) fun a E=>wn<|wp_seq<|cg E rfl hF (fun c38 hF=>?_) fun c38 hF=>?_
   ·refine wp_exit<|qaA ?_
    cases hF
    exact so (sl ⟨rfl,⟨ok,E.keep [3]⟩⟩)
   refine wp_skip<|qaa<|wp_seq<|wp_block<|sg ?_
   obtain ⟨x39,e40,hF⟩:=bnd hF
   obtain ⟨b41,o42,es43,hl44,rr45,at46,yy47⟩:=ia E 18 20 qbO h6 e40
   obtain ⟨rfl,r48,r49⟩:=rr45
   refine lv E ok (yy47 _ _) fun a E=>lv E ok (qag (cs:=[vi x39.From,vi x39.To]) qeQ rfl rfl (qab.ro at46)) fun a E=>qax E ok qdd rfl rfl fun b50 a w E ok=>qad E ok 0 rfl rfl rfl qfW rfl rfl ⟨rfl,rfl,trivial⟩ rfl rfl fun w ok=>wn<|sg<|fk E ok qfy qak rfl 2 rfl rfl fun a E=>fk E ok qeS qak rfl 0 rfl rfl fun a E=>lw E (qev rfl rfl) fun a E=>mv E rfl fun a E=>bw E 29 hF (fun c51 hF E=>?_) fun c51 hF E=>?_
   ·refine lsz E fun a E=>ls E fun a E=>pf E rfl rfl fun a E=>wn<|c_if E rfl (fun h=>by cases h) (fun _=>?_)
    refine wp_skip<|qal<|qaa<|qac<|lw E (qaw rfl rfl (InR.inc r37 (qam h6) c38)) fun a E=>mv E rfl fun a E=>wpList_nil ?_
    cases hF
    exact qas ⟨(ok.pk 3 [1,2] rfl (by decide)),E.keep [2,3,18,19,20],(InR.inc r37 (qam h6) c38)⟩
   refine fk E ok qfy qak rfl 2 rfl rfl fun a E=>fk E ok qdK qak rfl 0 rfl rfl fun a E=>lw E (qeC rfl rfl) fun a E=>pt E rfl rfl fun a E=>wn<|cg E rfl hF (fun c52 hF=>?_) fun c52 hF=>?_
   ·refine wp_skip<|qal<|qaa<|qac<|lw E (qaw rfl rfl (InR.inc r37 (qam h6) c38)) fun a E=>mv E rfl fun a E=>wpList_nil ?_
    cases hF
    exact qas ⟨(ok.pk 3 [1,2] rfl (by decide)),E.keep [2,3,18,19,20],(InR.inc r37 (qam h6) c38)⟩
   refine sg<|fk E ok qe9 qbx rfl 1 rfl rfl fun a E=>lw E (qbu rfl) fun a E=>aw E rfl fun a E=>wp_ret<|qaz<|qaq ?_
   cases hF
   exact so (sr ⟨rfl,⟨ok.drop.drop.drop,E.d,rz E rfl⟩⟩)
 refine fk E ok qfZ qak rfl 1 rfl rfl fun a E=>lw E (qau rfl rfl) fun a E=>pt E rfl rfl fun a E=>wn<|cf E rfl hF (fun c10 hF=>?_) fun c10 hF=>?_
 ·refine sg<|fk E ok qe9 qbx rfl 0 rfl rfl fun a E=>aw E rfl fun a E=>wp_ret<|qaq ?_
  exact fin hF ⟨ok.drop.drop,E.d,rz E rfl⟩
 refine wp_skip<|qaa<|wp_seq<|sg<|fk E ok qbs qb3 rfl 0 rfl rfl fun a E=>lv E ok (qaD qbO h6 rfl) fun a E=>mv E rfl fun a E=>wn<|wp_block<|bd hF fun o12 hL hF=>qaE _ (fun (s:Int) a w=>Ok u m0 ([(b8,oc 69 [vi r_1.Operand,vi r_1.Mod,vb r_1.Not,c5])] :: [(b7,oc 86 [vi t_0.a,vi t_0.b])] :: S) w ∧ Env 42 a [(2,vp b7),(3,vp b8),(18,c5),(19,(vi (r_1.Spans.length:Int))),(20,vi s)] ∧ InR .i64 s) (fun (b:(Unit ⊕ Bool)) e a w=>(Sum.elim (fun b31=>e = (.exit 0) ∧ Ok u m0 ([(b8,oc 69 [vi r_1.Operand,vi r_1.Mod,vb r_1.Not,c5])] :: [(b7,oc 86 [vi t_0.a,vi t_0.b])] :: S) w ∧ Env 42 a [(3,vp b8)]) (fun b32=>e = .ret ∧ qfI u m0 S b32 a w)) b) ?_ ?_ N _ a w hL ⟨ok,E.keep [2,3,18,19,20],(ir 0)⟩
 rotate_left
 ·intro e a w _ hO
  rcases o12 with o12 | o12
  rotate_left
  ·obtain ⟨rfl,hret⟩:=hO
   refine qaz<|qaq ?_
   exact fin hF hret
  have hF:=qca hF
  obtain ⟨rfl,ok,E⟩:=hO
  refine qaM<|qaa<|sg<|fk E ok qe9 qbx rfl 0 rfl rfl fun a E=>av E rfl fun a E=>wn<|wp_ret ?_
  exact fin hF ⟨ok.drop.drop,E.d,rz E rfl⟩
 rintro v14 a w r ⟨ok,E,r15⟩ hF
 replace hF:qcJ N t_0 r_1 v14 = some r:=hF
 unfold qcJ at hF
 refine sg<|lw E (qav rfl rfl) fun a E=>wn<|wp_seq<|cg E rfl hF (fun c16 hF=>?_) fun c16 hF=>?_
 ·refine wp_exit<|qaA ?_
  cases hF
  exact so (sl ⟨rfl,⟨ok,E.keep [3]⟩⟩)
 refine wp_skip<|qaa<|wp_seq<|wp_block<|sg ?_
 obtain ⟨x17,e18,hF⟩:=bnd hF
 obtain ⟨b19,o20,es21,hl22,rr23,at24,yy25⟩:=ia E 18 20 qbO h6 e18
 obtain ⟨rfl,r26,r27⟩:=rr23
 refine lv E ok (yy25 _ _) fun a E=>lv E ok (qag (cs:=[vi x17.From,vi x17.To]) qeQ rfl rfl (qab.ro at24)) fun a E=>qax E ok qdd rfl rfl fun b28 a w E ok=>qad E ok 0 rfl rfl rfl qfW rfl rfl ⟨rfl,rfl,trivial⟩ rfl rfl fun w ok=>wn<|sg<|fk E ok qfy qak rfl 2 rfl rfl fun a E=>fk E ok qeS qak rfl 0 rfl rfl fun a E=>lw E (qev rfl rfl) fun a E=>mv E rfl fun a E=>bw E 29 hF (fun c29 hF E=>?_) fun c29 hF E=>?_
 ·refine lsz E fun a E=>ls E fun a E=>pf E rfl rfl fun a E=>wn<|c_if E rfl (fun h=>by cases h) (fun _=>?_)
  refine wp_skip<|qal<|qaa<|qac<|lw E (qaw rfl rfl (InR.inc r15 (qam h6) c16)) fun a E=>mv E rfl fun a E=>wpList_nil ?_
  cases hF
  exact qas ⟨(ok.pk 3 [1,2] rfl (by decide)),E.keep [2,3,18,19,20],(InR.inc r15 (qam h6) c16)⟩
 refine fk E ok qfy qak rfl 2 rfl rfl fun a E=>fk E ok qdK qak rfl 0 rfl rfl fun a E=>lw E (qeC rfl rfl) fun a E=>pt E rfl rfl fun a E=>wn<|cg E rfl hF (fun c30 hF=>?_) fun c30 hF=>?_
 ·refine wp_skip<|qal<|qaa<|qac<|lw E (qaw rfl rfl (InR.inc r15 (qam h6) c16)) fun a E=>mv E rfl fun a E=>wpList_nil ?_
  cases hF
  exact qas ⟨(ok.pk 3 [1,2] rfl (by decide)),E.keep [2,3,18,19,20],(InR.inc r15 (qam h6) c16)⟩
 refine sg<|fk E ok qe9 qbx rfl 1 rfl rfl fun a E=>lw E (qbu rfl) fun a E=>aw E rfl fun a E=>wp_ret<|qaz<|qaq ?_
 cases hF
 exact so (sr ⟨rfl,⟨ok.drop.drop.drop,E.d,rz E rfl⟩⟩)
def qjW (u:World) (m0:Mem) (S:Segs) (pb0:Nat) (x0:qaL) (c1:Value) (c3:Value) (M4:List (Nat × Obj)) (c6:Value) (M7:List (Nat × Obj)) (r:Int) (a:Act) (w:World):Prop :=
 Ok u m0 ([(pb0,oc 175 [c1,c3,c6])] :: M4 :: M7 :: S) w ∧ a.defers = [] ∧ RVs Tryz.prog a w [.t 6 (.int .u64 r)] ∧ InR .u64 r
theorem qht (N:Nat) (behind_1:Bool) (vtrackers_2:Value) (trackers_2:List (Tracker)) (htrackers_2:(pL 2 qbD) m0 [vtrackers_2] trackers_2) {pb0:Nat} {c1:Value} {c3:Value} {M4:List (Nat × Obj)} {c6:Value} {M7:List (Nat × Obj)} (x0:qaL) (h2:(pL 4 qap) m0 [c1] x0.l) (h5:ORow 181 2 qb8 m0 c3 x0.wholes M4) (h8:ORow 181 2 qb8 m0 c6 x0.fraction M7) {r:Int} (hF:qfk N behind_1 trackers_2 x0 = some r) (hG:Glob u) (ok:Ok u m0 ([(pb0,oc 175 [c1,c3,c6])] :: M4 :: M7 :: S) w) :
  Calls Tryz.prog 125 [vp pb0,vb behind_1,vtrackers_2].toArray w fun e w'=>(e = .returned (.int .u64 r) ∧ Ok u m0 ([(pb0,oc 175 [c1,c3,c6])] :: M4 :: M7 :: S) w') ∧ InR .u64 r:=by
 unfold qfk at hF
 refine en (qjW u m0 S pb0 x0 c1 c3 M4 c6 M7) r Tryz.func125 rfl rfl rfl (fun _ _ h=>rb h rfl) fun fin a E=>sg<|aw E rfl fun a E=>sg<|aw E rfl fun a E=>wp_seq<|sg<|mv E rfl fun a E=>lw E (qa6 rfl) fun a E=>fk E ok qh4 qci rfl 0 rfl rfl fun a E=>lv E ok (qaD qa4 h2 rfl) fun a E=>mv E rfl fun a E=>wn<|wp_block<|bd hF fun o11 hL hF=>qaE _ (fun (s:Int × Int) a w=>Ok u m0 ([(pb0,oc 175 [c1,c3,c6])] :: M4 :: M7 :: S) w ∧ Env 38 a [(1,vb behind_1),(2,vtrackers_2),(7,vu s.1),(13,c1),(14,(vi (x0.l.length:Int))),(15,vi s.2)] ∧ InR .u64 s.1 ∧ InR .i64 s.2) (fun (b:Int) e a w=>e = (.exit 0) ∧ Ok u m0 ([(pb0,oc 175 [c1,c3,c6])] :: M4 :: M7 :: S) w ∧ Env 38 a [(7,vu b)] ∧ InR .u64 b) ?_ ?_ N _ a w hL ⟨ok,E.keep [1,2,7,13,14,15],(show InR .u64 (0) by decide),(ir 0)⟩
 rotate_left
 ·intro e a w _ hO
  obtain ⟨rfl,ok,E,r52⟩:=hO
  refine qaM<|qaa<|sg<|mv E rfl fun a E=>aw E rfl fun a E=>wp_ret ?_
  exact fin hF ⟨ok,E.d,rz E rfl,r52⟩
 rintro ⟨v14,v15⟩ a w r ⟨ok,E,r16,r17⟩ hF
 replace hF:qfJ N behind_1 trackers_2 x0 v14 v15 = some r:=hF
 unfold qfJ at hF
 refine sg<|lw E (qav rfl rfl) fun a E=>wn<|wp_seq<|cg E rfl hF (fun c18 hF=>?_) fun c18 hF=>?_
 ·refine wp_exit<|qaA ?_
  cases hF
  exact so (⟨rfl,⟨ok,E.keep [7],r16⟩⟩)
 refine wp_skip<|qaa<|wp_seq<|wp_block<|sg<|mv E rfl fun a E=>?_
 obtain ⟨x19,e20,hF⟩:=bnd hF
 obtain ⟨b21,o22,es23,hl24,rr25,at26,yy27⟩:=ia E 13 15 qa4 h2 e20
 obtain ⟨c30,rfl,r28,r29,h31⟩:=rr25
 refine lv E ok (yy27 _ _) fun a E=>lv E ok (qag (cs:=[vi x19.Operand,vi x19.Mod,vb x19.Not,c30]) qbc rfl rfl (qab.ro at26)) fun a E=>qax E ok qcU rfl rfl fun b32 a w E ok=>av E rfl fun a E=>qad E ok 0 rfl rfl rfl qfF rfl rfl ⟨rfl,rfl,rfl,(qa5 h31),trivial⟩ rfl rfl fun w ok=>wn<|wp_seq<|qdc (by kernel_rfl) (by kernel_rfl) ok<|qv E (qag (cs:=[vi x19.Operand,vi x19.Mod,vb x19.Not,c30]) qbc rfl rfl (qab.own 0 rfl rfl)) fun a E=>bd hF fun r33 e34 hF=>qgn E qlo rfl (fun w ok=>(qfd N _ x19 ⟨_,rfl,r28,r29,h31⟩ e34 hG ok).mono (fun _ _ h=>h)) rfl rfl fun a E=>qv E (qah rfl) fun a E=>qv E (qnU Tryz.underlying4 rfl rfl) fun a E=>qv E (qah rfl) fun a E=>bw E 24 hF (fun c35 hF E=>?_) fun c35 hF E=>?_
 ·refine qs E fun a E=>qs E fun a E=>qs E fun a E=>qs E fun a E=>qs E fun a E=>qs E fun a E=>qv E (qa1 rfl rfl) fun a E=>wpQuiet_nil ?_
  intro w ok
  refine qaa<|c_if E rfl (fun h=>by cases h) (fun _=>?_)
  refine wp_skip<|qal<|qaa<|qac<|lw E (qaw rfl rfl (InR.inc r17 (qam h2) c18)) fun a E=>mv E rfl fun a E=>wpList_nil ?_
  cases hF
  exact qas ⟨(ok.pk 4 [1,2,3] rfl (by decide)),E.keep [1,2,7,13,14,15],r16,(InR.inc r17 (qam h2) c18)⟩
 refine qv E (qah rfl) fun a E=>qv E (qah rfl) fun a E=>?_
 obtain ⟨x36,e37,hF⟩:=bnd hF
 obtain ⟨b38,o39,es40,hl41,rr42,at43,yy44⟩:=ia E 25 26 qeh htrackers_2 e37
 obtain ⟨rfl,r45,r46⟩:=rr42
 refine qv E (yy44 _ _) fun a E=>qv E (qag (cs:=[vi x36.a,vi x36.b]) qbT rfl rfl (qab.ro at43)) fun a E=>qv E (qag (cs:=[vi x19.Operand,vi x19.Mod,vb x19.Not,c30]) qbc rfl rfl (qab.own 0 rfl rfl)) fun a E=>bd hF fun r47 e48 hF=>qgn E qqq rfl (fun w ok=>(qg7 N _ x36 ⟨rfl,r45,r46⟩ _ x19 ⟨_,rfl,r28,r29,h31⟩ e48 hG ok).mono (fun _ _ h=>h)) rfl rfl fun a E=>qv E (qa8 rfl rfl) fun a E=>wpQuiet_nil ?_
 intro w ok
 refine qaa<|cg E rfl hF (fun c49 hF=>?_) fun c49 hF=>?_
 ·refine wp_skip<|qal<|qaa<|qac<|lw E (qaw rfl rfl (InR.inc r17 (qam h2) c18)) fun a E=>mv E rfl fun a E=>wpList_nil ?_
  cases hF
  exact qas ⟨(ok.pk 4 [1,2,3] rfl (by decide)),E.keep [1,2,7,13,14,15],r16,(InR.inc r17 (qam h2) c18)⟩
 refine qac<|mz E rfl rfl fun a E=>bd hF fun q50 e51 hF=>lv E ok (qs7 rfl rfl e51) fun a E=>lw E (qiZ .or (by decide) rfl rfl) fun a E=>av E rfl fun a E=>wpList_nil<|qal<|qaa<|qac<|lw E (qaw rfl rfl (InR.inc r17 (qam h2) c18)) fun a E=>mv E rfl fun a E=>wpList_nil ?_
 cases hF
 exact qas ⟨(ok.pk 4 [1,2,3] rfl (by decide)),E.keep [1,2,7,13,14,15],(qng .or .u64 v14 q50),(InR.inc r17 (qam h2) c18)⟩
end Go.Proofs.YtidfofhmnlhfjaaGreatDoor
namespace Go.Proofs.YtidfofhmnlhfjaaGreatDoor
open Go.X
variable {u:World} {m0:Mem} {S:Segs} {w:World}
set_option maxHeartbeats 4000000
set_option maxRecDepth 100000
def qjN (u:World) (m0:Mem) (S:Segs) (r:Tracker) (a:Act) (w:World):Prop :=
 ∃ m1 v0,m0.le m1 ∧ Ok u m1 S w ∧ a.defers = [] ∧ RVs Tryz.prog a w [.c 8 86 (.agg v0.toArray)] ∧ qbD m1 v0 r
theorem qdV (N:Nat) (vt_0:List Value) (t_0:Tracker) (ht_0:qbD m0 vt_0 t_0) (vr_1:List Value) (r_1:Relation) (hr_1:qap m0 vr_1 r_1) (behind_2:Bool) (digit_3:Int) (rdigit_3:InR .i64 digit_3) {r:Tracker} (hF:qbb N t_0 r_1 behind_2 digit_3 = some r) (hG:Glob u) (ok:Ok u m0 S w) :
  Calls Tryz.prog 88 [.agg vt_0.toArray,.agg vr_1.toArray,vb behind_2,vi digit_3].toArray w fun e w'=>∃ m1 v0,e = .returned (.agg v0.toArray) ∧ m0.le m1 ∧ Ok u m1 S w' ∧ qbD m1 v0 r:=by
 obtain ⟨rfl,r1,r2⟩:=ht_0
 obtain ⟨c5,rfl,r3,r4,h6⟩:=hr_1
 have le_m0:=Mem.le.refl m0
 unfold qbb at hF
 refine en (qjN u m0 S) r Tryz.func88 rfl rfl rfl (by rintro a w ⟨m1,v0,hle,ok,hd,hrv,h0⟩; exact qbG [.c 8 86 (.agg v0.toArray)] hd rfl hrv ⟨m1,v0,rfl,hle,ok,h0⟩) fun fin a E=>sg<|qbz E ok rfl rfl rfl fun b7 a w E ok=>qbz E ok rfl rfl rfl fun b8 a w E ok=>qax E ok qe7 rfl rfl fun b9 a w E ok=>wn<|wp_seq<|sg<|fk E ok qa2 qak rfl 1 rfl rfl fun a E=>wn<|wp_block<|wp_seq<|sg<|lw E (qau rfl rfl) fun a E=>aw E rfl fun a E=>bd hF fun o10 hJ hF=>qaG (Q':=fun e a w=>e = .normal ∧ Ok u m0 ([(b9,oc 86 [vi 0,vi 0])] :: [(b8,oc 69 [vi r_1.Operand,vi r_1.Mod,vb r_1.Not,c5])] :: [(b7,oc 86 [vi t_0.a,vi t_0.b])] :: S) w ∧ Env 75 a [(2,vb behind_2),(3,vi digit_3),(4,vp b7),(5,vp b8),(8,vp b9),(10,vi r_1.Operand),(11,vb o10)]) ?_ ?_
 ·have hF:=hJ
  refine cf E rfl hF (fun c11 hF=>?_) fun c11 hF=>?_
  ·refine wp_skip ?_
   cases hF
   exact ⟨rfl,⟨ok,E.keep [2,3,4,5,8,10,11]⟩⟩
  refine qac<|lw E (qau rfl rfl) fun a E=>av E rfl fun a E=>wpList_nil ?_
  cases hF
  exact ⟨rfl,⟨ok,E.keep [2,3,4,5,8,10,11]⟩⟩
 intro e a w hO
 obtain ⟨rfl,ok,E⟩:=hO
 refine qaa<|cf E rfl hF (fun c12 hF=>?_) fun c12 hF=>?_
 ·as_aux_lemma =>
   refine sg<|mv E rfl fun a E=>lw E (qbu rfl) fun a E=>wn<|cf E rfl hF (fun c13 hF=>?_) fun c13 hF=>?_
   ·refine qac<|lv E ok (qag (cs:=[vi r_1.Operand,vi r_1.Mod,vb r_1.Not,c5]) qbc rfl rfl (qab.own 1 rfl rfl)) fun a E=>fk E ok qfy qak rfl 2 rfl rfl fun a E=>lw E (qfB rfl rfl) fun a E=>mv E rfl fun a E=>lw E (qbq rfl rfl) fun a E=>bd hF fun r14 e15 hF=>qan E qmm rfl (qgc N _ r_1 ⟨_,rfl,r3,r4,h6⟩ (IntKind.wrap .i64 ((IntKind.wrap .i64 ((10:Int) * t_0.a)) + digit_3)) (InR.wrap _ _) e15 hG ok) rfl rfl ?_
    rintro _ w ⟨⟨rfl,ok⟩,r16⟩
    refine ⟨_,rfl,fun a E=>?_⟩
    refine fv E qfy rfl fun a E=>qad E ok 2 rfl rfl rfl qaZ rfl rfl ⟨rfl,trivial⟩ rfl rfl fun w ok=>wpList_nil<|qal<|qaa<|sg<|lv E ok (qag (cs:=[vi r14,vi t_0.b]) qbT rfl rfl (qab.own 2 rfl rfl)) fun a E=>qad E ok 0 rfl rfl rfl qef rfl rfl ⟨rfl,rfl,trivial⟩ rfl rfl fun w ok=>wn<|wp_ret ?_
    exact fin hF ⟨m0,[vi r14,vi t_0.b],le_m0,ok.drop.drop.drop,E.d,⟨rv_c (cs:=[vi r14,vi t_0.b]) E ok rfl qbT rfl (qab.own 0 rfl rfl),trivial⟩,⟨rfl,r16,r2⟩⟩
   refine sg<|mv E rfl fun a E=>lw E (qb7 rfl rfl) fun a E=>mv E rfl fun a E=>bw E 26 hF (fun c17 hF E=>?_) fun c17 hF E=>?_
   ·refine lsq E fun a E=>ls E fun a E=>pf E rfl rfl fun a E=>wn<|c_if E rfl (fun h=>by cases h) (fun _=>?_)
    refine wp_skip<|qal<|qaa<|sg<|lv E ok (qag (cs:=[vi t_0.a,vi t_0.b]) qbT rfl rfl (qab.own 2 rfl rfl)) fun a E=>qad E ok 0 rfl rfl rfl qef rfl rfl ⟨rfl,rfl,trivial⟩ rfl rfl fun w ok=>wn<|wp_ret ?_
    exact fin hF ⟨m0,[vi t_0.a,vi t_0.b],le_m0,ok.drop.drop.drop,E.d,⟨rv_c (cs:=[vi t_0.a,vi t_0.b]) E ok rfl qbT rfl (qab.own 0 rfl rfl),trivial⟩,⟨rfl,r1,r2⟩⟩
   refine fk E ok qa2 qak rfl 1 rfl rfl fun a E=>lw E (qau rfl rfl) fun a E=>pt E rfl rfl fun a E=>wn<|cg E rfl hF (fun c18 hF=>?_) fun c18 hF=>?_
   ·refine wp_skip<|qal<|qaa<|sg<|lv E ok (qag (cs:=[vi t_0.a,vi t_0.b]) qbT rfl rfl (qab.own 2 rfl rfl)) fun a E=>qad E ok 0 rfl rfl rfl qef rfl rfl ⟨rfl,rfl,trivial⟩ rfl rfl fun w ok=>wn<|wp_ret ?_
    exact fin hF ⟨m0,[vi t_0.a,vi t_0.b],le_m0,ok.drop.drop.drop,E.d,⟨rv_c (cs:=[vi t_0.a,vi t_0.b]) E ok rfl qbT rfl (qab.own 0 rfl rfl),trivial⟩,⟨rfl,r1,r2⟩⟩
   refine qac<|fv E qfZ rfl fun a E=>qad E ok 2 rfl rfl rfl qaZ rfl rfl ⟨rfl,trivial⟩ rfl rfl fun w ok=>wpList_nil<|qal<|qaa<|sg<|lv E ok (qag (cs:=[vi t_0.a,vi 1]) qbT rfl rfl (qab.own 2 rfl rfl)) fun a E=>qad E ok 0 rfl rfl rfl qef rfl rfl ⟨rfl,rfl,trivial⟩ rfl rfl fun w ok=>wn<|wp_ret ?_
   exact fin hF ⟨m0,[vi t_0.a,vi 1],le_m0,ok.drop.drop.drop,E.d,⟨rv_c (cs:=[vi t_0.a,vi 1]) E ok rfl qbT rfl (qab.own 0 rfl rfl),trivial⟩,⟨rfl,r1,(ir 1)⟩⟩
 refine wp_seq<|sg<|lw E (qau rfl rfl) fun a E=>aw E rfl fun a E=>bd hF fun o19 hJ hF=>qaG (Q':=fun e a w=>e = .normal ∧ Ok u m0 ([(b9,oc 86 [vi 0,vi 0])] :: [(b8,oc 69 [vi r_1.Operand,vi r_1.Mod,vb r_1.Not,c5])] :: [(b7,oc 86 [vi t_0.a,vi t_0.b])] :: S) w ∧ Env 75 a [(2,vb behind_2),(3,vi digit_3),(4,vp b7),(5,vp b8),(8,vp b9),(10,vi r_1.Operand),(32,vb o19)]) ?_ ?_
 ·have hF:=hJ
  refine cf E rfl hF (fun c20 hF=>?_) fun c20 hF=>?_
  ·refine wp_skip ?_
   cases hF
   exact ⟨rfl,⟨ok,E.keep [2,3,4,5,8,10,32]⟩⟩
  refine qac<|lw E (qau rfl rfl) fun a E=>av E rfl fun a E=>wpList_nil ?_
  cases hF
  exact ⟨rfl,⟨ok,E.keep [2,3,4,5,8,10,32]⟩⟩
 intro e a w hO
 obtain ⟨rfl,ok,E⟩:=hO
 refine qaa<|cf E rfl hF (fun c21 hF=>?_) fun c21 hF=>?_
 ·as_aux_lemma =>
   refine sg<|mv E rfl fun a E=>wn<|cg E rfl hF (fun c22 hF=>?_) fun c22 hF=>?_
   ·refine wp_skip<|qal<|qaa<|sg<|lv E ok (qag (cs:=[vi t_0.a,vi t_0.b]) qbT rfl rfl (qab.own 2 rfl rfl)) fun a E=>qad E ok 0 rfl rfl rfl qef rfl rfl ⟨rfl,rfl,trivial⟩ rfl rfl fun w ok=>wn<|wp_ret ?_
    exact fin hF ⟨m0,[vi t_0.a,vi t_0.b],le_m0,ok.drop.drop.drop,E.d,⟨rv_c (cs:=[vi t_0.a,vi t_0.b]) E ok rfl qbT rfl (qab.own 0 rfl rfl),trivial⟩,⟨rfl,r1,r2⟩⟩
   refine sg<|lv E ok (qag (cs:=[vi r_1.Operand,vi r_1.Mod,vb r_1.Not,c5]) qbc rfl rfl (qab.own 1 rfl rfl)) fun a E=>fk E ok qfZ qak rfl 2 rfl rfl fun a E=>lw E (qbq rfl rfl) fun a E=>bd hF fun r23 e24 hF=>qan E qmm rfl (qgc N _ r_1 ⟨_,rfl,r3,r4,h6⟩ (IntKind.wrap .i64 (t_0.b + 1)) (InR.wrap _ _) e24 hG ok) rfl rfl ?_
   rintro _ w ⟨⟨rfl,ok⟩,r25⟩
   refine ⟨_,rfl,fun a E=>?_⟩
   refine fv E qfZ rfl fun a E=>qad E ok 2 rfl rfl rfl qaZ rfl rfl ⟨rfl,trivial⟩ rfl rfl fun w ok=>wn<|sg<|mv E rfl fun a E=>lw E (qb7 rfl rfl) fun a E=>mv E rfl fun a E=>bu E 44 hF (fun c26 hF E=>?_) fun c26 hF E=>?_
   ·refine lsq E fun a E=>ls E fun a E=>pt E rfl rfl fun a E=>wn<|c_if E rfl (fun _=>?_) (fun h=>by cases h)
    refine qac<|fk E ok qfZ qak rfl 2 rfl rfl fun a E=>fv E qfy rfl fun a E=>qad E ok 2 rfl rfl rfl qaZ rfl rfl ⟨rfl,trivial⟩ rfl rfl fun w ok=>wpList_nil<|qal<|qaa<|sg<|lv E ok (qag (cs:=[vi r23,vi r23]) qbT rfl rfl (qab.own 2 rfl rfl)) fun a E=>qad E ok 0 rfl rfl rfl qef rfl rfl ⟨rfl,rfl,trivial⟩ rfl rfl fun w ok=>wn<|wp_ret ?_
    exact fin hF ⟨m0,[vi r23,vi r23],le_m0,ok.drop.drop.drop,E.d,⟨rv_c (cs:=[vi r23,vi r23]) E ok rfl qbT rfl (qab.own 0 rfl rfl),trivial⟩,⟨rfl,r25,r25⟩⟩
   refine fk E ok qa2 qak rfl 1 rfl rfl fun a E=>lw E (qau rfl rfl) fun a E=>pf E rfl rfl fun a E=>wn<|cg E rfl hF (fun c27 hF=>?_) fun c27 hF=>?_
   ·refine wp_skip<|qal<|qaa<|sg<|lv E ok (qag (cs:=[vi t_0.a,vi r23]) qbT rfl rfl (qab.own 2 rfl rfl)) fun a E=>qad E ok 0 rfl rfl rfl qef rfl rfl ⟨rfl,rfl,trivial⟩ rfl rfl fun w ok=>wn<|wp_ret ?_
    exact fin hF ⟨m0,[vi t_0.a,vi r23],le_m0,ok.drop.drop.drop,E.d,⟨rv_c (cs:=[vi t_0.a,vi r23]) E ok rfl qbT rfl (qab.own 0 rfl rfl),trivial⟩,⟨rfl,r1,r25⟩⟩
   refine qac<|fk E ok qfZ qak rfl 2 rfl rfl fun a E=>fv E qfy rfl fun a E=>qad E ok 2 rfl rfl rfl qaZ rfl rfl ⟨rfl,trivial⟩ rfl rfl fun w ok=>wpList_nil<|qal<|qaa<|sg<|lv E ok (qag (cs:=[vi r23,vi r23]) qbT rfl rfl (qab.own 2 rfl rfl)) fun a E=>qad E ok 0 rfl rfl rfl qef rfl rfl ⟨rfl,rfl,trivial⟩ rfl rfl fun w ok=>wn<|wp_ret ?_
   exact fin hF ⟨m0,[vi r23,vi r23],le_m0,ok.drop.drop.drop,E.d,⟨rv_c (cs:=[vi r23,vi r23]) E ok rfl qbT rfl (qab.own 0 rfl rfl),trivial⟩,⟨rfl,r25,r25⟩⟩
 refine wp_seq<|sg<|lw E (qau rfl rfl) fun a E=>aw E rfl fun a E=>bd hF fun o28 hJ hF=>qaG (Q':=fun e a w=>e = .normal ∧ Ok u m0 ([(b9,oc 86 [vi 0,vi 0])] :: [(b8,oc 69 [vi r_1.Operand,vi r_1.Mod,vb r_1.Not,c5])] :: [(b7,oc 86 [vi t_0.a,vi t_0.b])] :: S) w ∧ Env 75 a [(2,vb behind_2),(3,vi digit_3),(4,vp b7),(5,vp b8),(8,vp b9),(52,vb o28)]) ?_ ?_
 ·have hF:=hJ
  refine cf E rfl hF (fun c29 hF=>?_) fun c29 hF=>?_
  ·refine wp_skip ?_
   cases hF
   exact ⟨rfl,⟨ok,E.keep [2,3,4,5,8,52]⟩⟩
  refine qac<|lw E (qau rfl rfl) fun a E=>av E rfl fun a E=>wpList_nil ?_
  cases hF
  exact ⟨rfl,⟨ok,E.keep [2,3,4,5,8,52]⟩⟩
 intro e a w hO
 obtain ⟨rfl,ok,E⟩:=hO
 refine qaa<|cg E rfl hF (fun c30 hF=>?_) fun c30 hF=>?_
 ·refine wp_skip<|qal<|qaa<|sg<|lv E ok (qag (cs:=[vi t_0.a,vi t_0.b]) qbT rfl rfl (qab.own 2 rfl rfl)) fun a E=>qad E ok 0 rfl rfl rfl qef rfl rfl ⟨rfl,rfl,trivial⟩ rfl rfl fun w ok=>wn<|wp_ret ?_
  exact fin hF ⟨m0,[vi t_0.a,vi t_0.b],le_m0,ok.drop.drop.drop,E.d,⟨rv_c (cs:=[vi t_0.a,vi t_0.b]) E ok rfl qbT rfl (qab.own 0 rfl rfl),trivial⟩,⟨rfl,r1,r2⟩⟩
 refine sg<|mv E rfl fun a E=>wn<|cg E rfl hF (fun c31 hF=>?_) fun c31 hF=>?_
 ·refine wp_skip<|qal<|qaa<|sg<|lv E ok (qag (cs:=[vi t_0.a,vi t_0.b]) qbT rfl rfl (qab.own 2 rfl rfl)) fun a E=>qad E ok 0 rfl rfl rfl qef rfl rfl ⟨rfl,rfl,trivial⟩ rfl rfl fun w ok=>wn<|wp_ret ?_
  exact fin hF ⟨m0,[vi t_0.a,vi t_0.b],le_m0,ok.drop.drop.drop,E.d,⟨rv_c (cs:=[vi t_0.a,vi t_0.b]) E ok rfl qbT rfl (qab.own 0 rfl rfl),trivial⟩,⟨rfl,r1,r2⟩⟩
 refine sg<|lv E ok (qag (cs:=[vi r_1.Operand,vi r_1.Mod,vb r_1.Not,c5]) qbc rfl rfl (qab.own 1 rfl rfl)) fun a E=>fk E ok qfZ qak rfl 2 rfl rfl fun a E=>lw E (qfB rfl rfl) fun a E=>mv E rfl fun a E=>lw E (qbq rfl rfl) fun a E=>bd hF fun r32 e33 hF=>qan E qmm rfl (qgc N _ r_1 ⟨_,rfl,r3,r4,h6⟩ (IntKind.wrap .i64 ((IntKind.wrap .i64 ((10:Int) * t_0.b)) + digit_3)) (InR.wrap _ _) e33 hG ok) rfl rfl ?_
 rintro _ w ⟨⟨rfl,ok⟩,r34⟩
 refine ⟨_,rfl,fun a E=>?_⟩
 refine fv E qfZ rfl fun a E=>qad E ok 2 rfl rfl rfl qaZ rfl rfl ⟨rfl,trivial⟩ rfl rfl fun w ok=>wn<|sg<|mv E rfl fun a E=>lw E (qb7 rfl rfl) fun a E=>mv E rfl fun a E=>bu E 66 hF (fun c35 hF E=>?_) fun c35 hF E=>?_
 ·refine lsq E fun a E=>ls E fun a E=>pt E rfl rfl fun a E=>wn<|c_if E rfl (fun _=>?_) (fun h=>by cases h)
  refine qac<|fk E ok qfZ qak rfl 2 rfl rfl fun a E=>fv E qfy rfl fun a E=>qad E ok 2 rfl rfl rfl qaZ rfl rfl ⟨rfl,trivial⟩ rfl rfl fun w ok=>wpList_nil<|qal<|qaa<|sg<|lv E ok (qag (cs:=[vi r32,vi r32]) qbT rfl rfl (qab.own 2 rfl rfl)) fun a E=>qad E ok 0 rfl rfl rfl qef rfl rfl ⟨rfl,rfl,trivial⟩ rfl rfl fun w ok=>wn<|wp_ret ?_
  exact fin hF ⟨m0,[vi r32,vi r32],le_m0,ok.drop.drop.drop,E.d,⟨rv_c (cs:=[vi r32,vi r32]) E ok rfl qbT rfl (qab.own 0 rfl rfl),trivial⟩,⟨rfl,r34,r34⟩⟩
 refine fk E ok qa2 qak rfl 1 rfl rfl fun a E=>lw E (qau rfl rfl) fun a E=>pf E rfl rfl fun a E=>wn<|cg E rfl hF (fun c36 hF=>?_) fun c36 hF=>?_
 ·refine wp_skip<|qal<|qaa<|sg<|lv E ok (qag (cs:=[vi t_0.a,vi r32]) qbT rfl rfl (qab.own 2 rfl rfl)) fun a E=>qad E ok 0 rfl rfl rfl qef rfl rfl ⟨rfl,rfl,trivial⟩ rfl rfl fun w ok=>wn<|wp_ret ?_
  exact fin hF ⟨m0,[vi t_0.a,vi r32],le_m0,ok.drop.drop.drop,E.d,⟨rv_c (cs:=[vi t_0.a,vi r32]) E ok rfl qbT rfl (qab.own 0 rfl rfl),trivial⟩,⟨rfl,r1,r34⟩⟩
 refine qac<|fk E ok qfZ qak rfl 2 rfl rfl fun a E=>fv E qfy rfl fun a E=>qad E ok 2 rfl rfl rfl qaZ rfl rfl ⟨rfl,trivial⟩ rfl rfl fun w ok=>wpList_nil<|qal<|qaa<|sg<|lv E ok (qag (cs:=[vi r32,vi r32]) qbT rfl rfl (qab.own 2 rfl rfl)) fun a E=>qad E ok 0 rfl rfl rfl qef rfl rfl ⟨rfl,rfl,trivial⟩ rfl rfl fun w ok=>wn<|wp_ret ?_
 exact fin hF ⟨m0,[vi r32,vi r32],le_m0,ok.drop.drop.drop,E.d,⟨rv_c (cs:=[vi r32,vi r32]) E ok rfl qbT rfl (qab.own 0 rfl rfl),trivial⟩,⟨rfl,r34,r34⟩⟩
def qhN (u:World) (m0:Mem) (S:Segs) (r:(List UInt8)) (a:Act) (w:World):Prop :=
 Ok u m0 S w ∧ a.defers = [] ∧ RVs Tryz.prog a w [.t 2 (.string (bs r))] ∧ r.length ≤ LIMS
theorem qhM (N:Nat) (b_0:Bool) {r:(List UInt8)} (hF:qeK N b_0 = some r) (hG:Glob u) (ok:Ok u m0 S w) :
  Calls Tryz.prog 166 [vb b_0].toArray w fun e w'=>(e = .returned (.string (bs r)) ∧ Ok u m0 S w') ∧ r.length ≤ LIMS:=by
 unfold qeK at hF
 refine en (qhN u m0 S) r Tryz.func166 rfl rfl rfl (fun _ _ h=>rb h rfl) fun fin a E=>sg<|aw E rfl fun a E=>wp_seq<|sg<|mv E rfl fun a E=>wn<|cf E rfl hF (fun c1 hF=>?_) fun c1 hF=>?_
 ·refine sg<|aw E rfl fun a E=>wp_ret<|qaq ?_
  exact fin hF ⟨ok,E.d,rz E rfl,(show ([116,114,117,101]:List UInt8).length ≤ LIMS by decide)⟩
 refine wp_skip<|qaa<|sg<|aw E rfl fun a E=>wp_ret ?_
 exact fin hF ⟨ok,E.d,rz E rfl,(show ([102,97,108,115,101]:List UInt8).length ≤ LIMS by decide)⟩
def qj9 (u:World) (m0:Mem) (S:Segs) (r:(List UInt8)) (a:Act) (w:World):Prop :=
 Ok u m0 S w ∧ a.defers = [] ∧ RVs Tryz.prog a w [.t 2 (.string (bs r))] ∧ r.length ≤ LIMS
theorem qkd (N:Nat) (b_0:Bool) {r:(List UInt8)} (hF:qgF N b_0 = some r) (hG:Glob u) (ok:Ok u m0 S w) :
  Calls Tryz.prog 150 [vb b_0].toArray w fun e w'=>(e = .returned (.string (bs r)) ∧ Ok u m0 S w') ∧ r.length ≤ LIMS:=by
 unfold qgF at hF
 refine en (qj9 u m0 S) r Tryz.func150 rfl rfl rfl (fun _ _ h=>rb h rfl) fun fin a E=>sg<|aw E rfl fun a E=>sg<|mv E rfl fun a E=>bd hF fun r1 e2 hF=>qan E qsa rfl (qhM N b_0 e2 hG ok) rfl rfl ?_
 rintro _ w ⟨⟨rfl,ok⟩,l3⟩
 refine ⟨_,rfl,fun a E=>?_⟩
 refine aw E rfl fun a E=>wp_ret ?_
 exact fin hF ⟨ok,E.d,rz E rfl,l3⟩
def qio (u:World) (m0:Mem) (S:Segs) (pb0:Nat) (x0:qaL) (c1:Value) (c3:Value) (M4:List (Nat × Obj)) (c6:Value) (M7:List (Nat × Obj)) (r:qaL) (a:Act) (w:World):Prop :=
 ∃ m1 c9 c11 M12 c14 M15,m0.le m1 ∧ Ok u m1 ([(pb0,oc 175 [c9,c11,c14])] :: M12 :: M15 :: S) w ∧ a.defers = [] ∧ RVs Tryz.prog a w [] ∧ (pL 4 qap) m1 [c9] r.l ∧ ORow 181 2 qb8 m1 c11 r.wholes M12 ∧ ORow 181 2 qb8 m1 c14 r.fraction M15
theorem qiv (N:Nat) {pb0:Nat} {c1:Value} {c3:Value} {M4:List (Nat × Obj)} {c6:Value} {M7:List (Nat × Obj)} (x0:qaL) (h2:(pL 4 qap) m0 [c1] x0.l) (h5:ORow 181 2 qb8 m0 c3 x0.wholes M4) (h8:ORow 181 2 qb8 m0 c6 x0.fraction M7) {r:qaL} (hF:qfi N x0 = some r) (hG:Glob u) (hTb:Tab u) (ok:Ok u m0 ([(pb0,oc 175 [c1,c3,c6])] :: M4 :: M7 :: S) w) :
  Calls Tryz.prog 126 [vp pb0].toArray w fun e w'=>∃ m1 c9 c11 M12 c14 M15,e = .returned (.tuple [].toArray) ∧ m0.le m1 ∧ Ok u m1 ([(pb0,oc 175 [c9,c11,c14])] :: M12 :: M15 :: S) w' ∧ (pL 4 qap) m1 [c9] r.l ∧ ORow 181 2 qb8 m1 c11 r.wholes M12 ∧ ORow 181 2 qb8 m1 c14 r.fraction M15:=by
 have le_m0:=Mem.le.refl m0
 unfold qfi at hF
 refine en (qio u m0 S pb0 x0 c1 c3 M4 c6 M7) r Tryz.func126 rfl rfl rfl (by rintro a w ⟨m1,c9,c11,M12,c14,M15,hle,ok,hd,hrv,h0,h1,h2⟩; exact qbG [] hd rfl hrv ⟨m1,c9,c11,M12,c14,M15,rfl,hle,ok,h0,h1,h2⟩) fun fin a E=>sg<|mv E rfl fun a E=>lw E (qa6 rfl) fun a E=>fk E ok qh4 qci rfl 0 rfl rfl fun a E=>lv E ok (qaD qa4 h2 rfl) fun a E=>bd hF fun l17 e18 hF=>qeJ (R:=qbD) E ok qeh qe7 rfl ⟨rfl,(ir 0),(ir 0)⟩ rfl e18 rfl rfl fun c19 M20 a w E ok h21=>lw E (qaF (ps:=[(0,.const (vs ([]))),(1,.tmp 19),(2,.const (vb true))]) (qs:=[(0,[(vs ([]))]),(1,[c19]),(2,[vb true])]) (cs:=[(vs ([])),c19,vb true]) qbH qdn rfl ⟨rfl,rfl,rfl,⟨rfl,(ORow.cells h21),rfl,⟨rfl,rfl,rfl,trivial⟩⟩⟩ rfl) fun a E=>?_
 obtain ⟨m22,hle,ok,hfz⟩:=(ok.frs 0 rfl).freeze
 have h23:=ORow.froz qbr h21 hle hfz (by decide)
 have le_m0:=le_m0.trans hle
 have h2:=(mL qaf).up hle h2
 have h5:=ORow.up qcu hle h5
 have h8:=ORow.up qcu hle h8
 refine qaW (R:=qg8) (xo:=[.tmp 20]) (xs:=([(State.mk ([]) l17 true)]:List (State))) E ok qlm qbH rfl ⟨⟨_,rfl,rfl,⟨_,rfl,(show ([]:List UInt8).length ≤ LIMS by decide),h23⟩⟩,trivial⟩ rfl rfl rfl rfl fun c24 M25 a w E ok h26=>aw E rfl fun a E=>sg<|av E rfl fun a E=>wn<|wp_block<|bd hF fun o43 hL hF=>qaE _ (fun (s:(List (State)) × Int × qaL) a w=>∃ m44 c45 M46 c49 c51 M52 c54 M55,m22.le m44 ∧ Ok u m44 (M46 :: [(pb0,oc 175 [c49,c51,c54])] :: M52 :: M55 :: S) w ∧ Env 136 a [(0,vp pb0),(2,c45),(3,vi s.2.1)] ∧ ORow 199 3 qg8 m44 c45 s.1 M46 ∧ InR .i64 s.2.1 ∧ (pL 4 qap) m44 [c49] s.2.2.l ∧ ORow 181 2 qb8 m44 c51 s.2.2.wholes M52 ∧ ORow 181 2 qb8 m44 c54 s.2.2.fraction M55) (fun (b:qaL) e a w=>e = (.exit 0) ∧ ∃ m522 c523 c525 M526 c528 M529,m22.le m522 ∧ Ok u m522 ([(pb0,oc 175 [c523,c525,c528])] :: M526 :: M529 :: S) w ∧ Env 136 a [] ∧ (pL 4 qap) m522 [c523] b.l ∧ ORow 181 2 qb8 m522 c525 b.wholes M526 ∧ ORow 181 2 qb8 m522 c528 b.fraction M529) ?_ ?_ N _ a w hL ⟨m22,c24,M25,c1,c3,M4,c6,M7,Mem.le.refl _,ok,E.keep [0,2,3],h26,(ir 0),h2,h5,h8⟩
 rotate_left
 ·intro e a w _ hO
  obtain ⟨rfl,m513,c514,c516,M517,c519,M520,hle,ok,E,h515,h518,h521⟩:=hO
  have le_m0:=le_m0.trans hle
  have h2:=(mL qaf).up hle h2
  have h23:=(mL qbr).up hle h23
  refine qaM ?_
  exact fin hF ⟨m513,c514,c516,M517,c519,M520,le_m0,ok,E.d,trivial,h515,h518,h521⟩
 rintro ⟨v57,v58,v59⟩ a w r ⟨m60,c61,M62,c65,c67,M68,c70,M71,hle,ok,E,h63,r64,h66,h69,h72⟩ hF
 replace hF:qeF N v57 v58 v59 = some r:=hF
 unfold qeF at hF
 have le_m22:=Mem.le.refl m22
 have le_m0:=le_m0.trans hle
 have le_m22:=le_m22.trans hle
 have h2:=(mL qaf).up hle h2
 have h23:=(mL qbr).up hle h23
 refine wp_seq<|sg<|mv E rfl fun a E=>lw E (qeC rfl rfl) fun a E=>wn<|cg E rfl hF (fun c73 hF=>?_) fun c73 hF=>?_
 ·refine wp_exit<|qaA ?_
  cases hF
  exact so (⟨rfl,⟨m60,c65,c67,M68,c70,M71,le_m22,(ok.pk 4 [1,2,3] rfl (by decide)),E.keep [],h66,h69,h72⟩⟩)
 refine wp_skip<|qaa<|wp_seq<|wp_block<|sg<|av E rfl fun a E=>wn<|sg<|qie kS (oneV pB) E ok rfl rfl fun c74 M75 a w E ok h76=>aw E rfl fun a E=>wp_seq<|sg<|mv E rfl fun a E=>lv E ok (qcF qlm h63 rfl) fun a E=>mv E rfl fun a E=>wn<|wp_block ?_
 obtain ⟨M93,ok,h94⟩:=qcf (e:=199) (k:=3) (R:=qg8) ok
 refine bd hF fun o95 hL hF=>qaE _ (fun (s:(List (State)) × Int × qaL × (List (List UInt8 × Bool))) a w=>∃ m96 c97 M98 c101 c103 M104 c106 M107 c109 M110,m60.le m96 ∧ Ok u m96 (M98 :: M110 :: M62 :: [(pb0,oc 175 [c101,c103,c106])] :: M104 :: M107 :: S) w ∧ Env 136 a [(0,vp pb0),(3,vi v58),(4,c97),(5,c109),(27,c61),(28,(vi (v57.length:Int))),(29,vi s.2.1)] ∧ ORow 199 3 qg8 m96 c97 s.1 M98 ∧ InR .i64 s.2.1 ∧ (pL 4 qap) m96 [c101] s.2.2.1.l ∧ ORow 181 2 qb8 m96 c103 s.2.2.1.wholes M104 ∧ ORow 181 2 qb8 m96 c106 s.2.2.1.fraction M107 ∧ OMap kS (oneV pB) m96 c109 s.2.2.2 M110) (fun (b:(qaL × (List (State)))) e a w=>e = (.exit 2) ∧ ∃ m501 c502 c504 M505 c507 M508 c510 M511,m60.le m501 ∧ Ok u m501 (M511 :: M62 :: [(pb0,oc 175 [c502,c504,c507])] :: M505 :: M508 :: S) w ∧ Env 136 a [(0,vp pb0),(3,vi v58),(4,c510)] ∧ (pL 4 qap) m501 [c502] b.1.l ∧ ORow 181 2 qb8 m501 c504 b.1.wholes M505 ∧ ORow 181 2 qb8 m501 c507 b.1.fraction M508 ∧ ORow 199 3 qg8 m501 c510 b.2 M511) ?_ ?_ N _ a w hL ⟨m60,(Value.slice none 0 0),M93,c65,c67,M68,c70,M71,c74,M75,Mem.le.refl _,ok,E.keep [0,3,4,5,27,28,29],h94,(ir 0),h66,h69,h72,h76⟩
 rotate_left
 ·intro e a w _ hO
  obtain ⟨rfl,m489,c490,c492,M493,c495,M496,c498,M499,hle,ok,E,h491,h494,h497,h500⟩:=hO
  have le_m0:=le_m0.trans hle
  have le_m22:=le_m22.trans hle
  have h2:=(mL qaf).up hle h2
  have h23:=(mL qbr).up hle h23
  have h66:=(mL qaf).up hle h66
  refine qaM<|qaa<|qac<|mv E rfl fun a E=>av E rfl fun a E=>wpList_nil<|qal<|qaa<|qac<|mv E rfl fun a E=>lw E (qbq rfl rfl) fun a E=>av E rfl fun a E=>wpList_nil ?_
  cases hF
  exact qas ⟨m489,c498,M499,c490,c492,M493,c495,M496,le_m22,(ok.pk 5 [0,2,3,4] rfl (by decide)),E.keep [0,2,3],h500,(InR.wrap _ _),h491,h494,h497⟩
 rintro ⟨v112,v113,v114,v115⟩ a w r ⟨m116,c117,M118,c121,c123,M124,c126,M127,c129,M130,hle,ok,E,h119,r120,h122,h125,h128,h131⟩ hF
 replace hF:qeD N v57 v112 v113 v114 v115 = some r:=hF
 unfold qeD at hF
 have le_m60:=Mem.le.refl m60
 have le_m0:=le_m0.trans hle
 have le_m22:=le_m22.trans hle
 have le_m60:=le_m60.trans hle
 have h2:=(mL qaf).up hle h2
 have h23:=(mL qbr).up hle h23
 have h63:=ORow.up qdT hle h63
 have h66:=(mL qaf).up hle h66
 refine sg<|lw E (qav rfl rfl) fun a E=>wn<|wp_seq<|cg E rfl hF (fun c132 hF=>?_) fun c132 hF=>?_
 ·refine wp_exit<|qaA ?_
  cases hF
  exact so (⟨rfl,⟨m116,c121,c123,M124,c126,M127,c117,M118,le_m60,(ok.pk 6 [0,2,3,4,5] rfl (by decide)),E.keep [0,3,4],h122,h125,h128,h119⟩⟩)
 refine wp_skip<|qaa<|wp_seq<|wp_block<|sg ?_
 obtain ⟨x133,e134,hF⟩:=bnd hF
 obtain ⟨b135,o136,hp137,yy138⟩:=qbR qlm h63 e134 (P:=Tryz.prog) (X:=.tmp 27) (I:=.tmp 29) (kd:=.i64) (qaT E rfl) (qaT E rfl)
 refine lv E ok (yy138 _ _) fun a E=>?_
 obtain ⟨es139,hl140,rr141,hh142⟩:=qb9 h63 e134 hp137 (by decide)
 obtain ⟨c144,rfl,l143,h145⟩:=rr141
 refine lv E ok (qag (cs:=[vs x133.s,c144,vb x133.integer]) qow rfl rfl (hh142 _ _ _ 2 rfl)) fun a E=>qax E ok qbH rfl rfl fun b146 a w E ok=>qad E ok 0 rfl rfl rfl qe8 rfl rfl ⟨rfl,(qa5 h145),rfl,trivial⟩ rfl rfl fun w ok=>wn<|sg<|mv E rfl fun a E=>fk E ok qjc qj3 rfl 0 rfl rfl fun a E=>?_
 obtain ⟨r147,e148,hF⟩:=bnd hF
 replace ok:Ok u m116 ([(pb0,oc 175 [c121,c123,c126])] :: M124 :: M127 :: [(b146,oc 199 [vs x133.s,c144,vb x133.integer])] :: M118 :: M130 :: M62 :: S) w:=(ok.pk 7 [4,5,6,0,1,2,3] rfl (by decide))
 refine qan E qpa rfl (qht N true _ x133.trackers h145 v114 h122 h125 h128 e148 hG ok) rfl rfl ?_
 rintro _ w ⟨⟨rfl,ok⟩,r149⟩
 refine ⟨_,rfl,fun a E=>?_⟩
 refine aw E rfl fun a E=>wp_seq<|sg<|fk E ok qks qbx rfl 3 rfl rfl fun a E=>lw E (qbu rfl) fun a E=>wn<|bd hF fun o150 hJ hF=>qaG (Q':=fun e a w=>e = .normal ∧ Ok u m116 ([(pb0,oc 175 [c121,c123,c126])] :: M124 :: M127 :: [(b146,oc 199 [vs x133.s,c144,vb x133.integer])] :: M118 :: M130 :: M62 :: S) w ∧ Env 136 a [(0,vp pb0),(3,vi v58),(4,c117),(5,c129),(7,vp b146),(8,vu o150),(27,c61),(28,(vi (v57.length:Int))),(29,vi v113)] ∧ InR .u64 o150) ?_ ?_
 ·have hF:=hJ
  refine cg E rfl hF (fun c152 hF=>?_) fun c152 hF=>?_
  ·refine wp_skip ?_
   cases hF
   exact ⟨rfl,⟨ok,E.keep [0,3,4,5,7,8,27,28,29],r149⟩⟩
  refine qac<|mv E rfl fun a E=>lw E (qiZ .or (by decide) rfl rfl) fun a E=>av E rfl fun a E=>wpList_nil ?_
  cases hF
  exact ⟨rfl,⟨ok,E.keep [0,3,4,5,7,8,27,28,29],(qng .or .u64 r147 9223372036854775808)⟩⟩
 intro e a w hO
 obtain ⟨rfl,ok,E,r153⟩:=hO
 refine qaa<|wp_seq<|bd hF fun o154 hJ hF=>qaG (Q':=fun e a w=>e = .normal ∧ ∃ m155 c156 c158 M159 c161 M162,m116.le m155 ∧ Ok u m155 ([(pb0,oc 175 [c156,c158,c161])] :: M159 :: M162 :: [(b146,oc 199 [vs x133.s,c144,vb x133.integer])] :: M118 :: M130 :: M62 :: S) w ∧ Env 136 a [(0,vp pb0),(3,vi v58),(4,c117),(5,c129),(7,vp b146),(27,c61),(28,(vi (v57.length:Int))),(29,vi v113)] ∧ (pL 4 qap) m155 [c156] o154.l ∧ ORow 181 2 qb8 m155 c158 o154.wholes M159 ∧ ORow 181 2 qb8 m155 c161 o154.fraction M162) ?_ ?_
 ·have hF:=hJ
  have le_m116:=Mem.le.refl m116
  obtain ⟨r164,e165,hF⟩:=bnd hF
  obtain rfl:=sj hF
  refine qaY [4,7] (Cls u m116 ([(pb0,oc 175 [c121,c123,c126])] :: M124 :: [(b146,oc 199 [vs x133.s,c144,vb x133.integer])] :: M118 :: M130 :: M62 :: [])) (Cls u m116 (M124 :: [(b146,oc 199 [vs x133.s,c144,vb x133.integer])] :: M118 :: M130 :: M62 :: [])) (by kernel_rfl) ?_
  intro w hw
  replace ok:=qbd ok hw
  clear hw
  have h122_o:=h122
  have h145_o:=h145
  refine qai (cl1 (cq le_m116 ok [0,1,3,4,5,6] rfl) (cq le_m116 ok [1,3,4,5,6] rfl)) fun hT=>kt 0 E rfl hT (qah rfl) fun a E=>kt 1 E rfl hT (qah rfl) fun a E=>kt 2 E rfl hT (qa6 rfl) fun a E=>kt 3 E rfl hT (qae ql3 rfl) fun a E=>qaS 4 E rfl (by kernel_rfl) nP hT (qaj qlF rfl (qab.cown 0 rfl rfl)) rfl rfl fun a E=>kt 5 E rfl hT (qah rfl) fun a E=>kt 6 E rfl hT (qae ql7 rfl) fun a E=>qaS 7 E rfl (by kernel_rfl) nP hT (qaj qfs rfl (qab.cown 2 rfl rfl)) rfl rfl fun a E=>kt 8 E rfl hT (qaF (ps:=[(0,.tmp 47),(1,.tmp 49)]) (qs:=[(0,[vu o150]),(1,[vs x133.s])]) (cs:=[vu o150,vs x133.s]) qhm qmw rfl ⟨rfl,rfl,rfl,⟨rfl,rfl,rfl,trivial⟩⟩ rfl) fun a E=>qao [9] (by kernel_rfl) rfl (qar ?_)
  ·refine qbm (o:=_) rfl ?_
   replace ok:Ok u m116 (M127 :: [(pb0,oc 175 [c121,c123,c126])] :: M124 :: [(b146,oc 199 [vs x133.s,c144,vb x133.integer])] :: M118 :: M130 :: M62 :: S) w:=(ok.pk 7 [2,0,1,3,4,5,6] rfl (by decide))
   refine qan E qpf rfl (qkD N _ v114.fraction h128 _ (Part.mk o150 x133.s) ⟨rfl,r153,l143⟩ e165 hG ok) rfl rfl ?_
   rintro _ w ⟨m170,c171,M172,rfl,hle,ok,h173⟩
   have le_m0:=le_m0.trans hle
   have le_m22:=le_m22.trans hle
   have le_m60:=le_m60.trans hle
   have le_m116:=le_m116.trans hle
   have h2:=(mL qaf).up hle h2
   have h23:=(mL qbr).up hle h23
   have h63:=ORow.up qdT hle h63
   have h66:=(mL qaf).up hle h66
   have h119:=ORow.up qdT hle h119
   have h122:=(mL qaf).up hle h122
   have h125:=ORow.up qcu hle h125
   have h131:=OMap.up (qgr mB) hle h131
   have h145:=(mL qbr).up hle h145
   refine ⟨_,rfl,fun a E=>?_⟩
   refine wn<|qai (cl1 (cq le_m116 ok [1,2,3,4,5,6] rfl) (cq le_m116 ok [2,3,4,5,6] rfl)) fun hT=>kt 10 E rfl hT (qa6 rfl) fun a E=>kt 11 E rfl hT (qae ql3 rfl) fun a E=>qao [12] (by kernel_rfl) rfl (qar ?_)
   ·refine wo rfl<|qad E ok 1 rfl rfl rfl qoE (ORow.cells h173) rfl ⟨(ORow.one h173),trivial⟩ rfl rfl fun w ok=>wn<|qai (cl2 (by kernel_rfl) (cq le_m116 ok [2,3,4,5,6] rfl)) fun hT=>qaV (by kernel_rfl) ?_
    exact ⟨rfl,⟨m170,c121,c123,M124,c171,M172,le_m116,(ok.pk 7 [1,2,0,3,4,5,6] rfl (by decide)),E.keep [0,3,4,5,7,27,28,29],h122,h125,h173⟩⟩
 intro e a w hO
 obtain ⟨rfl,m174,c175,c177,M178,c180,M181,hle,ok,E,h176,h179,h182⟩:=hO
 have le_m0:=le_m0.trans hle
 have le_m22:=le_m22.trans hle
 have le_m60:=le_m60.trans hle
 have h2:=(mL qaf).up hle h2
 have h23:=(mL qbr).up hle h23
 have h63:=ORow.up qdT hle h63
 have h66:=(mL qaf).up hle h66
 have h119:=ORow.up qdT hle h119
 have h122:=(mL qaf).up hle h122
 have h131:=OMap.up (qgr mB) hle h131
 have h145:=(mL qbr).up hle h145
 refine qaa<|sg<|mv E rfl fun a E=>wn<|wp_block<|bd hF fun o194 hL hF=>qaE _ (fun (s:(List (State)) × Int × (List (List UInt8 × Bool))) a w=>∃ m195 c196 M197 c200 M201,m174.le m195 ∧ Ok u m195 ([(pb0,oc 175 [c175,c177,c180])] :: M178 :: M181 :: [(b146,oc 199 [vs x133.s,c144,vb x133.integer])] :: M197 :: M201 :: M62 :: S) w ∧ Env 136 a [(0,vp pb0),(3,vi v58),(4,c196),(5,c200),(7,vp b146),(27,c61),(28,(vi (v57.length:Int))),(29,vi v113),(54,vi s.2.1)] ∧ ORow 199 3 qg8 m195 c196 s.1 M197 ∧ InR .i64 s.2.1 ∧ OMap kS (oneV pB) m195 c200 s.2.2 M201) (fun (b:((List (State)) × (List (List UInt8 × Bool)))) e a w=>e = (.exit 4) ∧ ∃ m482 c483 M484 c486 M487,m174.le m482 ∧ Ok u m482 ([(pb0,oc 175 [c175,c177,c180])] :: M178 :: M181 :: [(b146,oc 199 [vs x133.s,c144,vb x133.integer])] :: M484 :: M487 :: M62 :: S) w ∧ Env 136 a [(0,vp pb0),(3,vi v58),(4,c483),(5,c486),(27,c61),(28,(vi (v57.length:Int))),(29,vi v113)] ∧ ORow 199 3 qg8 m482 c483 b.1 M484 ∧ OMap kS (oneV pB) m482 c486 b.2 M487) ?_ ?_ N _ a w hL ⟨m174,c117,M118,c129,M130,Mem.le.refl _,ok,E.keep [0,3,4,5,7,27,28,29,54],h119,(ir 0),h131⟩
 rotate_left
 ·intro e a w _ hO
  obtain ⟨rfl,m475,c476,M477,c479,M480,hle,ok,E,h478,h481⟩:=hO
  have le_m0:=le_m0.trans hle
  have le_m22:=le_m22.trans hle
  have le_m60:=le_m60.trans hle
  have h2:=(mL qaf).up hle h2
  have h23:=(mL qbr).up hle h23
  have h63:=ORow.up qdT hle h63
  have h66:=(mL qaf).up hle h66
  have h122:=(mL qaf).up hle h122
  have h145:=(mL qbr).up hle h145
  have h176:=(mL qaf).up hle h176
  have h179:=ORow.up qcu hle h179
  have h182:=ORow.up qcu hle h182
  refine qaM<|qal<|qaa<|qac<|lw E (qaw rfl rfl (InR.inc r120 (ORow.InR h63) c132)) fun a E=>mv E rfl fun a E=>wpList_nil ?_
  cases hF
  exact qas ⟨m475,c476,M477,c175,c177,M178,c180,M181,c479,M480,le_m60,(ok.pk 7 [4,5,6,0,1,2] rfl (by decide)),E.keep [0,3,4,5,27,28,29],h478,(InR.inc r120 (ORow.InR h63) c132),h176,h179,h182,h481⟩
 rintro ⟨v203,v204,v205⟩ a w r ⟨m206,c207,M208,c211,M212,hle,ok,E,h209,r210,h213⟩ hF
 replace hF:qeM N x133 o154 v203 v204 v205 = some r:=hF
 unfold qeM at hF
 have le_m174:=Mem.le.refl m174
 have le_m0:=le_m0.trans hle
 have le_m22:=le_m22.trans hle
 have le_m60:=le_m60.trans hle
 have le_m174:=le_m174.trans hle
 have h2:=(mL qaf).up hle h2
 have h23:=(mL qbr).up hle h23
 have h63:=ORow.up qdT hle h63
 have h66:=(mL qaf).up hle h66
 have h122:=(mL qaf).up hle h122
 have h145:=(mL qbr).up hle h145
 have h176:=(mL qaf).up hle h176
 have h179:=ORow.up qcu hle h179
 have h182:=ORow.up qcu hle h182
 refine sg<|lw E (qav rfl rfl) fun a E=>wn<|wp_seq<|cg E rfl hF (fun c214 hF=>?_) fun c214 hF=>?_
 ·refine wp_exit<|qaA ?_
  cases hF
  exact so (⟨rfl,⟨m206,c207,M208,c211,M212,le_m174,ok,E.keep [0,3,4,5,27,28,29],h209,h213⟩⟩)
 refine wp_skip<|qaa<|wp_seq<|wp_block<|sg<|mv E rfl fun a E=>av E rfl fun a E=>wn<|wp_seq<|bd hF fun o215 hJ hF=>qaG (Q':=fun e a w=>e = .normal ∧ ∃ b220 c217 M218,Ok u m206 ([(b220,oc 199 [vs o215.s,c217,vb o215.integer])] :: M218 :: [(pb0,oc 175 [c175,c177,c180])] :: M178 :: M181 :: [(b146,oc 199 [vs x133.s,c144,vb x133.integer])] :: M208 :: M212 :: M62 :: S) w ∧ Env 136 a [(0,vp pb0),(3,vi v58),(4,c207),(5,c211),(7,vp b146),(9,vi v204),(10,vp b220),(27,c61),(28,(vi (v57.length:Int))),(29,vi v113),(54,vi v204)] ∧ o215.s.length ≤ LIMS ∧ ORow 86 2 qbD m206 c217 o215.trackers M218) ?_ ?_
 rotate_left
 ·as_aux_lemma =>
   intro e a w hO
   obtain ⟨rfl,b288,c285,M286,ok,E,l284,h287⟩:=hO
   refine qaa<|sg<|fk E ok qks qbx rfl 0 rfl rfl fun a E=>bd hF fun r289 e290 hF=>qan E qr1 rfl (qkd N o215.integer e290 hG ok) rfl rfl ?_
   rintro _ w ⟨⟨rfl,ok⟩,l291⟩
   refine ⟨_,rfl,fun a E=>?_⟩
   refine aw E rfl fun a E=>wp_seq<|sg<|mv E rfl fun a E=>lw E (qa6 rfl) fun a E=>fk E ok qh4 qci rfl 2 rfl rfl fun a E=>lv E ok (qaD qa4 h176 rfl) fun a E=>mv E rfl fun a E=>wn<|wp_block<|bd hF fun o300 hL hF=>qaE _ (fun (s:(List UInt8) × Int × State) a w=>∃ m301 c305 M306,m206.le m301 ∧ Ok u m301 ([(b288,oc 199 [vs s.2.2.s,c305,vb s.2.2.integer])] :: M306 :: [(pb0,oc 175 [c175,c177,c180])] :: M178 :: M181 :: [(b146,oc 199 [vs x133.s,c144,vb x133.integer])] :: M208 :: M212 :: M62 :: S) w ∧ Env 136 a [(0,vp pb0),(3,vi v58),(4,c207),(5,c211),(7,vp b146),(9,vi v204),(10,vp b288),(11,vs s.1),(27,c61),(28,(vi (v57.length:Int))),(29,vi v113),(54,vi v204),(81,c175),(82,(vi (o154.l.length:Int))),(83,vi s.2.1)] ∧ s.1.length ≤ LIMS ∧ InR .i64 s.2.1 ∧ s.2.2.s.length ≤ LIMS ∧ ORow 86 2 qbD m301 c305 s.2.2.trackers M306) (fun (b:(State × (List UInt8))) e a w=>e = (.exit 6) ∧ ∃ m469 c471 M472,m206.le m469 ∧ Ok u m469 ([(b288,oc 199 [vs b.1.s,c471,vb b.1.integer])] :: M472 :: [(pb0,oc 175 [c175,c177,c180])] :: M178 :: M181 :: [(b146,oc 199 [vs x133.s,c144,vb x133.integer])] :: M208 :: M212 :: M62 :: S) w ∧ Env 136 a [(0,vp pb0),(3,vi v58),(4,c207),(5,c211),(7,vp b146),(10,vp b288),(11,vs b.2),(27,c61),(28,(vi (v57.length:Int))),(29,vi v113),(54,vi v204)] ∧ b.1.s.length ≤ LIMS ∧ ORow 86 2 qbD m469 c471 b.1.trackers M472 ∧ b.2.length ≤ LIMS) ?_ ?_ N _ a w hL ⟨m206,c285,M286,Mem.le.refl _,ok,E.keep [0,3,4,5,7,9,10,11,27,28,29,54,81,82,83],l291,(ir 0),l284,h287⟩
   rotate_left
   ·as_aux_lemma =>
     intro e a w _ hO
     obtain ⟨rfl,m444,c446,M447,hle,ok,E,l445,h448,l449⟩:=hO
     have le_m0:=le_m0.trans hle
     have le_m22:=le_m22.trans hle
     have le_m60:=le_m60.trans hle
     have le_m174:=le_m174.trans hle
     have h2:=(mL qaf).up hle h2
     have h23:=(mL qbr).up hle h23
     have h63:=ORow.up qdT hle h63
     have h66:=(mL qaf).up hle h66
     have h122:=(mL qaf).up hle h122
     have h145:=(mL qbr).up hle h145
     have h176:=(mL qaf).up hle h176
     have h179:=ORow.up qcu hle h179
     have h182:=ORow.up qcu hle h182
     have h209:=ORow.up qdT hle h209
     have h213:=OMap.up (qgr mB) hle h213
     refine qaM<|qaa<|sg<|mz E rfl rfl fun a E=>?_
     obtain ⟨xv450,h451,yy452,yy453⟩:=qmI (P:=Tryz.prog) (mo:=.tmp 123) (ko:=.tmp 124) (zx:=(false:Bool)) ok 7 (qnK Tryz.underlying9) Tryz.underlying201 h213 rfl (qaT E rfl) (qaT E rfl) ⟨rfl,l449⟩ qre qgB
     obtain rfl:=qpy h451
     refine lv E ok (yy452 _) fun a E=>lw E (qbu rfl) fun a E=>wn<|cg E rfl hF (fun c454 hF=>?_) fun c454 hF=>?_
     ·refine wp_skip<|qal<|qaa<|qac<|lw E (qaw rfl rfl (InR.inc r210 (ir 10) c214)) fun a E=>mv E rfl fun a E=>wpList_nil ?_
      cases hF
      exact qas ⟨m444,c207,M208,c211,M212,le_m174,(ok.pk 9 [2,3,4,5,6,7,8] rfl (by decide)),E.keep [0,3,4,5,7,27,28,29,54],h209,(InR.inc r210 (ir 10) c214),h213⟩
     refine sg<|mz E rfl rfl fun a E=>bd hF fun l455 e456 hF=>qim (.inl rfl) E ok 7 (qnK Tryz.underlying9) Tryz.underlying201 h213 rfl rfl rfl rfl ⟨rfl,l449⟩ qgB e456 rfl fun M457 w ok h458=>wn<|qac<|mv E rfl fun a E=>lv E ok (qag (cs:=[vs o300.1.s,c446,vb o300.1.integer]) qow rfl rfl (qab.own 0 rfl rfl)) fun a E=>?_
     obtain ⟨m459,hle,ok,hfz⟩:=(ok.frs 1 rfl).freeze
     have h460:=ORow.froz qbr h448 hle hfz (by decide)
     have le_m0:=le_m0.trans hle
     have le_m22:=le_m22.trans hle
     have le_m60:=le_m60.trans hle
     have le_m174:=le_m174.trans hle
     have h2:=(mL qaf).up hle h2
     have h23:=(mL qbr).up hle h23
     have h63:=ORow.up qdT hle h63
     have h66:=(mL qaf).up hle h66
     have h122:=(mL qaf).up hle h122
     have h145:=(mL qbr).up hle h145
     have h176:=(mL qaf).up hle h176
     have h179:=ORow.up qcu hle h179
     have h182:=ORow.up qcu hle h182
     have h209:=ORow.up qdT hle h209
     have h458:=OMap.up (qgr mB) hle h458
     refine qaW (R:=qg8) (xo:=[.tmp 130]) (xs:=([o300.1]:List (State))) E ok qlm qbH rfl ⟨⟨_,rfl,rfl,⟨_,rfl,l445,h460⟩⟩,trivial⟩ rfl rfl rfl rfl fun c461 M462 a w E ok h463=>bd hF fun l464 e465 hF=>qbo (R:=qg8) E ok 6 qdT qlm Tryz.underlying200 rfl h209 (qa0.ofRow h463 0 rfl ok) e465 ⟨_,qbH,rfl⟩ rfl rfl rfl rfl fun c466 M467 a w E ok h468=>av E rfl fun a E=>wpList_nil<|qal<|qaa<|qac<|lw E (qaw rfl rfl (InR.inc r210 (ir 10) c214)) fun a E=>mv E rfl fun a E=>wpList_nil ?_
     cases hF
     exact qas ⟨m459,c466,M467,c211,M457,le_m174,(ok.pk 9 [2,3,4,5,6,7,8] rfl (by decide)),E.keep [0,3,4,5,7,27,28,29,54],h468,(InR.inc r210 (ir 10) c214),h458⟩
   rintro ⟨v308,v309,v310⟩ a w r ⟨m311,c315,M316,hle,ok,E,l312,r313,l314,h317⟩ hF
   replace hF:qeL N x133 o154 v204 v308 v309 v310 = some r:=hF
   unfold qeL at hF
   have le_m206:=Mem.le.refl m206
   have le_m0:=le_m0.trans hle
   have le_m22:=le_m22.trans hle
   have le_m60:=le_m60.trans hle
   have le_m174:=le_m174.trans hle
   have le_m206:=le_m206.trans hle
   have h2:=(mL qaf).up hle h2
   have h23:=(mL qbr).up hle h23
   have h63:=ORow.up qdT hle h63
   have h66:=(mL qaf).up hle h66
   have h122:=(mL qaf).up hle h122
   have h145:=(mL qbr).up hle h145
   have h176:=(mL qaf).up hle h176
   have h179:=ORow.up qcu hle h179
   have h182:=ORow.up qcu hle h182
   have h209:=ORow.up qdT hle h209
   have h213:=OMap.up (qgr mB) hle h213
   refine sg<|lw E (qav rfl rfl) fun a E=>wn<|wp_seq<|cg E rfl hF (fun c318 hF=>?_) fun c318 hF=>?_
   ·refine wp_exit<|qaA ?_
    cases hF
    exact so (⟨rfl,⟨m311,c315,M316,le_m206,ok,E.keep [0,3,4,5,7,10,11,27,28,29,54],l314,h317,l312⟩⟩)
   refine wp_skip<|qaa<|wp_seq<|wp_block<|sg<|mv E rfl fun a E=>?_
   obtain ⟨x319,e320,hF⟩:=bnd hF
   obtain ⟨b321,o322,es323,hl324,rr325,at326,yy327⟩:=ia E 81 83 qa4 h176 e320
   obtain ⟨c330,rfl,r328,r329,h331⟩:=rr325
   refine lv E ok (yy327 _ _) fun a E=>lv E ok (qag (cs:=[vi x319.Operand,vi x319.Mod,vb x319.Not,c330]) qbc rfl rfl (qab.ro at326)) fun a E=>qax E ok qcU rfl rfl fun b332 a w E ok=>av E rfl fun a E=>qad E ok 0 rfl rfl rfl qfF rfl rfl ⟨rfl,rfl,rfl,(qa5 h331),trivial⟩ rfl rfl fun w ok=>wn<|wp_seq<|sg<|lv E ok (qag (cs:=[vi x319.Operand,vi x319.Mod,vb x319.Not,c330]) qbc rfl rfl (qab.own 0 rfl rfl)) fun a E=>bd hF fun r333 e334 hF=>lc E qlo rfl (qfd N _ x319 ⟨_,rfl,r328,r329,h331⟩ e334 hG ok) fun w ok a E=>lw E (qbu rfl) fun a E=>wn<|bd hF fun o335 hJ hF=>qaG (Q':=fun e a w=>e = .normal ∧ ∃ m336 c338 M339,m311.le m336 ∧ Ok u m336 ([(b332,oc 69 [vi x319.Operand,vi x319.Mod,vb x319.Not,c330])] :: [(b288,oc 199 [vs o335.s,c338,vb o335.integer])] :: M339 :: [(pb0,oc 175 [c175,c177,c180])] :: M178 :: M181 :: [(b146,oc 199 [vs x133.s,c144,vb x133.integer])] :: M208 :: M212 :: M62 :: S) w ∧ Env 136 a [(0,vp pb0),(3,vi v58),(4,c207),(5,c211),(7,vp b146),(9,vi v204),(10,vp b288),(11,vs v308),(12,vi v309),(27,c61),(28,(vi (v57.length:Int))),(29,vi v113),(54,vi v204),(81,c175),(82,(vi (o154.l.length:Int))),(83,vi v309)] ∧ o335.s.length ≤ LIMS ∧ ORow 86 2 qbD m336 c338 o335.trackers M339) ?_ ?_
   rotate_left
   ·intro e a w hO
    obtain ⟨rfl,m401,c403,M404,hle,ok,E,l402,h405⟩:=hO
    have le_m0:=le_m0.trans hle
    have le_m22:=le_m22.trans hle
    have le_m60:=le_m60.trans hle
    have le_m174:=le_m174.trans hle
    have le_m206:=le_m206.trans hle
    have h2:=(mL qaf).up hle h2
    have h23:=(mL qbr).up hle h23
    have h63:=ORow.up qdT hle h63
    have h66:=(mL qaf).up hle h66
    have h122:=(mL qaf).up hle h122
    have h145:=(mL qbr).up hle h145
    have h176:=(mL qaf).up hle h176
    have h179:=ORow.up qcu hle h179
    have h182:=ORow.up qcu hle h182
    have h209:=ORow.up qdT hle h209
    have h213:=OMap.up (qgr mB) hle h213
    have h331:=(mL qdF).up hle h331
    have at326:=At.up hle at326
    refine qaa<|qdc (by kernel_rfl) (by kernel_rfl) ok<|qv E (qah rfl) fun a E=>qv E (qae qjc rfl) fun a E=>qv E (qaj qj3 rfl (qab.own 1 rfl rfl)) fun a E=>qv E (qah rfl) fun a E=>?_
    obtain ⟨x406,e407,hF⟩:=bnd hF
    obtain ⟨b408,o409,hp410,yy411⟩:=qbR qeh h405 e407 (P:=Tryz.prog) (X:=.tmp 105) (I:=.tmp 106) (kd:=.i64) (qaT E rfl) (qaT E rfl)
    refine qv E (yy411 _ _) fun a E=>qv E (qae qfy rfl) fun a E=>?_
    obtain ⟨es412,hl413,rr414,hh415⟩:=qb9 h405 e407 hp410 (by decide)
    obtain ⟨rfl,r416,r417⟩:=rr414
    refine qv E (qaj qak rfl (qab.sub 0 1 (hh415 _ _ _ 2 rfl))) fun a E=>?_
    obtain ⟨r418,e419,hF⟩:=bnd hF
    obtain ⟨_,_,⟨_,_⟩,l420⟩:=Go.X.Calls.get (qbv N x406.a r416 e419 hG hTb ok)
    refine qgn E qf3 rfl (fun w ok=>(qbv N x406.a r416 e419 hG hTb ok).mono (fun _ _ h=>h.1)) rfl rfl fun a E=>bd hF fun s421 e422 hF=>qv E (qe1 rfl rfl e422) fun a E=>bd hF fun s423 e424 hF=>qv E (qe1 rfl rfl e424) fun a E=>qv E (qae qjc rfl) fun a E=>qv E (qaj qj3 rfl (qab.own 1 rfl rfl)) fun a E=>qv E (qah rfl) fun a E=>?_
    obtain ⟨x425,e426,hF⟩:=bnd hF
    obtain ⟨b427,o428,hp429,yy430⟩:=qbR qeh h405 e426 (P:=Tryz.prog) (X:=.tmp 114) (I:=.tmp 115) (kd:=.i64) (qaT E rfl) (qaT E rfl)
    refine qv E (yy430 _ _) fun a E=>qv E (qae qfZ rfl) fun a E=>?_
    obtain ⟨es431,hl432,rr433,hh434⟩:=qb9 h405 e426 hp429 (by decide)
    obtain ⟨rfl,r435,r436⟩:=rr433
    refine qv E (qaj qak rfl (qab.sub 1 1 (hh434 _ _ _ 2 rfl))) fun a E=>?_
    obtain ⟨r437,e438,hF⟩:=bnd hF
    obtain ⟨_,_,⟨_,_⟩,l439⟩:=Go.X.Calls.get (qbv N x425.b r436 e438 hG hTb ok)
    refine qgn E qf3 rfl (fun w ok=>(qbv N x425.b r436 e438 hG hTb ok).mono (fun _ _ h=>h.1)) rfl rfl fun a E=>bd hF fun s440 e441 hF=>qv E (qe1 rfl rfl e441) fun a E=>bd hF fun s442 e443 hF=>qv E (qe1 rfl rfl e443) fun a E=>qv E (qcZ rfl) fun a E=>wpQuiet_nil ?_
    intro w ok
    refine qal<|qaa<|qac<|lw E (qaw rfl rfl (InR.inc r313 (qam h176) c318)) fun a E=>mv E rfl fun a E=>wpList_nil ?_
    cases hF
    exact qas ⟨m401,c403,M404,le_m206,(ok.pk 10 [1,2,3,4,5,6,7,8,9] rfl (by decide)),E.keep [0,3,4,5,7,9,10,11,27,28,29,54,81,82,83],(qdX e443),(InR.inc r313 (qam h176) c318),l402,h405⟩
   have hF:=hJ
   have le_m311:=Mem.le.refl m311
   refine cg E rfl hF (fun c341 hF=>?_) fun c341 hF=>?_
   ·refine wp_skip ?_
    cases hF
    exact ⟨rfl,⟨m311,c315,M316,le_m311,ok,E.keep [0,3,4,5,7,9,10,11,12,27,28,29,54,81,82,83],l314,h317⟩⟩
   refine bd hF fun o342 hJ hF=>qaG (Q':=fun e a w=>e = .normal ∧ ∃ m343 c345 M346,m311.le m343 ∧ Ok u m343 ([(b332,oc 69 [vi x319.Operand,vi x319.Mod,vb x319.Not,c330])] :: [(b288,oc 199 [vs o342.s,c345,vb o342.integer])] :: M346 :: [(pb0,oc 175 [c175,c177,c180])] :: M178 :: M181 :: [(b146,oc 199 [vs x133.s,c144,vb x133.integer])] :: M208 :: M212 :: M62 :: S) w ∧ Env 136 a [(0,vp pb0),(3,vi v58),(4,c207),(5,c211),(7,vp b146),(9,vi v204),(10,vp b288),(11,vs v308),(12,vi v309),(27,c61),(28,(vi (v57.length:Int))),(29,vi v113),(54,vi v204),(81,c175),(82,(vi (o154.l.length:Int))),(83,vi v309)] ∧ o342.s.length ≤ LIMS ∧ ORow 86 2 qbD m343 c345 o342.trackers M346) ?_ ?_
   rotate_left
   ·intro e a w hO
    obtain ⟨rfl,m396,c398,M399,hle,ok,E,l397,h400⟩:=hO
    have le_m0:=le_m0.trans hle
    have le_m22:=le_m22.trans hle
    have le_m60:=le_m60.trans hle
    have le_m174:=le_m174.trans hle
    have le_m206:=le_m206.trans hle
    have le_m311:=le_m311.trans hle
    have h2:=(mL qaf).up hle h2
    have h23:=(mL qbr).up hle h23
    have h63:=ORow.up qdT hle h63
    have h66:=(mL qaf).up hle h66
    have h122:=(mL qaf).up hle h122
    have h145:=(mL qbr).up hle h145
    have h176:=(mL qaf).up hle h176
    have h179:=ORow.up qcu hle h179
    have h182:=ORow.up qcu hle h182
    have h209:=ORow.up qdT hle h209
    have h213:=OMap.up (qgr mB) hle h213
    have h331:=(mL qdF).up hle h331
    have at326:=At.up hle at326
    cases hF
    exact ⟨rfl,⟨m396,c398,M399,le_m311,ok,E.keep [0,3,4,5,7,9,10,11,12,27,28,29,54,81,82,83],l397,h400⟩⟩
   have hF:=hJ
   obtain ⟨x348,e349,hF⟩:=bnd hF
   obtain ⟨r359,e360,hF⟩:=bnd hF
   obtain ⟨x366,e367,hF⟩:=bnd hF
   obtain ⟨l372,e373,hF⟩:=bnd hF
   obtain rfl:=sj hF
   refine qaY [1,4,7,8] (Cls u m311 ([(b332,oc 69 [vi x319.Operand,vi x319.Mod,vb x319.Not,c330])] :: [(b288,oc 199 [vs v310.s,c315,vb v310.integer])] :: [(pb0,oc 175 [c175,c177,c180])] :: M178 :: M181 :: [(b146,oc 199 [vs x133.s,c144,vb x133.integer])] :: M208 :: M212 :: M62 :: [])) (Cls u m311 ([(b332,oc 69 [vi x319.Operand,vi x319.Mod,vb x319.Not,c330])] :: [(pb0,oc 175 [c175,c177,c180])] :: M178 :: M181 :: [(b146,oc 199 [vs x133.s,c144,vb x133.integer])] :: M208 :: M212 :: M62 :: [])) (by kernel_rfl) ?_
   intro w hw
   replace ok:=qbd ok hw
   clear hw
   have h145_o:=h145
   have h331_o:=h331
   refine qai (cl1 (cq le_m311 ok [0,1,3,4,5,6,7,8,9] rfl) (cq le_m311 ok [0,3,4,5,6,7,8,9] rfl)) fun hT=>kt 0 E rfl hT (qae qjc rfl) fun a E=>qaS 1 E rfl (by kernel_rfl) nP hT (qaj qj3 rfl (qab.cown 1 rfl rfl)) rfl rfl fun a E=>kt 2 E rfl hT (qah rfl) fun a E=>kt 3 E rfl hT (qae qjc rfl) fun a E=>qaS 4 E rfl (by kernel_rfl) nP hT (qaj qj3 rfl (qab.cown 5 rfl rfl)) rfl rfl fun a E=>kt 5 E rfl hT (qah rfl) fun a E=>?_
   obtain ⟨b376,o377,es378,hl379,rr380,at381,yy382⟩:=ia E 95 96 qeh h145 e349
   obtain ⟨rfl,r383,r384⟩:=rr380
   refine kt 6 E rfl hT (yy382 _ _) fun a E=>qaS 7 E rfl (by kernel_rfl) nP hT (qag (cs:=[vi x348.a,vi x348.b]) qbT rfl rfl (qab.cro at381)) rfl rfl fun a E=>qaS 8 E rfl (by kernel_rfl) nP hT (qag (cs:=[vi x319.Operand,vi x319.Mod,vb x319.Not,c330]) qbc rfl rfl (qab.cown 0 rfl rfl)) rfl rfl fun a E=>kt 9 E rfl hT (qah rfl) fun a E=>qao [10] (by kernel_rfl) rfl (qar ?_)
   ·refine wo rfl<|qan E qml rfl (qdV N _ x348 ⟨rfl,r383,r384⟩ _ x319 ⟨_,rfl,r328,r329,h331⟩ true v204 r210 e360 hG ok) rfl rfl ?_
    rintro _ w ⟨m385,vs386,rfl,hle,ok,h387⟩
    have le_m0:=le_m0.trans hle
    have le_m22:=le_m22.trans hle
    have le_m60:=le_m60.trans hle
    have le_m174:=le_m174.trans hle
    have le_m206:=le_m206.trans hle
    have le_m311:=le_m311.trans hle
    have h2:=(mL qaf).up hle h2
    have h23:=(mL qbr).up hle h23
    have h63:=ORow.up qdT hle h63
    have h66:=(mL qaf).up hle h66
    have h122:=(mL qaf).up hle h122
    have h145:=(mL qbr).up hle h145
    have h176:=(mL qaf).up hle h176
    have h179:=ORow.up qcu hle h179
    have h182:=ORow.up qcu hle h182
    have h209:=ORow.up qdT hle h209
    have h213:=OMap.up (qgr mB) hle h213
    have h317:=ORow.up qbr hle h317
    have h331:=(mL qdF).up hle h331
    have at326:=At.up hle at326
    have at381:=At.up hle at381
    obtain ⟨rfl,r388,r389⟩:=h387
    refine ⟨_,rfl,fun a E=>?_⟩
    refine wn<|qai (cl1 (cq le_m311 ok [0,1,3,4,5,6,7,8,9] rfl) (cq le_m311 ok [0,3,4,5,6,7,8,9] rfl)) fun hT=>?_
    obtain ⟨b390,o391,hp392,yy393⟩:=qbR qeh h317 e367 (P:=Tryz.prog) (X:=.tmp 92) (I:=.tmp 93) (kd:=.i64) (qaT E rfl) (qaT E rfl)
    refine kt 11 E rfl hT (yy393 _ _) fun a E=>qao [12] (by kernel_rfl) rfl (qar ?_)
    ·refine wo rfl<|qgV (R:=qbD) E ok 2 rfl h317 e367 hp392 rfl rfl qef rfl rfl rfl ⟨rfl,rfl,trivial⟩ ⟨rfl,r388,r389⟩ e373 rfl fun M394 w ok h395=>wn<|qai (cl2 (by kernel_rfl) (cq le_m311 ok [0,3,4,5,6,7,8,9] rfl)) fun hT=>qaV (by kernel_rfl) ?_
     exact ⟨rfl,⟨m385,c315,M394,le_m311,ok,E.keep [0,3,4,5,7,9,10,11,12,27,28,29,54,81,82,83],l314,h395⟩⟩
 have hF:=hJ
 obtain ⟨r221,e222,hF⟩:=bnd hF
 obtain ⟨s224,e225,hF⟩:=bnd hF
 refine bd hF fun l226 e227 hF=>qcp x133.integer (fun c231=>?_) (fun c231=>?_)
 ·as_aux_lemma =>
   have hF:=qcg c231 hF
   cases hF
   refine qaY [] (Cls u m206 ([(pb0,oc 175 [c175,c177,c180])] :: M178 :: M181 :: [(b146,oc 199 [vs x133.s,c144,vb x133.integer])] :: M208 :: M212 :: M62 :: [])) (Cls u m206 ([(pb0,oc 175 [c175,c177,c180])] :: M178 :: M181 :: [(b146,oc 199 [vs x133.s,c144,vb x133.integer])] :: M208 :: M212 :: M62 :: [])) (by kernel_rfl) ?_
   intro w hw
   replace ok:=qbd ok hw
   clear hw
   have le_m206:=Mem.le.refl m206
   refine qai (cl1 (cq le_m206 ok [0,1,2,3,4,5,6] rfl) (cq le_m206 ok [0,1,2,3,4,5,6] rfl)) fun hT=>kt 0 E rfl hT (qae ql7 rfl) fun a E=>kt 1 E rfl hT (qaj qfs rfl (qab.cown 3 rfl rfl)) fun a E=>kt 2 E rfl hT (qah rfl) fun a E=>kt 5 E rfl hT (qah rfl) fun a E=>kt 6 E rfl hT (qa6 rfl) fun a E=>kt 7 E rfl hT (qae qh4 rfl) fun a E=>kt 8 E rfl hT (qaj qci rfl (qab.cown 0 rfl rfl)) fun a E=>kt 9 E rfl hT (qaD qa4 h176 rfl) fun a E=>kt 11 E rfl hT (qae qks rfl) fun a E=>kt 12 E rfl hT (qaj qbx rfl (qab.cown 3 rfl rfl)) fun a E=>qao [3,10,18] (by kernel_rfl) rfl (qdm ?_ (qdm ?_ (qdm ?_ (qgR))))
   ·refine wo rfl<|qan E qf3 rfl (qbv N v204 r210 e222 hG hTb ok) rfl rfl ?_
    rintro _ w ⟨⟨rfl,ok⟩,l233⟩
    refine ⟨_,rfl,fun a E=>?_⟩
    refine wn<|qai (cl1 (cq le_m206 ok [0,1,2,3,4,5,6] rfl) (cq le_m206 ok [0,1,2,3,4,5,6] rfl)) fun hT=>kt 4 E rfl hT (qe1 rfl rfl e225) fun a E=>kt 13 E rfl hT (qah rfl) fun a E=>?_
    have E:=E.upd 70 c231 rfl
    refine kt 14 E rfl hT (qah rfl) fun a E=>kt 15 E rfl hT (qau rfl rfl) fun a E=>kt 16 E rfl hT (qa8 rfl rfl) fun a E=>qao [10,18] (by kernel_rfl) rfl (qdm ?_ (qdm ?_ (qgR)))
    ·refine wo rfl<|qeJ (R:=qbD) E ok qeh qe7 rfl ⟨rfl,(ir 0),(ir 0)⟩ rfl e227 rfl rfl fun c234 M235 a w E ok h236=>wn<|qai (cl1 (cq le_m206 ok [1,2,3,4,5,6,7] rfl) (cq le_m206 ok [1,2,3,4,5,6,7] rfl)) fun hT=>kt 17 E rfl hT (qaF (ps:=[(0,.tmp 61),(1,.tmp 67),(2,.tmp 73)]) (qs:=[(0,[vs s224]),(1,[c234]),(2,[(vb (v204 == 0))])]) (cs:=[vs s224,c234,(vb (v204 == 0))]) qbH qdn rfl ⟨rfl,rfl,rfl,⟨rfl,(ORow.cells h236),rfl,⟨rfl,rfl,rfl,trivial⟩⟩⟩ rfl) fun a E=>qao [18] (by kernel_rfl) rfl (qar ?_)
     ·refine wo rfl<|qax E ok qbH rfl rfl fun b237 a w E ok=>wn<|qai (cl1 (cq le_m206 ok [2,3,4,5,6,7,8] rfl) (cq le_m206 ok [2,3,4,5,6,7,8] rfl)) fun hT=>qao [19] (by kernel_rfl) rfl (qar ?_)
      ·refine wo rfl<|qad E ok 0 rfl rfl rfl qe8 rfl rfl ⟨rfl,(ORow.one h236),rfl,trivial⟩ rfl rfl fun w ok=>wn<|qai (cl1 (cq le_m206 ok [2,3,4,5,6,7,8] rfl) (cq le_m206 ok [2,3,4,5,6,7,8] rfl)) fun hT=>qaV (by kernel_rfl) ?_
       exact ⟨rfl,⟨b237,c234,M235,ok,E.keep [0,3,4,5,7,9,10,27,28,29,54],(qdX e225),h236⟩⟩
    refine wo rfl<|qax E ok qbH rfl rfl fun b238 a w E ok=>wn<|qai (cl1 (cq le_m206 ok [1,2,3,4,5,6,7] rfl) (cq le_m206 ok [1,2,3,4,5,6,7] rfl)) fun hT=>qao [10] (by kernel_rfl) rfl (qar ?_)
    ·refine wo rfl<|qeJ (R:=qbD) E ok qeh qe7 rfl ⟨rfl,(ir 0),(ir 0)⟩ rfl e227 rfl rfl fun c239 M240 a w E ok h241=>wn<|qai (cl1 (cq le_m206 ok [2,3,4,5,6,7,8] rfl) (cq le_m206 ok [2,3,4,5,6,7,8] rfl)) fun hT=>kt 17 E rfl hT (qaF (ps:=[(0,.tmp 61),(1,.tmp 67),(2,.tmp 73)]) (qs:=[(0,[vs s224]),(1,[c239]),(2,[(vb (v204 == 0))])]) (cs:=[vs s224,c239,(vb (v204 == 0))]) qbH qdn rfl ⟨rfl,rfl,rfl,⟨rfl,(ORow.cells h241),rfl,⟨rfl,rfl,rfl,trivial⟩⟩⟩ rfl) fun a E=>qao [19] (by kernel_rfl) rfl (qar ?_)
     ·refine wo rfl<|qad E ok 1 rfl rfl rfl qe8 rfl rfl ⟨rfl,(ORow.one h241),rfl,trivial⟩ rfl rfl fun w ok=>wn<|qai (cl1 (cq le_m206 ok [2,3,4,5,6,7,8] rfl) (cq le_m206 ok [2,3,4,5,6,7,8] rfl)) fun hT=>qaV (by kernel_rfl) ?_
      exact ⟨rfl,⟨b238,c239,M240,(ok.pk 9 [1,0,2,3,4,5,6,7,8] rfl (by decide)),E.keep [0,3,4,5,7,9,10,27,28,29,54],(qdX e225),h241⟩⟩
   ·refine wo rfl<|qeJ (R:=qbD) E ok qeh qe7 rfl ⟨rfl,(ir 0),(ir 0)⟩ rfl e227 rfl rfl fun c242 M243 a w E ok h244=>wn<|qai (cl1 (cq le_m206 ok [1,2,3,4,5,6,7] rfl) (cq le_m206 ok [1,2,3,4,5,6,7] rfl)) fun hT=>qao [3,18] (by kernel_rfl) rfl (qdm ?_ (qdm ?_ (qgR)))
    ·refine wo rfl<|qan E qf3 rfl (qbv N v204 r210 e222 hG hTb ok) rfl rfl ?_
     rintro _ w ⟨⟨rfl,ok⟩,l245⟩
     refine ⟨_,rfl,fun a E=>?_⟩
     refine wn<|qai (cl1 (cq le_m206 ok [1,2,3,4,5,6,7] rfl) (cq le_m206 ok [1,2,3,4,5,6,7] rfl)) fun hT=>kt 4 E rfl hT (qe1 rfl rfl e225) fun a E=>kt 13 E rfl hT (qah rfl) fun a E=>?_
     have E:=E.upd 70 c231 rfl
     refine kt 14 E rfl hT (qah rfl) fun a E=>kt 15 E rfl hT (qau rfl rfl) fun a E=>kt 16 E rfl hT (qa8 rfl rfl) fun a E=>kt 17 E rfl hT (qaF (ps:=[(0,.tmp 61),(1,.tmp 67),(2,.tmp 73)]) (qs:=[(0,[vs s224]),(1,[c242]),(2,[(vb (v204 == 0))])]) (cs:=[vs s224,c242,(vb (v204 == 0))]) qbH qdn rfl ⟨rfl,rfl,rfl,⟨rfl,(ORow.cells h244),rfl,⟨rfl,rfl,rfl,trivial⟩⟩⟩ rfl) fun a E=>qao [18] (by kernel_rfl) rfl (qar ?_)
     ·refine wo rfl<|qax E ok qbH rfl rfl fun b246 a w E ok=>wn<|qai (cl1 (cq le_m206 ok [2,3,4,5,6,7,8] rfl) (cq le_m206 ok [2,3,4,5,6,7,8] rfl)) fun hT=>qao [19] (by kernel_rfl) rfl (qar ?_)
      ·refine wo rfl<|qad E ok 0 rfl rfl rfl qe8 rfl rfl ⟨rfl,(ORow.one h244),rfl,trivial⟩ rfl rfl fun w ok=>wn<|qai (cl1 (cq le_m206 ok [2,3,4,5,6,7,8] rfl) (cq le_m206 ok [2,3,4,5,6,7,8] rfl)) fun hT=>qaV (by kernel_rfl) ?_
       exact ⟨rfl,⟨b246,c242,M243,ok,E.keep [0,3,4,5,7,9,10,27,28,29,54],(qdX e225),h244⟩⟩
    refine wo rfl<|qax E ok qbH rfl rfl fun b247 a w E ok=>wn<|qai (cl1 (cq le_m206 ok [2,3,4,5,6,7,8] rfl) (cq le_m206 ok [2,3,4,5,6,7,8] rfl)) fun hT=>qao [3] (by kernel_rfl) rfl (qar ?_)
    ·refine wo rfl<|qan E qf3 rfl (qbv N v204 r210 e222 hG hTb ok) rfl rfl ?_
     rintro _ w ⟨⟨rfl,ok⟩,l248⟩
     refine ⟨_,rfl,fun a E=>?_⟩
     refine wn<|qai (cl1 (cq le_m206 ok [2,3,4,5,6,7,8] rfl) (cq le_m206 ok [2,3,4,5,6,7,8] rfl)) fun hT=>kt 4 E rfl hT (qe1 rfl rfl e225) fun a E=>kt 13 E rfl hT (qah rfl) fun a E=>?_
     have E:=E.upd 70 c231 rfl
     refine kt 14 E rfl hT (qah rfl) fun a E=>kt 15 E rfl hT (qau rfl rfl) fun a E=>kt 16 E rfl hT (qa8 rfl rfl) fun a E=>kt 17 E rfl hT (qaF (ps:=[(0,.tmp 61),(1,.tmp 67),(2,.tmp 73)]) (qs:=[(0,[vs s224]),(1,[c242]),(2,[(vb (v204 == 0))])]) (cs:=[vs s224,c242,(vb (v204 == 0))]) qbH qdn rfl ⟨rfl,rfl,rfl,⟨rfl,(ORow.cells h244),rfl,⟨rfl,rfl,rfl,trivial⟩⟩⟩ rfl) fun a E=>qao [19] (by kernel_rfl) rfl (qar ?_)
     ·refine wo rfl<|qad E ok 0 rfl rfl rfl qe8 rfl rfl ⟨rfl,(ORow.one h244),rfl,trivial⟩ rfl rfl fun w ok=>wn<|qai (cl1 (cq le_m206 ok [2,3,4,5,6,7,8] rfl) (cq le_m206 ok [2,3,4,5,6,7,8] rfl)) fun hT=>qaV (by kernel_rfl) ?_
      exact ⟨rfl,⟨b247,c242,M243,ok,E.keep [0,3,4,5,7,9,10,27,28,29,54],(qdX e225),h244⟩⟩
   refine wo rfl<|qax E ok qbH rfl rfl fun b249 a w E ok=>wn<|qai (cl1 (cq le_m206 ok [1,2,3,4,5,6,7] rfl) (cq le_m206 ok [1,2,3,4,5,6,7] rfl)) fun hT=>qao [3,10] (by kernel_rfl) rfl (qdm ?_ (qdm ?_ (qgR)))
   ·refine wo rfl<|qan E qf3 rfl (qbv N v204 r210 e222 hG hTb ok) rfl rfl ?_
    rintro _ w ⟨⟨rfl,ok⟩,l250⟩
    refine ⟨_,rfl,fun a E=>?_⟩
    refine wn<|qai (cl1 (cq le_m206 ok [1,2,3,4,5,6,7] rfl) (cq le_m206 ok [1,2,3,4,5,6,7] rfl)) fun hT=>kt 4 E rfl hT (qe1 rfl rfl e225) fun a E=>kt 13 E rfl hT (qah rfl) fun a E=>?_
    have E:=E.upd 70 c231 rfl
    refine kt 14 E rfl hT (qah rfl) fun a E=>kt 15 E rfl hT (qau rfl rfl) fun a E=>kt 16 E rfl hT (qa8 rfl rfl) fun a E=>qao [10] (by kernel_rfl) rfl (qar ?_)
    ·refine wo rfl<|qeJ (R:=qbD) E ok qeh qe7 rfl ⟨rfl,(ir 0),(ir 0)⟩ rfl e227 rfl rfl fun c251 M252 a w E ok h253=>wn<|qai (cl1 (cq le_m206 ok [2,3,4,5,6,7,8] rfl) (cq le_m206 ok [2,3,4,5,6,7,8] rfl)) fun hT=>kt 17 E rfl hT (qaF (ps:=[(0,.tmp 61),(1,.tmp 67),(2,.tmp 73)]) (qs:=[(0,[vs s224]),(1,[c251]),(2,[(vb (v204 == 0))])]) (cs:=[vs s224,c251,(vb (v204 == 0))]) qbH qdn rfl ⟨rfl,rfl,rfl,⟨rfl,(ORow.cells h253),rfl,⟨rfl,rfl,rfl,trivial⟩⟩⟩ rfl) fun a E=>qao [19] (by kernel_rfl) rfl (qar ?_)
     ·refine wo rfl<|qad E ok 1 rfl rfl rfl qe8 rfl rfl ⟨rfl,(ORow.one h253),rfl,trivial⟩ rfl rfl fun w ok=>wn<|qai (cl1 (cq le_m206 ok [2,3,4,5,6,7,8] rfl) (cq le_m206 ok [2,3,4,5,6,7,8] rfl)) fun hT=>qaV (by kernel_rfl) ?_
      exact ⟨rfl,⟨b249,c251,M252,(ok.pk 9 [1,0,2,3,4,5,6,7,8] rfl (by decide)),E.keep [0,3,4,5,7,9,10,27,28,29,54],(qdX e225),h253⟩⟩
   refine wo rfl<|qeJ (R:=qbD) E ok qeh qe7 rfl ⟨rfl,(ir 0),(ir 0)⟩ rfl e227 rfl rfl fun c254 M255 a w E ok h256=>wn<|qai (cl1 (cq le_m206 ok [2,3,4,5,6,7,8] rfl) (cq le_m206 ok [2,3,4,5,6,7,8] rfl)) fun hT=>qao [3] (by kernel_rfl) rfl (qar ?_)
   ·refine wo rfl<|qan E qf3 rfl (qbv N v204 r210 e222 hG hTb ok) rfl rfl ?_
    rintro _ w ⟨⟨rfl,ok⟩,l257⟩
    refine ⟨_,rfl,fun a E=>?_⟩
    refine wn<|qai (cl1 (cq le_m206 ok [2,3,4,5,6,7,8] rfl) (cq le_m206 ok [2,3,4,5,6,7,8] rfl)) fun hT=>kt 4 E rfl hT (qe1 rfl rfl e225) fun a E=>kt 13 E rfl hT (qah rfl) fun a E=>?_
    have E:=E.upd 70 c231 rfl
    refine kt 14 E rfl hT (qah rfl) fun a E=>kt 15 E rfl hT (qau rfl rfl) fun a E=>kt 16 E rfl hT (qa8 rfl rfl) fun a E=>kt 17 E rfl hT (qaF (ps:=[(0,.tmp 61),(1,.tmp 67),(2,.tmp 73)]) (qs:=[(0,[vs s224]),(1,[c254]),(2,[(vb (v204 == 0))])]) (cs:=[vs s224,c254,(vb (v204 == 0))]) qbH qdn rfl ⟨rfl,rfl,rfl,⟨rfl,(ORow.cells h256),rfl,⟨rfl,rfl,rfl,trivial⟩⟩⟩ rfl) fun a E=>qao [19] (by kernel_rfl) rfl (qar ?_)
    ·refine wo rfl<|qad E ok 1 rfl rfl rfl qe8 rfl rfl ⟨rfl,(ORow.one h256),rfl,trivial⟩ rfl rfl fun w ok=>wn<|qai (cl1 (cq le_m206 ok [2,3,4,5,6,7,8] rfl) (cq le_m206 ok [2,3,4,5,6,7,8] rfl)) fun hT=>qaV (by kernel_rfl) ?_
     exact ⟨rfl,⟨b249,c254,M255,(ok.pk 9 [1,0,2,3,4,5,6,7,8] rfl (by decide)),E.keep [0,3,4,5,7,9,10,27,28,29,54],(qdX e225),h256⟩⟩
 have hF:=qcc c231 hF
 cases hF
 refine qaY [] (Cls u m206 ([(pb0,oc 175 [c175,c177,c180])] :: M178 :: M181 :: [(b146,oc 199 [vs x133.s,c144,vb x133.integer])] :: M208 :: M212 :: M62 :: [])) (Cls u m206 ([(pb0,oc 175 [c175,c177,c180])] :: M178 :: M181 :: [(b146,oc 199 [vs x133.s,c144,vb x133.integer])] :: M208 :: M212 :: M62 :: [])) (by kernel_rfl) ?_
 intro w hw
 replace ok:=qbd ok hw
 clear hw
 have le_m206:=Mem.le.refl m206
 refine qai (cl1 (cq le_m206 ok [0,1,2,3,4,5,6] rfl) (cq le_m206 ok [0,1,2,3,4,5,6] rfl)) fun hT=>kt 0 E rfl hT (qae ql7 rfl) fun a E=>kt 1 E rfl hT (qaj qfs rfl (qab.cown 3 rfl rfl)) fun a E=>kt 2 E rfl hT (qah rfl) fun a E=>kt 5 E rfl hT (qah rfl) fun a E=>kt 6 E rfl hT (qa6 rfl) fun a E=>kt 7 E rfl hT (qae qh4 rfl) fun a E=>kt 8 E rfl hT (qaj qci rfl (qab.cown 0 rfl rfl)) fun a E=>kt 9 E rfl hT (qaD qa4 h176 rfl) fun a E=>kt 11 E rfl hT (qae qks rfl) fun a E=>kt 12 E rfl hT (qaj qbx rfl (qab.cown 3 rfl rfl)) fun a E=>qao [3,10,18] (by kernel_rfl) rfl (qdm ?_ (qdm ?_ (qdm ?_ (qgR))))
 ·refine wo rfl<|qan E qf3 rfl (qbv N v204 r210 e222 hG hTb ok) rfl rfl ?_
  rintro _ w ⟨⟨rfl,ok⟩,l259⟩
  refine ⟨_,rfl,fun a E=>?_⟩
  refine wn<|qai (cl1 (cq le_m206 ok [0,1,2,3,4,5,6] rfl) (cq le_m206 ok [0,1,2,3,4,5,6] rfl)) fun hT=>kt 4 E rfl hT (qe1 rfl rfl e225) fun a E=>kt 13 E rfl hT (qah rfl) fun a E=>?_
  have E:=E.upd 70 c231 rfl
  refine qat 14 false E rfl (by kernel_rfl) nP hT rfl rfl fun a E=>qat 15 false E rfl (by kernel_rfl) nP hT rfl rfl fun a E=>kt 16 E rfl hT (qa1 rfl rfl) fun a E=>qao [10,18] (by kernel_rfl) rfl (qdm ?_ (qdm ?_ (qgR)))
  ·refine wo rfl<|qeJ (R:=qbD) E ok qeh qe7 rfl ⟨rfl,(ir 0),(ir 0)⟩ rfl e227 rfl rfl fun c260 M261 a w E ok h262=>wn<|qai (cl1 (cq le_m206 ok [1,2,3,4,5,6,7] rfl) (cq le_m206 ok [1,2,3,4,5,6,7] rfl)) fun hT=>kt 17 E rfl hT (qaF (ps:=[(0,.tmp 61),(1,.tmp 67),(2,.tmp 73)]) (qs:=[(0,[vs s224]),(1,[c260]),(2,[vb false])]) (cs:=[vs s224,c260,vb false]) qbH qdn rfl ⟨rfl,rfl,rfl,⟨rfl,(ORow.cells h262),rfl,⟨rfl,rfl,rfl,trivial⟩⟩⟩ rfl) fun a E=>qao [18] (by kernel_rfl) rfl (qar ?_)
   ·refine wo rfl<|qax E ok qbH rfl rfl fun b263 a w E ok=>wn<|qai (cl1 (cq le_m206 ok [2,3,4,5,6,7,8] rfl) (cq le_m206 ok [2,3,4,5,6,7,8] rfl)) fun hT=>qao [19] (by kernel_rfl) rfl (qar ?_)
    ·refine wo rfl<|qad E ok 0 rfl rfl rfl qe8 rfl rfl ⟨rfl,(ORow.one h262),rfl,trivial⟩ rfl rfl fun w ok=>wn<|qai (cl1 (cq le_m206 ok [2,3,4,5,6,7,8] rfl) (cq le_m206 ok [2,3,4,5,6,7,8] rfl)) fun hT=>qaV (by kernel_rfl) ?_
     exact ⟨rfl,⟨b263,c260,M261,ok,E.keep [0,3,4,5,7,9,10,27,28,29,54],(qdX e225),h262⟩⟩
  refine wo rfl<|qax E ok qbH rfl rfl fun b264 a w E ok=>wn<|qai (cl1 (cq le_m206 ok [1,2,3,4,5,6,7] rfl) (cq le_m206 ok [1,2,3,4,5,6,7] rfl)) fun hT=>qao [10] (by kernel_rfl) rfl (qar ?_)
  ·refine wo rfl<|qeJ (R:=qbD) E ok qeh qe7 rfl ⟨rfl,(ir 0),(ir 0)⟩ rfl e227 rfl rfl fun c265 M266 a w E ok h267=>wn<|qai (cl1 (cq le_m206 ok [2,3,4,5,6,7,8] rfl) (cq le_m206 ok [2,3,4,5,6,7,8] rfl)) fun hT=>kt 17 E rfl hT (qaF (ps:=[(0,.tmp 61),(1,.tmp 67),(2,.tmp 73)]) (qs:=[(0,[vs s224]),(1,[c265]),(2,[vb false])]) (cs:=[vs s224,c265,vb false]) qbH qdn rfl ⟨rfl,rfl,rfl,⟨rfl,(ORow.cells h267),rfl,⟨rfl,rfl,rfl,trivial⟩⟩⟩ rfl) fun a E=>qao [19] (by kernel_rfl) rfl (qar ?_)
   ·refine wo rfl<|qad E ok 1 rfl rfl rfl qe8 rfl rfl ⟨rfl,(ORow.one h267),rfl,trivial⟩ rfl rfl fun w ok=>wn<|qai (cl1 (cq le_m206 ok [2,3,4,5,6,7,8] rfl) (cq le_m206 ok [2,3,4,5,6,7,8] rfl)) fun hT=>qaV (by kernel_rfl) ?_
    exact ⟨rfl,⟨b264,c265,M266,(ok.pk 9 [1,0,2,3,4,5,6,7,8] rfl (by decide)),E.keep [0,3,4,5,7,9,10,27,28,29,54],(qdX e225),h267⟩⟩
 ·refine wo rfl<|qeJ (R:=qbD) E ok qeh qe7 rfl ⟨rfl,(ir 0),(ir 0)⟩ rfl e227 rfl rfl fun c268 M269 a w E ok h270=>wn<|qai (cl1 (cq le_m206 ok [1,2,3,4,5,6,7] rfl) (cq le_m206 ok [1,2,3,4,5,6,7] rfl)) fun hT=>qao [3,18] (by kernel_rfl) rfl (qdm ?_ (qdm ?_ (qgR)))
  ·refine wo rfl<|qan E qf3 rfl (qbv N v204 r210 e222 hG hTb ok) rfl rfl ?_
   rintro _ w ⟨⟨rfl,ok⟩,l271⟩
   refine ⟨_,rfl,fun a E=>?_⟩
   refine wn<|qai (cl1 (cq le_m206 ok [1,2,3,4,5,6,7] rfl) (cq le_m206 ok [1,2,3,4,5,6,7] rfl)) fun hT=>kt 4 E rfl hT (qe1 rfl rfl e225) fun a E=>kt 13 E rfl hT (qah rfl) fun a E=>?_
   have E:=E.upd 70 c231 rfl
   refine qat 14 false E rfl (by kernel_rfl) nP hT rfl rfl fun a E=>qat 15 false E rfl (by kernel_rfl) nP hT rfl rfl fun a E=>kt 16 E rfl hT (qa1 rfl rfl) fun a E=>kt 17 E rfl hT (qaF (ps:=[(0,.tmp 61),(1,.tmp 67),(2,.tmp 73)]) (qs:=[(0,[vs s224]),(1,[c268]),(2,[vb false])]) (cs:=[vs s224,c268,vb false]) qbH qdn rfl ⟨rfl,rfl,rfl,⟨rfl,(ORow.cells h270),rfl,⟨rfl,rfl,rfl,trivial⟩⟩⟩ rfl) fun a E=>qao [18] (by kernel_rfl) rfl (qar ?_)
   ·refine wo rfl<|qax E ok qbH rfl rfl fun b272 a w E ok=>wn<|qai (cl1 (cq le_m206 ok [2,3,4,5,6,7,8] rfl) (cq le_m206 ok [2,3,4,5,6,7,8] rfl)) fun hT=>qao [19] (by kernel_rfl) rfl (qar ?_)
    ·refine wo rfl<|qad E ok 0 rfl rfl rfl qe8 rfl rfl ⟨rfl,(ORow.one h270),rfl,trivial⟩ rfl rfl fun w ok=>wn<|qai (cl1 (cq le_m206 ok [2,3,4,5,6,7,8] rfl) (cq le_m206 ok [2,3,4,5,6,7,8] rfl)) fun hT=>qaV (by kernel_rfl) ?_
     exact ⟨rfl,⟨b272,c268,M269,ok,E.keep [0,3,4,5,7,9,10,27,28,29,54],(qdX e225),h270⟩⟩
  refine wo rfl<|qax E ok qbH rfl rfl fun b273 a w E ok=>wn<|qai (cl1 (cq le_m206 ok [2,3,4,5,6,7,8] rfl) (cq le_m206 ok [2,3,4,5,6,7,8] rfl)) fun hT=>qao [3] (by kernel_rfl) rfl (qar ?_)
  ·refine wo rfl<|qan E qf3 rfl (qbv N v204 r210 e222 hG hTb ok) rfl rfl ?_
   rintro _ w ⟨⟨rfl,ok⟩,l274⟩
   refine ⟨_,rfl,fun a E=>?_⟩
   refine wn<|qai (cl1 (cq le_m206 ok [2,3,4,5,6,7,8] rfl) (cq le_m206 ok [2,3,4,5,6,7,8] rfl)) fun hT=>kt 4 E rfl hT (qe1 rfl rfl e225) fun a E=>kt 13 E rfl hT (qah rfl) fun a E=>?_
   have E:=E.upd 70 c231 rfl
   refine qat 14 false E rfl (by kernel_rfl) nP hT rfl rfl fun a E=>qat 15 false E rfl (by kernel_rfl) nP hT rfl rfl fun a E=>kt 16 E rfl hT (qa1 rfl rfl) fun a E=>kt 17 E rfl hT (qaF (ps:=[(0,.tmp 61),(1,.tmp 67),(2,.tmp 73)]) (qs:=[(0,[vs s224]),(1,[c268]),(2,[vb false])]) (cs:=[vs s224,c268,vb false]) qbH qdn rfl ⟨rfl,rfl,rfl,⟨rfl,(ORow.cells h270),rfl,⟨rfl,rfl,rfl,trivial⟩⟩⟩ rfl) fun a E=>qao [19] (by kernel_rfl) rfl (qar ?_)
   ·refine wo rfl<|qad E ok 0 rfl rfl rfl qe8 rfl rfl ⟨rfl,(ORow.one h270),rfl,trivial⟩ rfl rfl fun w ok=>wn<|qai (cl1 (cq le_m206 ok [2,3,4,5,6,7,8] rfl) (cq le_m206 ok [2,3,4,5,6,7,8] rfl)) fun hT=>qaV (by kernel_rfl) ?_
    exact ⟨rfl,⟨b273,c268,M269,ok,E.keep [0,3,4,5,7,9,10,27,28,29,54],(qdX e225),h270⟩⟩
 refine wo rfl<|qax E ok qbH rfl rfl fun b275 a w E ok=>wn<|qai (cl1 (cq le_m206 ok [1,2,3,4,5,6,7] rfl) (cq le_m206 ok [1,2,3,4,5,6,7] rfl)) fun hT=>qao [3,10] (by kernel_rfl) rfl (qdm ?_ (qdm ?_ (qgR)))
 ·refine wo rfl<|qan E qf3 rfl (qbv N v204 r210 e222 hG hTb ok) rfl rfl ?_
  rintro _ w ⟨⟨rfl,ok⟩,l276⟩
  refine ⟨_,rfl,fun a E=>?_⟩
  refine wn<|qai (cl1 (cq le_m206 ok [1,2,3,4,5,6,7] rfl) (cq le_m206 ok [1,2,3,4,5,6,7] rfl)) fun hT=>kt 4 E rfl hT (qe1 rfl rfl e225) fun a E=>kt 13 E rfl hT (qah rfl) fun a E=>?_
  have E:=E.upd 70 c231 rfl
  refine qat 14 false E rfl (by kernel_rfl) nP hT rfl rfl fun a E=>qat 15 false E rfl (by kernel_rfl) nP hT rfl rfl fun a E=>kt 16 E rfl hT (qa1 rfl rfl) fun a E=>qao [10] (by kernel_rfl) rfl (qar ?_)
  ·refine wo rfl<|qeJ (R:=qbD) E ok qeh qe7 rfl ⟨rfl,(ir 0),(ir 0)⟩ rfl e227 rfl rfl fun c277 M278 a w E ok h279=>wn<|qai (cl1 (cq le_m206 ok [2,3,4,5,6,7,8] rfl) (cq le_m206 ok [2,3,4,5,6,7,8] rfl)) fun hT=>kt 17 E rfl hT (qaF (ps:=[(0,.tmp 61),(1,.tmp 67),(2,.tmp 73)]) (qs:=[(0,[vs s224]),(1,[c277]),(2,[vb false])]) (cs:=[vs s224,c277,vb false]) qbH qdn rfl ⟨rfl,rfl,rfl,⟨rfl,(ORow.cells h279),rfl,⟨rfl,rfl,rfl,trivial⟩⟩⟩ rfl) fun a E=>qao [19] (by kernel_rfl) rfl (qar ?_)
   ·refine wo rfl<|qad E ok 1 rfl rfl rfl qe8 rfl rfl ⟨rfl,(ORow.one h279),rfl,trivial⟩ rfl rfl fun w ok=>wn<|qai (cl1 (cq le_m206 ok [2,3,4,5,6,7,8] rfl) (cq le_m206 ok [2,3,4,5,6,7,8] rfl)) fun hT=>qaV (by kernel_rfl) ?_
    exact ⟨rfl,⟨b275,c277,M278,(ok.pk 9 [1,0,2,3,4,5,6,7,8] rfl (by decide)),E.keep [0,3,4,5,7,9,10,27,28,29,54],(qdX e225),h279⟩⟩
 refine wo rfl<|qeJ (R:=qbD) E ok qeh qe7 rfl ⟨rfl,(ir 0),(ir 0)⟩ rfl e227 rfl rfl fun c280 M281 a w E ok h282=>wn<|qai (cl1 (cq le_m206 ok [2,3,4,5,6,7,8] rfl) (cq le_m206 ok [2,3,4,5,6,7,8] rfl)) fun hT=>qao [3] (by kernel_rfl) rfl (qar ?_)
 ·refine wo rfl<|qan E qf3 rfl (qbv N v204 r210 e222 hG hTb ok) rfl rfl ?_
  rintro _ w ⟨⟨rfl,ok⟩,l283⟩
  refine ⟨_,rfl,fun a E=>?_⟩
  refine wn<|qai (cl1 (cq le_m206 ok [2,3,4,5,6,7,8] rfl) (cq le_m206 ok [2,3,4,5,6,7,8] rfl)) fun hT=>kt 4 E rfl hT (qe1 rfl rfl e225) fun a E=>kt 13 E rfl hT (qah rfl) fun a E=>?_
  have E:=E.upd 70 c231 rfl
  refine qat 14 false E rfl (by kernel_rfl) nP hT rfl rfl fun a E=>qat 15 false E rfl (by kernel_rfl) nP hT rfl rfl fun a E=>kt 16 E rfl hT (qa1 rfl rfl) fun a E=>kt 17 E rfl hT (qaF (ps:=[(0,.tmp 61),(1,.tmp 67),(2,.tmp 73)]) (qs:=[(0,[vs s224]),(1,[c280]),(2,[vb false])]) (cs:=[vs s224,c280,vb false]) qbH qdn rfl ⟨rfl,rfl,rfl,⟨rfl,(ORow.cells h282),rfl,⟨rfl,rfl,rfl,trivial⟩⟩⟩ rfl) fun a E=>qao [19] (by kernel_rfl) rfl (qar ?_)
  ·refine wo rfl<|qad E ok 1 rfl rfl rfl qe8 rfl rfl ⟨rfl,(ORow.one h282),rfl,trivial⟩ rfl rfl fun w ok=>wn<|qai (cl1 (cq le_m206 ok [2,3,4,5,6,7,8] rfl) (cq le_m206 ok [2,3,4,5,6,7,8] rfl)) fun hT=>qaV (by kernel_rfl) ?_
   exact ⟨rfl,⟨b275,c280,M281,(ok.pk 9 [1,0,2,3,4,5,6,7,8] rfl (by decide)),E.keep [0,3,4,5,7,9,10,27,28,29,54],(qdX e225),h282⟩⟩
def qkN (u:World) (m0:Mem) (S:Segs) (r:(Option (qaL))) (a:Act) (w:World):Prop :=
 ∃ m1 v0,m0.le m1 ∧ Ok u m1 (S) w ∧ a.defers = [] ∧ RVs Tryz.prog a w [.t 2 v0] ∧ (pP 3 qfH) m1 [v0] r
theorem qkQ (N:Nat) (vl_0:Value) (l_0:List (Relation)) (hl_0:(pL 4 qap) m0 [vl_0] l_0) {r:(Option (qaL))} (hF:qgX N l_0 = some r) (hG:Glob u) (hTb:Tab u) (ok:Ok u m0 (S) w) :
  Calls Tryz.prog 94 [vl_0].toArray w fun e w'=>∃ m1 v0,e = .returned v0 ∧ m0.le m1 ∧ Ok u m1 (S) w' ∧ (pP 3 qfH) m1 [v0] r:=by
 have le_m0:=Mem.le.refl m0
 unfold qgX at hF
 refine en (qkN u m0 S) r Tryz.func94 rfl rfl rfl (fun _ _ h=>rc h fun _=>rfl) fun fin a E=>sg<|aw E rfl fun a E=>sg<|mv E rfl fun a E=>lw E (qaF (ps:=[(0,.tmp 9)]) (qs:=[(0,[vl_0])]) (cs:=[vl_0,(Value.slice none 0 0),(Value.slice none 0 0)]) qqe qoW rfl ⟨rfl,(qbW hl_0),rfl,trivial⟩ rfl) fun a E=>qbz E ok rfl rfl rfl fun b1 a w E ok=>aw E rfl fun a E=>wp_seq<|sg<|mv E rfl fun a E=>wn<|wp_block ?_
 obtain ⟨M12,ok,h13⟩:=qcf (e:=181) (k:=2) (R:=qb8) ok
 obtain ⟨M14,ok,h15⟩:=qcf (e:=181) (k:=2) (R:=qb8) ok
 refine bd hF fun o16 hL hF=>qaE _ (fun (s:Int × qaL) a w=>∃ m17 c19 c21 M22 c24 M25,m0.le m17 ∧ Ok u m17 (M25 :: M22 :: [(b1,oc 175 [c19,c21,c24])] :: S) w ∧ Env 54 a [(0,vl_0),(3,vp b1),(12,vi s.1)] ∧ InR .i64 s.1 ∧ (pL 4 qap) m17 [c19] s.2.l ∧ ORow 181 2 qb8 m17 c21 s.2.wholes M22 ∧ ORow 181 2 qb8 m17 c24 s.2.fraction M25) (fun (b:qaL) e a w=>e = (.exit 0) ∧ ∃ m166 c167 c169 M170 c172 M173,m0.le m166 ∧ Ok u m166 (M173 :: M170 :: [(b1,oc 175 [c167,c169,c172])] :: S) w ∧ Env 54 a [(3,vp b1)] ∧ (pL 4 qap) m166 [c167] b.l ∧ ORow 181 2 qb8 m166 c169 b.wholes M170 ∧ ORow 181 2 qb8 m166 c172 b.fraction M173) ?_ ?_ N _ a w hL ⟨m0,vl_0,(Value.slice none 0 0),M12,(Value.slice none 0 0),M14,Mem.le.refl _,ok,E.keep [0,3,12],(ir 0),hl_0,h13,h15⟩
 rotate_left
 ·intro e a w _ hO
  obtain ⟨rfl,m140,c141,c143,M144,c146,M147,hle,ok,E,h142,h145,h148⟩:=hO
  have le_m0:=le_m0.trans hle
  have hl_0:=(mL qaf).up hle hl_0
  refine qaM<|qaa<|sg<|mv E rfl fun a E=>?_
  obtain ⟨r149,e150,hF⟩:=bnd hF
  replace ok:Ok u m140 ([(b1,oc 175 [c141,c143,c146])] :: M144 :: M147 :: S) w:=(ok.pk 3 [2,1,0] rfl (by decide))
  refine qan E qrG rfl (qiv N o16 h142 h145 h148 e150 hG hTb ok) rfl rfl ?_
  rintro _ w ⟨m151,c152,c154,M155,c157,M158,rfl,hle,ok,h153,h156,h159⟩
  have le_m0:=le_m0.trans hle
  have hl_0:=(mL qaf).up hle hl_0
  have h142:=(mL qaf).up hle h142
  refine ⟨_,rfl,fun a E=>?_⟩
  refine wn<|sg<|mv E rfl fun a E=>aw E rfl fun a E=>wp_ret ?_
  obtain ⟨m160,hle,ok,hfz⟩:=(ok.frs 1 rfl).freeze
  have h161:=ORow.froz qcu h156 hle hfz (by decide)
  have le_m0:=le_m0.trans hle
  have hl_0:=(mL qaf).up hle hl_0
  have h142:=(mL qaf).up hle h142
  have h153:=(mL qaf).up hle h153
  have h159:=ORow.up qcu hle h159
  obtain ⟨m162,hle,ok,hfz⟩:=(ok.frs 1 rfl).freeze
  have h163:=ORow.froz qcu h159 hle hfz (by decide)
  have le_m0:=le_m0.trans hle
  have hl_0:=(mL qaf).up hle hl_0
  have h142:=(mL qaf).up hle h142
  have h153:=(mL qaf).up hle h153
  have h161:=(mL qcu).up hle h161
  have hbx:=(show qfH m162 [c152,c154,c157] r149 from ⟨_,_,_,rfl,h153,h161,h163⟩)
  obtain ⟨m164,hle,ok,hfz⟩:=(ok.frs 0 rfl).freeze
  have h165:=qrg ql5 hbx hle hfz rfl
  clear hbx
  have le_m0:=le_m0.trans hle
  have hl_0:=(mL qaf).up hle hl_0
  have h142:=(mL qaf).up hle h142
  have h153:=(mL qaf).up hle h153
  have h161:=(mL qcu).up hle h161
  have h163:=(mL qcu).up hle h163
  exact fin hF ⟨m164,vp b1,le_m0,ok,E.d,rz E rfl,h165⟩
 rintro ⟨v27,v28⟩ a w r ⟨m29,c31,c33,M34,c36,M37,hle,ok,E,r30,h32,h35,h38⟩ hF
 replace hF:qgl N l_0 v27 v28 = some r:=hF
 unfold qgl at hF
 have le_m0:=le_m0.trans hle
 have hl_0:=(mL qaf).up hle hl_0
 refine sg<|lw E (qav rfl rfl) fun a E=>wn<|wp_seq<|cg E rfl hF (fun c39 hF=>?_) fun c39 hF=>?_
 ·refine wp_exit<|qaA ?_
  cases hF
  exact so (⟨rfl,⟨m29,c31,c33,M34,c36,M37,le_m0,ok,E.keep [3],h32,h35,h38⟩⟩)
 refine wp_skip<|qaa<|wp_seq<|wp_block<|sg<|mv E rfl fun a E=>av E rfl fun a E=>wn<|sg<|mv E rfl fun a E=>bd hF fun r40 e41 hF=>qan E qf3 rfl (qbv N v27 r30 e41 hG hTb ok) rfl rfl ?_
 rintro _ w ⟨⟨rfl,ok⟩,l42⟩
 refine ⟨_,rfl,fun a E=>?_⟩
 refine aw E rfl fun a E=>sg<|mv E rfl fun a E=>lv E ok (qaD qa4 hl_0 rfl) fun a E=>bd hF fun l43 e44 hF=>qeJ (R:=qbD) E ok qeh qe7 rfl ⟨rfl,(ir 0),(ir 0)⟩ rfl e44 rfl rfl fun c45 M46 a w E ok h47=>aw E rfl fun a E=>wp_seq<|sg<|mv E rfl fun a E=>lv E ok (qaD qa4 hl_0 rfl) fun a E=>mv E rfl fun a E=>wn<|wp_block<|bd hF fun o53 hL hF=>qaE _ (fun (s:Int × (List (Tracker))) a w=>∃ c55 M56,Ok u m29 (M56 :: M37 :: M34 :: [(b1,oc 175 [c31,c33,c36])] :: S) w ∧ Env 54 a [(0,vl_0),(3,vp b1),(4,vi v27),(5,vs r40),(6,c55),(12,vi v27),(20,vl_0),(21,(vi (l_0.length:Int))),(22,vi s.1)] ∧ InR .i64 s.1 ∧ ORow 86 2 qbD m29 c55 s.2 M56) (fun (b:((List (Tracker)))) e a w=>e = (.exit 2) ∧ ∃ c137 M138,Ok u m29 (M138 :: M37 :: M34 :: [(b1,oc 175 [c31,c33,c36])] :: S) w ∧ Env 54 a [(0,vl_0),(3,vp b1),(5,vs r40),(6,c137),(12,vi v27)] ∧ ORow 86 2 qbD m29 c137 b M138) ?_ ?_ N _ a w hL ⟨c45,M46,ok,E.keep [0,3,4,5,6,12,20,21,22],(ir 0),h47⟩
 ·rintro ⟨v58,v59⟩ a w r ⟨c61,M62,ok,E,r60,h63⟩ hF
  replace hF:qf9 N l_0 v27 v58 v59 = some r:=hF
  unfold qf9 at hF
  refine sg<|lw E (qav rfl rfl) fun a E=>wn<|wp_seq<|cg E rfl hF (fun c64 hF=>?_) fun c64 hF=>?_
  ·refine wp_exit<|qaA ?_
   cases hF
   exact so (⟨rfl,⟨c61,M62,ok,E.keep [0,3,5,6,12],h63⟩⟩)
  refine wp_skip<|qaa<|wp_seq<|wp_block<|sg<|mv E rfl fun a E=>?_
  obtain ⟨x65,e66,hF⟩:=bnd hF
  obtain ⟨b67,o68,es69,hl70,rr71,at72,yy73⟩:=ia E 20 22 qa4 hl_0 e66
  obtain ⟨c76,rfl,r74,r75,h77⟩:=rr71
  refine lv E ok (yy73 _ _) fun a E=>lv E ok (qag (cs:=[vi x65.Operand,vi x65.Mod,vb x65.Not,c76]) qbc rfl rfl (qab.ro at72)) fun a E=>qax E ok qcU rfl rfl fun b78 a w E ok=>av E rfl fun a E=>qad E ok 0 rfl rfl rfl qfF rfl rfl ⟨rfl,rfl,rfl,(qa5 h77),trivial⟩ rfl rfl fun w ok=>wn<|sg<|lv E ok (qag (cs:=[vi x65.Operand,vi x65.Mod,vb x65.Not,c76]) qbc rfl rfl (qab.own 0 rfl rfl)) fun a E=>bd hF fun r79 e80 hF=>lc E qlo rfl (qfd N _ x65 ⟨_,rfl,r74,r75,h77⟩ e80 hG ok) fun w ok a E=>wn<|cg E rfl hF (fun c81 hF=>?_) fun c81 hF=>?_
  ·refine wp_skip<|qal<|qaa<|qac<|lw E (qaw rfl rfl (InR.inc r60 (qam hl_0) c64)) fun a E=>mv E rfl fun a E=>wpList_nil ?_
   cases hF
   exact qas ⟨c61,M62,(ok.pk 5 [1,2,3,4] rfl (by decide)),E.keep [0,3,4,5,6,12,20,21,22],(InR.inc r60 (qam hl_0) c64),h63⟩
  refine qac<|mz E rfl rfl fun a E=>lv E ok (qag (cs:=[vi x65.Operand,vi x65.Mod,vb x65.Not,c76]) qbc rfl rfl (qab.own 0 rfl rfl)) fun a E=>mv E rfl fun a E=>bd hF fun r82 e83 hF=>qan E qmm rfl (qgc N _ x65 ⟨_,rfl,r74,r75,h77⟩ v27 r30 e83 hG ok) rfl rfl ?_
  rintro _ w ⟨⟨rfl,ok⟩,r84⟩
  refine ⟨_,rfl,fun a E=>?_⟩
  obtain ⟨x85,e86,hF⟩:=bnd hF
  obtain ⟨b87,o88,hp89,yy90⟩:=qbR qeh h63 e86 (P:=Tryz.prog) (X:=.tmp 29) (I:=.tmp 30) (kd:=.i64) (qaT E rfl) (qaT E rfl)
  refine lv E ok (yy90 _ _) fun a E=>fv E qfy rfl fun a E=>bd hF fun l93 e94 hF=>qok (R:=qbD) (f:=0) E ok 1 rfl h63 e86 hp89 rfl rfl rfl qaZ rfl rfl rfl ⟨rfl,trivial⟩ (fun es _ h=>by obtain ⟨rfl,r91,r92⟩:=h; exact ⟨rfl,r84,r92⟩) e94 rfl fun M95 w ok h96=>wpList_nil<|qal<|qaa<|qac<|lw E (qaw rfl rfl (InR.inc r60 (qam hl_0) c64)) fun a E=>mv E rfl fun a E=>wpList_nil ?_
  cases hF
  exact qas ⟨c61,M95,(ok.pk 5 [1,2,3,4] rfl (by decide)),E.keep [0,3,4,5,6,12,20,21,22],(InR.inc r60 (qam hl_0) c64),h96⟩
 intro e a w _ hO
 obtain ⟨rfl,c97,M98,ok,E,h99⟩:=hO
 refine qaM<|qaa<|bd hF fun o100 hJ hF=>qaG (Q':=fun e a w=>e = .normal ∧ ∃ m101 c102 c104 M105 c107 M108,m29.le m101 ∧ Ok u m101 (M108 :: M105 :: [(b1,oc 175 [c102,c104,c107])] :: S) w ∧ Env 54 a [(0,vl_0),(3,vp b1),(12,vi v27)] ∧ (pL 4 qap) m101 [c102] o100.l ∧ ORow 181 2 qb8 m101 c104 o100.wholes M105 ∧ ORow 181 2 qb8 m101 c107 o100.fraction M108) ?_ ?_
 rotate_left
 ·intro e a w hO
  obtain ⟨rfl,m128,c129,c131,M132,c134,M135,hle,ok,E,h130,h133,h136⟩:=hO
  have le_m0:=le_m0.trans hle
  have hl_0:=(mL qaf).up hle hl_0
  have h32:=(mL qaf).up hle h32
  refine qal<|qaa<|qac<|lw E (qaw rfl rfl (InR.inc r30 (ir 1000) c39)) fun a E=>mv E rfl fun a E=>wpList_nil ?_
  cases hF
  exact qas ⟨m128,c129,c131,M132,c134,M135,le_m0,ok,E.keep [0,3,12],(InR.inc r30 (ir 1000) c39),h130,h133,h136⟩
 have hF:=hJ
 have le_m29:=Mem.le.refl m29
 obtain ⟨r112,e113,hF⟩:=bnd hF
 obtain ⟨r115,e116,hF⟩:=bnd hF
 obtain rfl:=sj hF
 refine qaY [4] (Cls u m29 (M37 :: [(b1,oc 175 [c31,c33,c36])] :: [])) (Cls u m29 (M37 :: [])) (by kernel_rfl) ?_
 intro w hw
 replace ok:=qbd ok hw
 clear hw
 have h32_o:=h32
 refine qai (cl1 (cq le_m29 ok [1,3] rfl) (cq le_m29 ok [1] rfl)) fun hT=>kt 0 E rfl hT (qah rfl) fun a E=>kt 1 E rfl hT (qah rfl) fun a E=>kt 2 E rfl hT (qa6 rfl) fun a E=>kt 3 E rfl hT (qae qmb rfl) fun a E=>qaS 4 E rfl (by kernel_rfl) nP hT (qaj qlF rfl (qab.cown 1 rfl rfl)) rfl rfl fun a E=>kt 5 E rfl hT (qah rfl) fun a E=>kt 6 E rfl hT (qah rfl) fun a E=>kt 8 E rfl hT (qah rfl) fun a E=>qao [7] (by kernel_rfl) rfl (qar ?_)
 ·refine qbm (o:=_) rfl ?_
  obtain ⟨m121,hle,ok,hfz⟩:=(ok.frs 0 rfl).freeze
  have h122:=ORow.froz qbr h99 hle hfz (by decide)
  have le_m0:=le_m0.trans hle
  have le_m29:=le_m29.trans hle
  have hl_0:=(mL qaf).up hle hl_0
  have h32:=(mL qaf).up hle h32
  have h35:=ORow.up qcu hle h35
  have h38:=ORow.up qcu hle h38
  replace ok:Ok u m121 ([(b1,oc 175 [c31,c33,c36])] :: M34 :: M37 :: S) w:=(ok.pk 3 [2,1,0] rfl (by decide))
  refine qan E qpa rfl (qht N false _ o53 h122 v28 h32 h35 h38 e113 hG ok) rfl rfl ?_
  rintro _ w ⟨⟨rfl,ok⟩,r123⟩
  refine ⟨_,rfl,fun a E=>?_⟩
  refine wn<|qai (cl1 (cq le_m29 ok [2,0] rfl) (cq le_m29 ok [2] rfl)) fun hT=>kt 9 E rfl hT (qaF (ps:=[(0,.tmp 44),(1,.tmp 45)]) (qs:=[(0,[vu r112]),(1,[vs r40])]) (cs:=[vu r112,vs r40]) qhm qmw rfl ⟨rfl,rfl,rfl,⟨rfl,rfl,rfl,trivial⟩⟩ rfl) fun a E=>qao [10] (by kernel_rfl) rfl (qar ?_)
  ·refine qbm (o:=_) rfl ?_
   replace ok:Ok u m121 (M34 :: [(b1,oc 175 [c31,c33,c36])] :: M37 :: S) w:=(ok.pk 3 [1,0,2] rfl (by decide))
   refine qan E qpf rfl (qkD N _ v28.wholes h35 _ (Part.mk r112 r40) ⟨rfl,r123,l42⟩ e116 hG ok) rfl rfl ?_
   rintro _ w ⟨m124,c125,M126,rfl,hle,ok,h127⟩
   have le_m0:=le_m0.trans hle
   have le_m29:=le_m29.trans hle
   have hl_0:=(mL qaf).up hle hl_0
   have h32:=(mL qaf).up hle h32
   have h38:=ORow.up qcu hle h38
   have h122:=(mL qbr).up hle h122
   refine ⟨_,rfl,fun a E=>?_⟩
   refine wn<|qai (cl1 (cq le_m29 ok [2,1] rfl) (cq le_m29 ok [2] rfl)) fun hT=>kt 11 E rfl hT (qa6 rfl) fun a E=>kt 12 E rfl hT (qae qmb rfl) fun a E=>qao [13] (by kernel_rfl) rfl (qar ?_)
   ·refine wo rfl<|qad E ok 1 rfl rfl rfl qoE (ORow.cells h127) rfl ⟨(ORow.one h127),trivial⟩ rfl rfl fun w ok=>wn<|qai (cl2 (by kernel_rfl) (cq le_m29 ok [2] rfl)) fun hT=>qaV (by kernel_rfl) ?_
    exact ⟨rfl,⟨m124,c31,c125,M126,c36,M37,le_m29,(ok.pk 3 [2,0,1] rfl (by decide)),E.keep [0,3,12],h32,h127,h38⟩⟩
def qjA (u:World) (m0:Mem) (S:Segs) (r:Bool) (a:Act) (w:World):Prop :=
 Ok u m0 S w ∧ a.defers = [] ∧ RVs Tryz.prog a w [.t 8 (.bool r)]
theorem qjw (N:Nat) (vx_0:Value) (x_0:Option (qaL)) (hx_0:(pP 3 qfH) m0 [vx_0] x_0) (vw_1:List Value) (w_1:Part) (hw_1:qb8 m0 vw_1 w_1) (vf_2:List Value) (f_2:Part) (hf_2:qb8 m0 vf_2 f_2) (i_3:Int) (ri_3:InR .i64 i_3) {r:Bool} (hF:qgf N x_0 w_1 f_2 i_3 = some r) (hG:Glob u) (ok:Ok u m0 S w) :
  Calls Tryz.prog 129 [vx_0,.agg vw_1.toArray,.agg vf_2.toArray,vi i_3].toArray w fun e w'=>(e = .returned (.bool r) ∧ Ok u m0 S w'):=by
 obtain ⟨rfl,r1,l2⟩:=hw_1
 obtain ⟨rfl,r3,l4⟩:=hf_2
 unfold qgf at hF
 refine en (qjA u m0 S) r Tryz.func129 rfl rfl rfl (fun _ _ h=>ra h rfl) fun fin a E=>sg<|qbz E ok rfl rfl rfl fun b5 a w E ok=>qbz E ok rfl rfl rfl fun b6 a w E ok=>aw E rfl fun a E=>sg<|mv E rfl fun a E=>?_
 obtain ⟨y7,e8,hF⟩:=bnd hF
 obtain ⟨b9,o10,es11,hv12,hl13,hR14,at15⟩:=qm2 hx_0 e8
 obtain ⟨c16,c18,c20,rfl,h17,h19,h21⟩:=hR14
 refine lv E ok (qjz hv12 rfl) fun a E=>fv E qh4 rfl fun a E=>lv E ok (qaj qci rfl (qab.ro (At.sub 0 1 at15))) fun a E=>mv E rfl fun a E=>?_
 obtain ⟨x22,e23,hF⟩:=bnd hF
 obtain ⟨b24,o25,es26,hl27,rr28,at29,yy30⟩:=ia E 13 14 qa4 h17 e23
 obtain ⟨c33,rfl,r31,r32,h34⟩:=rr28
 refine lv E ok (yy30 _ _) fun a E=>lv E ok (qag (cs:=[vi x22.Operand,vi x22.Mod,vb x22.Not,c33]) qbc rfl rfl (qab.ro at29)) fun a E=>qax E ok qcU rfl rfl fun b35 a w E ok=>qad E ok 0 rfl rfl rfl qfF rfl rfl ⟨rfl,rfl,rfl,(qa5 h34),trivial⟩ rfl rfl fun w ok=>wn<|wp_seq<|wp_block<|sg<|fk E ok qa2 qak rfl 0 rfl rfl fun a E=>lw E (qau rfl rfl) fun a E=>mv E rfl fun a E=>bw E 21 hF (fun c36 hF E=>?_) fun c36 hF E=>?_
 ·refine lsz E fun a E=>pf E rfl rfl fun a E=>aw E rfl fun a E=>c_if E rfl (fun h=>by cases h) (fun _=>?_)
  refine sg<|lv E ok (qag (cs:=[vi x22.Operand,vi x22.Mod,vb x22.Not,c33]) qbc rfl rfl (qab.own 0 rfl rfl)) fun a E=>bd hF fun r45 e46 hF=>lc E qlo rfl (qfd N _ x22 ⟨_,rfl,r31,r32,h34⟩ e46 hG ok) fun w ok a E=>aw E rfl fun a E=>cf E rfl hF (fun c47 hF=>?_) fun c47 hF=>?_
  ·refine sg<|fk E ok qhf qhW rfl 2 rfl rfl fun a E=>mv E rfl fun a E=>bd hF fun q48 e49 hF=>lw E (qnu rfl rfl e49) fun a E=>lw E (qiZ .and (by decide) rfl rfl) fun a E=>lw E (qau rfl rfl) fun a E=>aw E rfl fun a E=>wp_ret<|qaz<|qaq ?_
   exact fin hF ⟨ok.drop.drop.drop,E.d,rz E rfl⟩
  refine wp_skip<|qal<|qaa<|sg<|fk E ok qhf qhW rfl 1 rfl rfl fun a E=>mv E rfl fun a E=>bd hF fun q50 e51 hF=>lw E (qnu rfl rfl e51) fun a E=>lw E (qiZ .and (by decide) rfl rfl) fun a E=>lw E (qau rfl rfl) fun a E=>aw E rfl fun a E=>wp_ret ?_
  exact fin hF ⟨ok.drop.drop.drop,E.d,rz E rfl⟩
 refine fk E ok qhf qhW rfl 1 rfl rfl fun a E=>lw E (qiZ .and (by decide) rfl rfl) fun a E=>lw E (qb7 rfl rfl) fun a E=>pt E rfl rfl fun a E=>aw E rfl fun a E=>cf E rfl hF (fun c37 hF=>?_) fun c37 hF=>?_
 ·refine sg<|fk E ok qe9 qbx rfl 0 rfl rfl fun a E=>aw E rfl fun a E=>wp_ret<|qaz<|qaq ?_
  exact fin hF ⟨ok.drop.drop.drop,E.d,rz E rfl⟩
 refine sg<|lv E ok (qag (cs:=[vi x22.Operand,vi x22.Mod,vb x22.Not,c33]) qbc rfl rfl (qab.own 0 rfl rfl)) fun a E=>bd hF fun r38 e39 hF=>lc E qlo rfl (qfd N _ x22 ⟨_,rfl,r31,r32,h34⟩ e39 hG ok) fun w ok a E=>aw E rfl fun a E=>cf E rfl hF (fun c40 hF=>?_) fun c40 hF=>?_
 ·refine sg<|fk E ok qhf qhW rfl 2 rfl rfl fun a E=>mv E rfl fun a E=>bd hF fun q41 e42 hF=>lw E (qnu rfl rfl e42) fun a E=>lw E (qiZ .and (by decide) rfl rfl) fun a E=>lw E (qau rfl rfl) fun a E=>aw E rfl fun a E=>wp_ret<|qaz<|qaq ?_
  exact fin hF ⟨ok.drop.drop.drop,E.d,rz E rfl⟩
 refine wp_skip<|qal<|qaa<|sg<|fk E ok qhf qhW rfl 1 rfl rfl fun a E=>mv E rfl fun a E=>bd hF fun q43 e44 hF=>lw E (qnu rfl rfl e44) fun a E=>lw E (qiZ .and (by decide) rfl rfl) fun a E=>lw E (qau rfl rfl) fun a E=>aw E rfl fun a E=>wp_ret ?_
 exact fin hF ⟨ok.drop.drop.drop,E.d,rz E rfl⟩
def qjb (u:World) (m0:Mem) (S:Segs) (pb0:Nat) (pb1:Nat) (pb2:Nat) (x0:Option (qaL)) (c1:Value) (x1:Part) (x2:Part) (r:Bool) (a:Act) (w:World):Prop :=
 Ok u m0 ([(pb0,oc 143 [c1])] :: [(pb1,oc 181 [vu x1.bits,vs x1.text])] :: [(pb2,oc 181 [vu x2.bits,vs x2.text])] :: S) w ∧ a.defers = [] ∧ RVs Tryz.prog a w [.t 5 (.bool r)]
theorem qjd (N:Nat) (i_0:Int) (ri_0:InR .i64 i_0) {pb0:Nat} {c1:Value} (x0:Option (qaL)) (h2:(pP 3 qfH) m0 [c1] x0) {pb1:Nat} (x1:Part) (r3:InR .u64 x1.bits) (l4:x1.text.length ≤ LIMS) {pb2:Nat} (x2:Part) (r5:InR .u64 x2.bits) (l6:x2.text.length ≤ LIMS) {r:Bool} (hF:qfN N i_0 x0 x1 x2 = some r) (hG:Glob u) (ok:Ok u m0 ([(pb0,oc 143 [c1])] :: [(pb1,oc 181 [vu x1.bits,vs x1.text])] :: [(pb2,oc 181 [vu x2.bits,vs x2.text])] :: S) w) :
  Calls Tryz.prog 128 [vi i_0,vp pb0,vp pb1,vp pb2].toArray w fun e w'=>(e = .returned (.bool r) ∧ Ok u m0 ([(pb0,oc 143 [c1])] :: [(pb1,oc 181 [vu x1.bits,vs x1.text])] :: [(pb2,oc 181 [vu x2.bits,vs x2.text])] :: S) w'):=by
 unfold qfN at hF
 refine en (qjb u m0 S pb0 pb1 pb2 x0 c1 x1 x2) r Tryz.func128 rfl rfl rfl (fun _ _ h=>ra h rfl) fun fin a E=>sg<|aw E rfl fun a E=>sg<|ld E ok qmR 0 rfl rfl rfl fun a E=>lv E ok (qag (cs:=[vu x1.bits,vs x1.text]) qiO rfl rfl (qab.own 1 rfl rfl)) fun a E=>lv E ok (qag (cs:=[vu x2.bits,vs x2.text]) qiO rfl rfl (qab.own 2 rfl rfl)) fun a E=>mv E rfl fun a E=>bd hF fun r7 e8 hF=>lc E qsv rfl (qjw N _ x0 h2 _ x1 ⟨rfl,r3,l4⟩ _ x2 ⟨rfl,r5,l6⟩ i_0 ri_0 e8 hG ok) fun w ok a E=>aw E rfl fun a E=>wp_ret ?_
 exact fin hF ⟨ok,E.d,rz E rfl⟩
end Go.Proofs.YtidfofhmnlhfjaaGreatDoor
