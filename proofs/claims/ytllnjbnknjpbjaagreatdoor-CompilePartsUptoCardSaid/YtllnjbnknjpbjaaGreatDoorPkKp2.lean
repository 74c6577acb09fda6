/- Texts of this proof, put together by pack.py: what its declarations name. -/
import Derived.Test.YtllnjbnknjpbjaaGreatDoorPkKp1
import Derived.Test.YtllnjbnknjpbjaaGreatDoorCards
import Derived.Test.YtllnjbnknjpbjaaGreatDoorChecked
import Derived.Test.YtllnjbnknjpbjaaGreatDoorProg
import Derived.Test.YtllnjbnknjpbjaaGreatDoorRows
import Derived.Test.YtllnjbnknjpbjaaGreatDoorTie
set_option linter.unusedVariables false
set_option linter.unusedSimpArgs false
namespace Go.Proofs.YtllnjbnknjpbjaaGreatDoor
open Go.X
structure Ins where
 Op:Int
 A:Int
 B:Int
 S:List UInt8
structure Code where
 Names:List (List UInt8)
 Ins:List (Ins)
structure Compiler where
 Code:Code
structure Arr7_Int where
 e0:Int
 e1:Int
 e2:Int
 e3:Int
 e4:Int
 e5:Int
 e6:Int
def Arr7_Int.list (a:Arr7_Int):List (Int):=[a.e0,a.e1,a.e2,a.e3,a.e4,a.e5,a.e6]
def Arr7_Int.of:List (Int) → Option Arr7_Int
 | [x0,x1,x2,x3,x4,x5,x6]=>some ⟨x0,x1,x2,x3,x4,x5,x6⟩
 | _=>none
def Arr7_Int.get (a:Arr7_Int) (i:Int):Option (Int):=idx a.list i
def Arr7_Int.set (a:Arr7_Int) (i:Int) (x:Int):Option Arr7_Int:=(setI a.list i x).bind Arr7_Int.of
structure Arr14_List_UInt8 where
 e0:List UInt8
 e1:List UInt8
 e2:List UInt8
 e3:List UInt8
 e4:List UInt8
 e5:List UInt8
 e6:List UInt8
 e7:List UInt8
 e8:List UInt8
 e9:List UInt8
 e10:List UInt8
 e11:List UInt8
 e12:List UInt8
 e13:List UInt8
def Arr14_List_UInt8.list (a:Arr14_List_UInt8):List (List UInt8):=[a.e0,a.e1,a.e2,a.e3,a.e4,a.e5,a.e6,a.e7,a.e8,a.e9,a.e10,a.e11,a.e12,a.e13]
def Arr14_List_UInt8.of:List (List UInt8) → Option Arr14_List_UInt8
 | [x0,x1,x2,x3,x4,x5,x6,x7,x8,x9,x10,x11,x12,x13]=>some ⟨x0,x1,x2,x3,x4,x5,x6,x7,x8,x9,x10,x11,x12,x13⟩
 | _=>none
def Arr14_List_UInt8.get (a:Arr14_List_UInt8) (i:Int):Option (List UInt8):=idx a.list i
def Arr14_List_UInt8.set (a:Arr14_List_UInt8) (i:Int) (x:List UInt8):Option Arr14_List_UInt8:=(setI a.list i x).bind Arr14_List_UInt8.of
structure NoCopy where
structure BoolT where
 blank:NoCopy
 v:Int
structure Mutex where
 state:Int
 sema:Int
structure Mutex2 where
 blank:NoCopy
 mu:Mutex
structure Once where
 blank:NoCopy
 done:BoolT
 m:Mutex2
structure Replacer where
 once:Once
 r:Unit
 oldnew:List (List UInt8)
def qa7 (_N:Nat) (x_1:Ins) (x0:Compiler):Option (Int × Compiler) :=
 (show Option Compiler from
  (app x0.Code.Ins ([x_1]:List (Ins))).bind fun l28 =>
  some (Compiler.mk (Code.mk x0.Code.Names l28))).bind fun o18 =>
 some ((IntKind.wrap .i64 ((o18.Code.Ins.length:Int) - 1)),o18)
def qb5 (_N:Nat) (s_0:List (List UInt8)) (v_1:List UInt8) (x_4:Int):Option (Int ⊕ ((Unit ⊕ Int))) :=
 bif (decide (x_4 < (s_0.length:Int))) then
  (idx s_0 x_4).bind fun x7 =>
  bif (v_1 == x7) then
   some (.inr (.inr x_4))
  else
   some (.inl (x_4 + 1))
 else
  some (.inr (.inl ()))
def qcU (N:Nat) (s_0:List (List UInt8)) (v_1:List UInt8):Option Int :=
 (iter (fun s=>qb5 N s_0 v_1 s) N 0).bind fun o2 =>
 Sum.elim (fun _o2 =>
  some (-1))
 (fun o2 =>
  some o2) o2
def qci (N:Nat) (s_1:List UInt8) (x0:Compiler):Option (Int × Compiler) :=
 (qcU N x0.Code.Names s_1).bind fun r18 =>
 bif (decide (r18 < 0)) then
  (app x0.Code.Names ([s_1]:List (List UInt8))).bind fun l25 =>
  some ((x0.Code.Names.length:Int),(Compiler.mk (Code.mk l25 x0.Code.Ins)))
 else
  some (r18,x0)
def qd1 (_N:Nat) (kind_0:Int):Option Int :=
 (idx [(0:Int),(0:Int),(5:Int),(6:Int),(7:Int),(8:Int),(9:Int)] kind_0).bind fun z1 =>
 some z1
def qcA (r_compile_compiler_parts:List (Part) → List UInt8 → Compiler → Option Compiler) (r_compile_compiler_selection:Part → List UInt8 → Compiler → Option Compiler) (N:Nat) (l_1:List (Part)) (count_2:List UInt8) (x_30:Int) (x_31:Compiler):Option ((Int × Compiler) ⊕ Compiler) :=
 bif (decide (x_30 < (l_1.length:Int))) then
  (idx l_1 x_30).bind fun x41 =>
  bif (x41.Kind == 1) then
   (qa7 N (Ins.mk 1 0 0 x41.Text) x_31).bind fun r60 =>
   some (.inl ((x_30 + 1),r60.2))
  else
   bif (x41.Kind == 10) then
    (qci N count_2 x_31).bind fun r71 =>
    (qa7 N (Ins.mk 6 r71.1 0 ([])) r71.2).bind fun r81 =>
    some (.inl ((x_30 + 1),r81.2))
   else
    bif (x41.Kind == 11) then
     bif ((x41.Parts.length:Int) == 0) then
      (qa7 N (Ins.mk 4 0 0 x41.Name) x_31).bind fun r93 =>
      some (.inl ((x_30 + 1),r93.2))
     else
      bif (x41.Kind == 11) then
       (qa7 N (Ins.mk 2 0 0 x41.Name) x_31).bind fun r104 =>
       (r_compile_compiler_parts x41.Parts count_2 r104.2).bind fun r114 =>
       (qa7 N (Ins.mk 3 0 0 x41.Name) r114).bind fun r123 =>
       some (.inl ((x_30 + 1),r123.2))
      else
       (qb1 N x41.Kind).bind fun r133 =>
       bif r133 then
        (r_compile_compiler_selection x41 count_2 x_31).bind fun r136 =>
        some (.inl ((x_30 + 1),r136))
       else
        (show Option Compiler from
         (qd1 N x41.Kind).bind fun r153 =>
         (qci N x41.Name x_31).bind fun r156 =>
         (qa7 N (Ins.mk r153 r156.1 0 x41.Style) r156.2).bind fun r166 =>
         some r166.2).bind fun o145 =>
        some (.inl ((x_30 + 1),o145))
    else
     bif (x41.Kind == 11) then
      (qa7 N (Ins.mk 2 0 0 x41.Name) x_31).bind fun r201 =>
      (r_compile_compiler_parts x41.Parts count_2 r201.2).bind fun r211 =>
      (qa7 N (Ins.mk 3 0 0 x41.Name) r211).bind fun r220 =>
      some (.inl ((x_30 + 1),r220.2))
     else
      (qb1 N x41.Kind).bind fun r230 =>
      bif r230 then
       (r_compile_compiler_selection x41 count_2 x_31).bind fun r233 =>
       some (.inl ((x_30 + 1),r233))
      else
       (show Option Compiler from
        (qd1 N x41.Kind).bind fun r250 =>
        (qci N x41.Name x_31).bind fun r253 =>
        (qa7 N (Ins.mk r250 r253.1 0 x41.Style) r253.2).bind fun r263 =>
        some r263.2).bind fun o242 =>
       some (.inl ((x_30 + 1),o242))
 else
  some (.inr x_31)
def qcP (r_compile_compiler_parts:List (Part) → List UInt8 → Compiler → Option Compiler) (r_compile_compiler_selection:Part → List UInt8 → Compiler → Option Compiler) (N:Nat) (l_1:List (Part)) (count_2:List UInt8) (x0:Compiler):Option Compiler :=
 (iter (fun s=>qcA r_compile_compiler_parts r_compile_compiler_selection N l_1 count_2 s.1 s.2) N (0,x0)).bind fun o21 =>
 some o21
def qb8 (r_compile_compiler_parts:List (Part) → List UInt8 → Compiler → Option Compiler) (r_compile_compiler_selection:Part → List UInt8 → Compiler → Option Compiler) (N:Nat) (x_1:Part) (x_94:Int) (x_95:Compiler):Option ((Int × Compiler) ⊕ Compiler) :=
 bif (decide (x_94 < (x_1.Cases.length:Int))) then
  (idx x_1.Cases x_94).bind fun x105 =>
  (qa7 N (Ins.mk 11 0 0 x105.Key) x_95).bind fun r118 =>
  some (.inl ((x_94 + 1),r118.2))
 else
  some (.inr x_95)
def qb7 (r_compile_compiler_parts:List (Part) → List UInt8 → Compiler → Option Compiler) (r_compile_compiler_selection:Part → List UInt8 → Compiler → Option Compiler) (N:Nat) (x_1:Part) (o22:((List UInt8))) (o26:Compiler) (jumps_160:List (Int)) (x_161:Int) (x_162:Compiler):Option (((List (Int)) × Int × Compiler) ⊕ ((Compiler × (List (Int))))) :=
 bif (decide (x_161 < (x_1.Cases.length:Int))) then
  (idx x_1.Cases x_161).bind fun x175 =>
  (show Option Compiler from
   (idx x_162.Code.Ins (IntKind.wrap .i64 ((o26.Code.Ins.length:Int) + x_161))).bind fun x195 =>
   (setI x_162.Code.Ins (IntKind.wrap .i64 ((o26.Code.Ins.length:Int) + x_161)) (Ins.mk x195.Op (x_162.Code.Ins.length:Int) x195.B x195.S)).bind fun l205 =>
   some (Compiler.mk (Code.mk x_162.Code.Names l205))).bind fun o188 =>
  (r_compile_compiler_parts x175.Parts o22 o188).bind fun r235 =>
  (qa7 N (Ins.mk 12 0 0 ([])) r235).bind fun r244 =>
  (app jumps_160 ([r244.1]:List (Int))).bind fun l257 =>
  some (.inl (l257,(x_161 + 1),r244.2))
 else
  some (.inr (x_162,jumps_160))
def qb4 (r_compile_compiler_parts:List (Part) → List UInt8 → Compiler → Option Compiler) (r_compile_compiler_selection:Part → List UInt8 → Compiler → Option Compiler) (_N:Nat) (o148:(Compiler × (List (Int)))) (x_288:Int) (x_289:Compiler):Option ((Int × Compiler) ⊕ Compiler) :=
 bif (decide (x_288 < (o148.2.length:Int))) then
  (idx o148.2 x_288).bind fun x298 =>
  (show Option Compiler from
   (idx x_289.Code.Ins x298).bind fun x316 =>
   (setI x_289.Code.Ins x298 (Ins.mk x316.Op (x_289.Code.Ins.length:Int) x316.B x316.S)).bind fun l326 =>
   some (Compiler.mk (Code.mk x_289.Code.Names l326))).bind fun o309 =>
  some (.inl ((x_288 + 1),o309))
 else
  some (.inr x_289)
def qcm (r_compile_compiler_parts:List (Part) → List UInt8 → Compiler → Option Compiler) (r_compile_compiler_selection:Part → List UInt8 → Compiler → Option Compiler) (N:Nat) (x_1:Part) (count_2:List UInt8) (x0:Compiler):Option Compiler :=
 (show Option ((List UInt8)) from
  bif (x_1.Kind != 9) then
   some x_1.Name
  else
   some count_2).bind fun o22 =>
 (show Option Compiler from
  (qci N x_1.Name x0).bind fun r34 =>
  (qa7 N (Ins.mk 10 r34.1 x_1.Kind ([])) r34.2).bind fun r44 =>
  some r44.2).bind fun o26 =>
 (iter (fun s=>qb8 r_compile_compiler_parts r_compile_compiler_selection N x_1 s.1 s.2) N (0,o26)).bind fun o85 =>
 (iter (fun s=>qb7 r_compile_compiler_parts r_compile_compiler_selection N x_1 o22 o26 s.1 s.2.1 s.2.2) N ([],0,o85)).bind fun o148 =>
 (iter (fun s=>qb4 r_compile_compiler_parts r_compile_compiler_selection N o148 s.1 s.2) N (0,o148.1)).bind fun o280 =>
 some o280
def qcr:Nat → (List (Part) → List UInt8 → Compiler → Option Compiler) × (Part → List UInt8 → Compiler → Option Compiler)
 | 0=>(fun _ _ _=>none,fun _ _ _=>none)
 | N + 1=>(qcP (qcr N).1 (qcr N).2 N,qcm (qcr N).1 (qcr N).2 N)
def qaX (N:Nat):List (Part) → List UInt8 → Compiler → Option Compiler:=(qcr N).1
def qaY (N:Nat):Part → List UInt8 → Compiler → Option Compiler:=(qcr N).2
def qdT (N:Nat) (parts_0:List (Part)):Option (Code × Int) :=
 (qf1 N parts_0).bind fun r2 =>
 bif (!r2) then
  some ((Code.mk ([]) ([])),1)
 else
  (qaX N parts_0 ([]) (Compiler.mk (Code.mk ([]) ([])))).bind fun r10 =>
  (qa7 N (Ins.mk 13 0 0 ([])) r10).bind fun r19 =>
  some (r19.2.Code,0)
def qd5 (_N:Nat) (s1_0:List (List UInt8)) (s2_1:List (List UInt8)) (x_5:Int):Option (Int ⊕ ((Unit ⊕ Bool))) :=
 bif (decide (x_5 < (s1_0.length:Int))) then
  (idx s1_0 x_5).bind fun x8 =>
  (idx s2_1 x_5).bind fun x18 =>
  bif (x8 != x18) then
   some (.inr (.inr false))
  else
   some (.inl (x_5 + 1))
 else
  some (.inr (.inl ()))
def qeE (N:Nat) (s1_0:List (List UInt8)) (s2_1:List (List UInt8)):Option Bool :=
 bif ((s1_0.length:Int) != (s2_1.length:Int)) then
  some false
 else
  (iter (fun s=>qd5 N s1_0 s2_1 s) N 0).bind fun o3 =>
  Sum.elim (fun _o3 =>
   some true)
  (fun o3 =>
   some o3) o3
def qcW (_N:Nat) (s1_0:List (Ins)) (s2_1:List (Ins)) (x_5:Int):Option (Int ⊕ ((Unit ⊕ Bool))) :=
 bif (decide (x_5 < (s1_0.length:Int))) then
  (idx s1_0 x_5).bind fun x8 =>
  (idx s2_1 x_5).bind fun x21 =>
  bif (!((x8.Op == x21.Op) && ((x8.A == x21.A) && ((x8.B == x21.B) && (x8.S == x21.S))))) then
   some (.inr (.inr false))
  else
   some (.inl (x_5 + 1))
 else
  some (.inr (.inl ()))
def qde (N:Nat) (s1_0:List (Ins)) (s2_1:List (Ins)):Option Bool :=
 bif ((s1_0.length:Int) != (s2_1.length:Int)) then
  some false
 else
  (iter (fun s=>qcW N s1_0 s2_1 s) N 0).bind fun o3 =>
  Sum.elim (fun _o3 =>
   some true)
  (fun o3 =>
   some o3) o3
def qhQ (N:Nat) (a_0:Code) (b_1:Code):Option Bool :=
 (qeE N a_0.Names b_1.Names).bind fun r11 =>
 bif r11 then
  (qde N a_0.Ins b_1.Ins).bind fun r14 =>
  some r14
 else
  some false
def qfM (_N:Nat) (oldnew_0:List (List UInt8)):Option Replacer :=
 (rm (oldnew_0.length:Int) 2).bind fun q7 =>
 (show Option Unit from
  bif (q7 == 1) then
   none
  else
   some ()).bind fun _o9 =>
 (app ([]:List (List UInt8)) oldnew_0).bind fun l13 =>
 some (Replacer.mk (Once.mk (NoCopy.mk ) (BoolT.mk (NoCopy.mk ) 0) (Mutex2.mk (NoCopy.mk ) (Mutex.mk 0 0))) () l13)
def qcg (_N:Nat) (s_1:List UInt8) (x0:Builder):Option (Int × Unit × Builder) :=
 (app x0.buf (ints s_1)).bind fun l11 =>
 some ((s_1.length:Int),(),(Builder.mk () l11))
end Go.Proofs.YtllnjbnknjpbjaaGreatDoor
namespace Go.Proofs.YtllnjbnknjpbjaaGreatDoor
open Go.X
def qgP (N:Nat) (x48:Ins) (x_126:Int) (x_127:Builder):Option ((Int × Builder) ⊕ Builder) :=
 bif (decide (x_126 < (([x48.A,x48.B]:List (Int)).length:Int))) then
  (idx ([x48.A,x48.B]:List (Int)) x_126).bind fun x135 =>
  bif (x135 != 0) then
   (qeB N x135).bind fun r147 =>
   (cat ([32]) r147).bind fun s150 =>
   (qcg N s150 (Builder.mk () x_127.buf)).bind fun r152 =>
   some (.inl ((x_126 + 1),(Builder.mk () r152.2.2.buf)))
  else
   some (.inl ((x_126 + 1),(Builder.mk () x_127.buf)))
 else
  some (.inr (Builder.mk () x_127.buf))
def qg6 (N:Nat) (x48:Ins) (x_228:Int) (x_229:Builder):Option ((Int × Builder) ⊕ Builder) :=
 bif (decide (x_228 < (([x48.A,x48.B]:List (Int)).length:Int))) then
  (idx ([x48.A,x48.B]:List (Int)) x_228).bind fun x237 =>
  bif (x237 != 0) then
   (qeB N x237).bind fun r249 =>
   (cat ([32]) r249).bind fun s252 =>
   (qcg N s252 (Builder.mk () x_229.buf)).bind fun r254 =>
   some (.inl ((x_228 + 1),(Builder.mk () r254.2.2.buf)))
  else
   some (.inl ((x_228 + 1),(Builder.mk () x_229.buf)))
 else
  some (.inr (Builder.mk () x_229.buf))
def qg7 (N:Nat) (c_0:Code) (x_39:Int) (x_40:Builder):Option ((Int × Builder) ⊕ Builder) :=
 bif (decide (x_39 < (c_0.Ins.length:Int))) then
  (idx c_0.Ins x_39).bind fun x48 =>
  bif (decide (x48.Op ≥ 1)) then
   (show Option Int from
    bif (decide (x48.Op ≤ 13)) then
     some x48.Op
    else
     some 0).bind fun o63 =>
   (show Option Builder from
    (qeB N x_39).bind fun r73 =>
    (cat r73 ([58,32])).bind fun s76 =>
    (Arr14_List_UInt8.get (Arr14_List_UInt8.mk ([63]) ([101,109,105,116]) ([111,112,101,110]) ([99,108,111,115,101]) ([118,111,105,100]) ([97,114,103]) ([110,117,109,98,101,114]) ([117,110,105,116]) ([100,97,116,101]) ([108,105,115,116]) ([115,119,105,116,99,104]) ([99,97,115,101]) ([106,117,109,112]) ([115,116,111,112])) o63).bind fun x78 =>
    (cat s76 x78).bind fun s80 =>
    (qcg N s80 (Builder.mk () x_40.buf)).bind fun r82 =>
    some (Builder.mk () r82.2.2.buf)).bind fun o67 =>
   (iter (fun s=>qgP N x48 s.1 s.2) N (0,(Builder.mk () o67.buf))).bind fun o119 =>
   bif (x48.S != ([])) then
    none
   else
    (qbC N 10 (Builder.mk () o119.buf)).bind fun r166 =>
    some (.inl ((x_39 + 1),(Builder.mk () r166.2.buf)))
  else
   (show Option Builder from
    (qeB N x_39).bind fun r184 =>
    (cat r184 ([58,32])).bind fun s187 =>
    (cat s187 ([63])).bind fun s189 =>
    (qcg N s189 (Builder.mk () x_40.buf)).bind fun r191 =>
    some (Builder.mk () r191.2.2.buf)).bind fun o178 =>
   (iter (fun s=>qg6 N x48 s.1 s.2) N (0,(Builder.mk () o178.buf))).bind fun o221 =>
   bif (x48.S != ([])) then
    none
   else
    (qbC N 10 (Builder.mk () o221.buf)).bind fun r268 =>
    some (.inl ((x_39 + 1),(Builder.mk () r268.2.buf)))
 else
  some (.inr (Builder.mk () x_40.buf))
def qif (N:Nat) (c_0:Code):Option (List UInt8) :=
 (qfM N ([[34],[92,34],[92],[92,92],[10],[92,110]]:List (List UInt8))).bind fun _r12 =>
 (iter (fun s=>qg7 N c_0 s.1 s.2) N (0,(Builder.mk () ([])))).bind fun o32 =>
 some (qch o32.buf)
end Go.Proofs.YtllnjbnknjpbjaaGreatDoor
namespace Go.Proofs.YtllnjbnknjpbjaaGreatDoor
open Go.X
structure Number2 where
 Neg:Bool
 Whole:List UInt8
 Frac:List UInt8
def qdi (r_calqueref26_Depth:List (Part) → Option Int) (N:Nat) (parts_0:List (Part)) (i_7:Int) (n_36:Int) (k_37:Int):Option ((Int × Int) ⊕ Int) :=
 (idx parts_0 i_7).bind fun x40 =>
 bif (decide (k_37 < (x40.Cases.length:Int))) then
  (idx parts_0 i_7).bind fun x58 =>
  (idx x58.Cases k_37).bind fun x75 =>
  (r_calqueref26_Depth x75.Parts).bind fun r87 =>
  some (.inl ((max n_36 (IntKind.wrap .i64 ((1:Int) + r87))),(k_37 + 1)))
 else
  some (.inr n_36)
def qdj (r_calqueref26_Depth:List (Part) → Option Int) (N:Nat) (parts_0:List (Part)) (n_6:Int) (i_7:Int):Option ((Int × Int) ⊕ Int) :=
 bif (decide (i_7 < (parts_0.length:Int))) then
  (idx parts_0 i_7).bind fun x11 =>
  (r_calqueref26_Depth x11.Parts).bind fun r28 =>
  (iter (fun s=>qdi r_calqueref26_Depth N parts_0 i_7 s.1 s.2) N ((max (max n_6 1) (IntKind.wrap .i64 ((1:Int) + r28))),0)).bind fun o33 =>
  some (.inl (o33,(i_7 + 1)))
 else
  some (.inr n_6)
def qdE (r_calqueref26_Depth:List (Part) → Option Int) (N:Nat) (parts_0:List (Part)):Option Int :=
 (iter (fun s=>qdj r_calqueref26_Depth N parts_0 s.1 s.2) N (0,0)).bind fun o3 =>
 some o3
def qgC:Nat → (List (Part) → Option Int)
 | 0=>(fun _=>none)
 | N + 1=>(qdE (qgC N) N)
def qck (N:Nat):List (Part) → Option Int:=(qgC N)
def qdw (r_calqueref26_Size:List (Part) → Option Int) (N:Nat) (parts_0:List (Part)) (i_7:Int) (n_53:Int) (k_54:Int):Option ((Int × Int) ⊕ Int) :=
 (idx parts_0 i_7).bind fun x57 =>
 bif (decide (k_54 < (x57.Cases.length:Int))) then
  (idx parts_0 i_7).bind fun x75 =>
  (idx x75.Cases k_54).bind fun x92 =>
  (r_calqueref26_Size x92.Parts).bind fun r104 =>
  some (.inl ((IntKind.wrap .i64 (n_53 + (IntKind.wrap .i64 ((1:Int) + r104)))),(k_54 + 1)))
 else
  some (.inr n_53)
def qdx (r_calqueref26_Size:List (Part) → Option Int) (N:Nat) (parts_0:List (Part)) (n_6:Int) (i_7:Int):Option ((Int × Int) ⊕ Int) :=
 bif (decide (i_7 < (parts_0.length:Int))) then
  (idx parts_0 i_7).bind fun x11 =>
  (r_calqueref26_Size x11.Parts).bind fun r28 =>
  (idx parts_0 i_7).bind fun x31 =>
  (iter (fun s=>qdw r_calqueref26_Size N parts_0 i_7 s.1 s.2) N ((IntKind.wrap .i64 (n_6 + (IntKind.wrap .i64 ((IntKind.wrap .i64 ((1:Int) + r28)) + (IntKind.wrap .i64 ((x31.Text.length:Int).tdiv 20)))))),0)).bind fun o50 =>
  some (.inl (o50,(i_7 + 1)))
 else
  some (.inr n_6)
def qdJ (r_calqueref26_Size:List (Part) → Option Int) (N:Nat) (parts_0:List (Part)):Option Int :=
 (iter (fun s=>qdx r_calqueref26_Size N parts_0 s.1 s.2) N (0,0)).bind fun o3 =>
 some o3
def qgT:Nat → (List (Part) → Option Int)
 | 0=>(fun _=>none)
 | N + 1=>(qdJ (qgT N) N)
def qcx (N:Nat):List (Part) → Option Int:=(qgT N)
def qdn (r_calqueref26_short:List (Part) → Option Bool) (N:Nat) (parts_0:List (Part)) (i_4:Int) (k_66:Int):Option (Int ⊕ ((Unit ⊕ Bool))) :=
 (idx parts_0 i_4).bind fun x68 =>
 bif (decide (k_66 < (x68.Cases.length:Int))) then
  (idx parts_0 i_4).bind fun x86 =>
  (idx x86.Cases k_66).bind fun x103 =>
  bif (decide ((x103.Key.length:Int) > 60)) then
   some (.inr (.inr false))
  else
   (idx parts_0 i_4).bind fun x116 =>
   (idx x116.Cases k_66).bind fun x133 =>
   (r_calqueref26_short x133.Parts).bind fun r145 =>
   bif (!r145) then
    some (.inr (.inr false))
   else
    some (.inl (k_66 + 1))
 else
  some (.inr (.inl ()))
def qdo (r_calqueref26_short:List (Part) → Option Bool) (N:Nat) (parts_0:List (Part)) (i_4:Int):Option (Int ⊕ ((Unit ⊕ Bool))) :=
 bif (decide (i_4 < (parts_0.length:Int))) then
  (idx parts_0 i_4).bind fun x7 =>
  bif (decide ((x7.Name.length:Int) > 60)) then
   some (.inr (.inr false))
  else
   (idx parts_0 i_4).bind fun x25 =>
   bif (decide ((x25.Style.length:Int) > 60)) then
    some (.inr (.inr false))
   else
    (idx parts_0 i_4).bind fun x43 =>
    (r_calqueref26_short x43.Parts).bind fun r60 =>
    bif (!r60) then
     some (.inr (.inr false))
    else
     (iter (fun s=>qdn r_calqueref26_short N parts_0 i_4 s) N 0).bind fun o64 =>
     Sum.elim (fun _o64 =>
      some (.inl (i_4 + 1)))
     (fun o64 =>
      some (.inr (.inr o64))) o64
 else
  some (.inr (.inl ()))
def qdB (r_calqueref26_short:List (Part) → Option Bool) (N:Nat) (parts_0:List (Part)):Option Bool :=
 (iter (fun s=>qdo r_calqueref26_short N parts_0 s) N 0).bind fun o2 =>
 Sum.elim (fun _o2 =>
  some true)
 (fun o2 =>
  some o2) o2
def qgD:Nat → (List (Part) → Option Bool)
 | 0=>(fun _=>none)
 | N + 1=>(qdB (qgD N) N)
def qcl (N:Nat):List (Part) → Option Bool:=(qgD N)
def qfa (N:Nat) (parts_0:List (Part)):Option Bool :=
 (qck N parts_0).bind fun r1 =>
 bif (decide (r1 ≤ 12)) then
  (qcx N parts_0).bind fun r5 =>
  bif (decide (r5 ≤ 300)) then
   (qcl N parts_0).bind fun r9 =>
   some r9
  else
   some false
 else
  some false
def qeJ (_N:Nat) (l_0:List (List UInt8)) (s_1:List UInt8) (i_4:Int):Option (Int ⊕ ((Unit ⊕ Bool))) :=
 bif (decide (i_4 < (l_0.length:Int))) then
  (idx l_0 i_4).bind fun x7 =>
  bif (x7 == s_1) then
   some (.inr (.inr true))
  else
   some (.inl (i_4 + 1))
 else
  some (.inr (.inl ()))
def qbJ (N:Nat) (l_0:List (List UInt8)) (s_1:List UInt8):Option Bool :=
 (iter (fun s=>qeJ N l_0 s_1 s) N 0).bind fun o2 =>
 Sum.elim (fun _o2 =>
  some false)
 (fun o2 =>
  some o2) o2
def qca (r_calqueref26_Names:List (Part) → List (List UInt8) → Option (List (List UInt8))) (N:Nat) (x16:Part) (names_117:List (List UInt8)) (k_118:Int):Option (((List (List UInt8)) × Int) ⊕ (((List (List UInt8))))) :=
 bif (decide (k_118 < (x16.Cases.length:Int))) then
  (idx x16.Cases k_118).bind fun x124 =>
  (r_calqueref26_Names x124.Parts names_117).bind fun r136 =>
  some (.inl (r136,(k_118 + 1)))
 else
  some (.inr names_117)
def qeP (r_calqueref26_Names:List (Part) → List (List UInt8) → Option (List (List UInt8))) (N:Nat) (x16:Part) (names_160:List (List UInt8)) (k_161:Int):Option (((List (List UInt8)) × Int) ⊕ (((List (List UInt8))))) :=
 bif (decide (k_161 < (x16.Cases.length:Int))) then
  (idx x16.Cases k_161).bind fun x167 =>
  (r_calqueref26_Names x167.Parts names_160).bind fun r179 =>
  some (.inl (r179,(k_161 + 1)))
 else
  some (.inr names_160)
def qeQ (r_calqueref26_Names:List (Part) → List (List UInt8) → Option (List (List UInt8))) (N:Nat) (x16:Part) (names_203:List (List UInt8)) (k_204:Int):Option (((List (List UInt8)) × Int) ⊕ (((List (List UInt8))))) :=
 bif (decide (k_204 < (x16.Cases.length:Int))) then
  (idx x16.Cases k_204).bind fun x210 =>
  (r_calqueref26_Names x210.Parts names_203).bind fun r222 =>
  some (.inl (r222,(k_204 + 1)))
 else
  some (.inr names_203)
def qdm (r_calqueref26_Names:List (Part) → List (List UInt8) → Option (List (List UInt8))) (N:Nat) (parts_0:List (Part)) (names_9:List (List UInt8)) (i_10:Int):Option (((List (List UInt8)) × Int) ⊕ (((List (List UInt8))))) :=
 bif (decide (i_10 < (parts_0.length:Int))) then
  (idx parts_0 i_10).bind fun x16 =>
  bif (decide (x16.Kind ≥ 2)) then
   bif (decide (x16.Kind ≤ 9)) then
    (qbJ N names_9 x16.Name).bind fun r36 =>
    (show Option ((List (List UInt8))) from
     bif (!r36) then
      (show Option ((List (List UInt8))) from
       (app ([]:List (List UInt8)) names_9).bind fun l50 =>
       (app l50 ([x16.Name]:List (List UInt8))).bind fun l58 =>
       some l58).bind fun o43 =>
      some o43
     else
      some names_9).bind fun o38 =>
    (r_calqueref26_Names x16.Parts o38).bind fun r104 =>
    (iter (fun s=>qca r_calqueref26_Names N x16 s.1 s.2) N (r104,0)).bind fun o112 =>
    some (.inl (o112,(i_10 + 1)))
   else
    (r_calqueref26_Names x16.Parts names_9).bind fun r147 =>
    (iter (fun s=>qeP r_calqueref26_Names N x16 s.1 s.2) N (r147,0)).bind fun o155 =>
    some (.inl (o155,(i_10 + 1)))
  else
   (r_calqueref26_Names x16.Parts names_9).bind fun r190 =>
   (iter (fun s=>qeQ r_calqueref26_Names N x16 s.1 s.2) N (r190,0)).bind fun o198 =>
   some (.inl (o198,(i_10 + 1)))
 else
  some (.inr names_9)
def qdA (r_calqueref26_Names:List (Part) → List (List UInt8) → Option (List (List UInt8))) (N:Nat) (parts_0:List (Part)) (names_1:List (List UInt8)):Option (List (List UInt8)) :=
 (iter (fun s=>qdm r_calqueref26_Names N parts_0 s.1 s.2) N (names_1,0)).bind fun o4 =>
 some o4
def qgA:Nat → (List (Part) → List (List UInt8) → Option (List (List UInt8)))
 | 0=>(fun _ _=>none)
 | N + 1=>(qdA (qgA N) N)
def qby (N:Nat):List (Part) → List (List UInt8) → Option (List (List UInt8)):=(qgA N)
def qbp (_N:Nat) (kind_0:Int):Option Bool :=
 bif (kind_0 == 7) then
  some true
 else
  bif (kind_0 == 8) then
   some true
  else
   some (kind_0 == 9)
def qbD (_N:Nat) (kind_0:Int):Option Bool :=
 bif (kind_0 == 7) then
  some true
 else
  some (kind_0 == 8)
def qd4 (_N:Nat) (c_0:Int):Option Bool :=
 bif (decide (c_0 ≥ 97)) then
  some (decide (c_0 ≤ 122))
 else
  some false
def qf3 (N:Nat) (c_0:Int):Option Bool :=
 (qd4 N c_0).bind fun r1 =>
 bif r1 then
  some true
 else
  bif (decide (c_0 ≥ 65)) then
   some (decide (c_0 ≤ 90))
  else
   some false
def qc1 (N:Nat) (c_0:Int):Option Bool :=
 (qf3 N c_0).bind fun r1 =>
 bif r1 then
  some true
 else
  bif (decide (c_0 ≥ 48)) then
   bif (decide (c_0 ≤ 57)) then
    some true
   else
    bif (c_0 == 95) then
     some true
    else
     some (c_0 == 45)
  else
   bif (c_0 == 95) then
    some true
   else
    some (c_0 == 45)
def qd8 (N:Nat) (s_0:List UInt8) (i_4:Int):Option (Int ⊕ ((Unit ⊕ Bool))) :=
 bif (decide (i_4 < (s_0.length:Int))) then
  (idx s_0 i_4).bind fun c7 =>
  (qc1 N (c7.toNat:Int)).bind fun r9 =>
  bif (!r9) then
   some (.inr (.inr false))
  else
   some (.inl (i_4 + 1))
 else
  some (.inr (.inl ()))
def qaJ (N:Nat) (s_0:List UInt8):Option Bool :=
 (iter (fun s=>qd8 N s_0 s) N 0).bind fun o2 =>
 Sum.elim (fun _o2 =>
  bif (decide ((s_0.length:Int) ≥ 1)) then
   bif (decide ((s_0.length:Int) ≤ 40)) then
    (idx s_0 0).bind fun c14 =>
    (qd4 N (c14.toNat:Int)).bind fun r16 =>
    some r16
   else
    some false
  else
   some false)
 (fun o2 =>
  some o2) o2
def qeH (_N:Nat) (s_0:List UInt8):Option Bool :=
 bif (s_0 == ([122,101,114,111])) then
  some true
 else
  bif (s_0 == ([111,110,101])) then
   some true
  else
   bif (s_0 == ([116,119,111])) then
    some true
   else
    bif (s_0 == ([102,101,119])) then
     some true
    else
     bif (s_0 == ([109,97,110,121])) then
      some true
     else
      some (s_0 == ([111,116,104,101,114]))
def qdO (_N:Nat) (s_0:List UInt8) (i_4:Int):Option (Int ⊕ ((Unit ⊕ Bool))) :=
 bif (decide (i_4 < (s_0.length:Int))) then
  (idx s_0 i_4).bind fun c7 =>
  bif (decide ((c7.toNat:Int) < 48)) then
   some (.inr (.inr false))
  else
   (idx s_0 i_4).bind fun c10 =>
   bif (decide ((c10.toNat:Int) > 57)) then
    some (.inr (.inr false))
   else
    some (.inl (i_4 + 1))
 else
  some (.inr (.inl ()))
def qdP (N:Nat) (s_0:List UInt8):Option Bool :=
 (iter (fun s=>qdO N s_0 s) N 0).bind fun o2 =>
 Sum.elim (fun _o2 =>
  some true)
 (fun o2 =>
  some o2) o2
def qea (_N:Nat) (s_0:List UInt8) (i_4:Int):Option (Int ⊕ ((Unit ⊕ Bool))) :=
 bif (decide (i_4 < (s_0.length:Int))) then
  (idx s_0 i_4).bind fun c7 =>
  bif ((c7.toNat:Int) != 48) then
   some (.inr (.inr false))
  else
   some (.inl (i_4 + 1))
 else
  some (.inr (.inl ()))
def qdc (N:Nat) (s_0:List UInt8):Option Bool :=
 (iter (fun s=>qea N s_0 s) N 0).bind fun o2 =>
 Sum.elim (fun _o2 =>
  some true)
 (fun o2 =>
  some o2) o2
end Go.Proofs.YtllnjbnknjpbjaaGreatDoor
namespace Go.Proofs.YtllnjbnknjpbjaaGreatDoor
open Go.X
def qeM (_N:Nat) (o6:((List UInt8) × Number2)) (k_26:Int):Option (Int ⊕ Int) :=
 bif (decide (k_26 < (o6.1.length:Int))) then
  (idx o6.1 k_26).bind fun c29 =>
  bif ((c29.toNat:Int) != 46) then
   some (.inl (k_26 + 1))
  else
   some (.inr k_26)
 else
  some (.inr k_26)
def qfz (_N:Nat) (s_0:List UInt8) (k_75:Int):Option (Int ⊕ Int) :=
 bif (decide (k_75 < (s_0.length:Int))) then
  (idx s_0 k_75).bind fun c78 =>
  bif ((c78.toNat:Int) != 46) then
   some (.inl (k_75 + 1))
  else
   some (.inr k_75)
 else
  some (.inr k_75)
def qd3 (N:Nat) (s_0:List UInt8):Option (Number2 × Bool) :=
 bif (decide ((s_0.length:Int) > 0)) then
  (idx s_0 0).bind fun c4 =>
  (show Option ((List UInt8) × Number2) from
   bif ((c4.toNat:Int) == 45) then
    (show Option ((List UInt8) × Number2) from
     (slc s_0 1 (s_0.length:Int)).bind fun s15 =>
     some (s15,(Number2.mk true ([]) ([])))).bind fun o11 =>
    some (o11.1,o11.2)
   else
    some (s_0,(Number2.mk false ([]) ([])))).bind fun o6 =>
  (iter (fun s=>qeM N o6 s) N 0).bind fun o24 =>
  (slc o6.1 0 o24).bind fun s33 =>
  (show Option (Number2 ⊕ (Number2 × Bool)) from
   bif (decide (o24 < (o6.1.length:Int))) then
    (slc o6.1 (o24 + 1) (o6.1.length:Int)).bind fun s41 =>
    bif ((s41.length:Int) == 0) then
     some (.inr ((Number2.mk false ([]) ([])),false))
    else
     some (.inl (Number2.mk o6.2.Neg s33 s41))
   else
    some (.inl (Number2.mk o6.2.Neg s33 o6.2.Frac))).bind fun o35 =>
  Sum.elim (fun o35 =>
   (cat o35.Whole o35.Frac).bind fun s46 =>
   (qdP N s46).bind fun r48 =>
   bif (!r48) then
    some ((Number2.mk false ([]) ([])),false)
   else
    bif (decide ((o35.Whole.length:Int) < 1)) then
     some ((Number2.mk false ([]) ([])),false)
    else
     bif (decide ((o35.Whole.length:Int) > 15)) then
      some ((Number2.mk false ([]) ([])),false)
     else
      bif (decide ((o35.Whole.length:Int) > 1)) then
       (idx o35.Whole 0).bind fun c54 =>
       bif ((c54.toNat:Int) == 48) then
        some ((Number2.mk false ([]) ([])),false)
       else
        bif (decide ((o35.Frac.length:Int) > 6)) then
         some ((Number2.mk false ([]) ([])),false)
        else
         bif o35.Neg then
          (cat o35.Whole o35.Frac).bind fun s59 =>
          (qdc N s59).bind fun r61 =>
          bif r61 then
           some ((Number2.mk false ([]) ([])),false)
          else
           some (o35,true)
         else
          some (o35,true)
      else
       bif (decide ((o35.Frac.length:Int) > 6)) then
        some ((Number2.mk false ([]) ([])),false)
       else
        bif o35.Neg then
         (cat o35.Whole o35.Frac).bind fun s66 =>
         (qdc N s66).bind fun r68 =>
         bif r68 then
          some ((Number2.mk false ([]) ([])),false)
         else
          some (o35,true)
        else
         some (o35,true))
  (fun o35 =>
   some o35) o35
 else
  (iter (fun s=>qfz N s_0 s) N 0).bind fun o73 =>
  (slc s_0 0 o73).bind fun s82 =>
  (show Option (Number2 ⊕ (Number2 × Bool)) from
   bif (decide (o73 < (s_0.length:Int))) then
    (slc s_0 (o73 + 1) (s_0.length:Int)).bind fun s90 =>
    bif ((s90.length:Int) == 0) then
     some (.inr ((Number2.mk false ([]) ([])),false))
    else
     some (.inl (Number2.mk false s82 s90))
   else
    some (.inl (Number2.mk false s82 ([])))).bind fun o84 =>
  Sum.elim (fun o84 =>
   (cat o84.Whole o84.Frac).bind fun s95 =>
   (qdP N s95).bind fun r97 =>
   bif (!r97) then
    some ((Number2.mk false ([]) ([])),false)
   else
    bif (decide ((o84.Whole.length:Int) < 1)) then
     some ((Number2.mk false ([]) ([])),false)
    else
     bif (decide ((o84.Whole.length:Int) > 15)) then
      some ((Number2.mk false ([]) ([])),false)
     else
      bif (decide ((o84.Whole.length:Int) > 1)) then
       (idx o84.Whole 0).bind fun c103 =>
       bif ((c103.toNat:Int) == 48) then
        some ((Number2.mk false ([]) ([])),false)
       else
        bif (decide ((o84.Frac.length:Int) > 6)) then
         some ((Number2.mk false ([]) ([])),false)
        else
         bif o84.Neg then
          (cat o84.Whole o84.Frac).bind fun s108 =>
          (qdc N s108).bind fun r110 =>
          bif r110 then
           some ((Number2.mk false ([]) ([])),false)
          else
           some (o84,true)
         else
          some (o84,true)
      else
       bif (decide ((o84.Frac.length:Int) > 6)) then
        some ((Number2.mk false ([]) ([])),false)
       else
        bif o84.Neg then
         (cat o84.Whole o84.Frac).bind fun s115 =>
         (qdc N s115).bind fun r117 =>
         bif r117 then
          some ((Number2.mk false ([]) ([])),false)
         else
          some (o84,true)
        else
         some (o84,true))
  (fun o84 =>
   some o84) o84
def qeI (N:Nat) (s_0:List UInt8):Option Bool :=
 (qd3 N s_0).bind fun r1 =>
 some r1.2
def qbY (N:Nat) (kind_0:Int) (s_1:List UInt8):Option Bool :=
 bif (kind_0 == 9) then
  (qaJ N s_1).bind fun r2 =>
  some r2
 else
  (qeH N s_1).bind fun r4 =>
  bif r4 then
   some true
  else
   bif (decide ((s_1.length:Int) > 1)) then
    (idx s_1 0).bind fun c8 =>
    bif ((c8.toNat:Int) == 61) then
     (slc s_1 1 (s_1.length:Int)).bind fun s11 =>
     (qeI N s11).bind fun r13 =>
     some r13
    else
     some false
   else
    some false
def qds (_N:Nat) (s_0:List UInt8) (i_4:Int):Option (Int ⊕ ((Unit ⊕ Bool))) :=
 bif (decide (i_4 < (s_0.length:Int))) then
  (idx s_0 i_4).bind fun c7 =>
  (show Option Bool from
   bif (decide ((c7.toNat:Int) ≥ 97)) then
    bif (decide ((c7.toNat:Int) ≤ 122)) then
     some (!true)
    else
     bif (decide ((c7.toNat:Int) ≥ 65)) then
      some (!(decide ((c7.toNat:Int) ≤ 90)))
     else
      some (!false)
   else
    bif (decide ((c7.toNat:Int) ≥ 65)) then
     some (!(decide ((c7.toNat:Int) ≤ 90)))
    else
     some (!false)).bind fun o9 =>
  bif o9 then
   some (.inr (.inr false))
  else
   some (.inl (i_4 + 1))
 else
  some (.inr (.inl ()))
def qcb (N:Nat) (s_0:List UInt8):Option Bool :=
 (iter (fun s=>qds N s_0 s) N 0).bind fun o2 =>
 Sum.elim (fun _o2 =>
  bif (decide ((s_0.length:Int) ≥ 1)) then
   some (decide ((s_0.length:Int) ≤ 40))
  else
   some false)
 (fun o2 =>
  some o2) o2
def qc0 (N:Nat) (x_0:Part) (counted_1:Bool):Option Bool :=
 (show Option (Bool × Part) from
  bif (x_0.Kind == 1) then
   some ((x_0.Text != ([])),(Part.mk x_0.Kind x_0.Text ([]) ([]) ([]) ([])))
  else
   bif (x_0.Kind == 10) then
    some (counted_1,(Part.mk x_0.Kind ([]) ([]) ([]) ([]) ([])))
   else
    bif (x_0.Kind == 2) then
     (qaJ N x_0.Name).bind fun r19 =>
     some (r19,(Part.mk x_0.Kind ([]) x_0.Name ([]) ([]) ([])))
    else
     (show Option Bool from
      bif (x_0.Kind == 3) then
       some (x_0.Kind == 3)
      else
       bif (x_0.Kind == 4) then
        some (x_0.Kind == 4)
       else
        bif (x_0.Kind == 5) then
         some (x_0.Kind == 5)
        else
         some (x_0.Kind == 6)).bind fun o21 =>
     bif o21 then
      (show Option Part from
       some (Part.mk x_0.Kind ([]) x_0.Name x_0.Style ([]) ([]))).bind fun o26 =>
      (qaJ N x_0.Name).bind fun r35 =>
      bif (x_0.Kind == 3) then
       bif r35 then
        bif (x_0.Style == ([])) then
         some (true,(Part.mk o26.Kind o26.Text o26.Name o26.Style ([]) ([])))
        else
         bif (x_0.Style == ([105,110,116,101,103,101,114])) then
          some (true,(Part.mk o26.Kind o26.Text o26.Name o26.Style ([]) ([])))
         else
          some ((x_0.Style == ([112,101,114,99,101,110,116])),(Part.mk o26.Kind o26.Text o26.Name o26.Style ([]) ([])))
       else
        some (false,(Part.mk o26.Kind o26.Text o26.Name o26.Style ([]) ([])))
      else
       bif (x_0.Kind == 5) then
        bif r35 then
         (qcb N x_0.Style).bind fun r43 =>
         some (r43,(Part.mk o26.Kind o26.Text o26.Name o26.Style ([]) ([])))
        else
         some (false,(Part.mk o26.Kind o26.Text o26.Name o26.Style ([]) ([])))
       else
        bif r35 then
         (qaJ N x_0.Style).bind fun r46 =>
         some (r46,(Part.mk o26.Kind o26.Text o26.Name o26.Style ([]) ([])))
        else
         some (false,(Part.mk o26.Kind o26.Text o26.Name o26.Style ([]) ([])))
     else
      some (false,(Part.mk x_0.Kind ([]) ([]) ([]) ([]) ([])))).bind fun o11 =>
 bif o11.1 then
  bif ((x_0.Cases.length:Int) == 0) then
   bif ((x_0.Parts.length:Int) == 0) then
    bif (x_0.Text == o11.2.Text) then
     bif (x_0.Name == o11.2.Name) then
      some (x_0.Style == o11.2.Style)
     else
      some false
    else
     some false
   else
    some false
  else
   some false
 else
  some false
end Go.Proofs.YtllnjbnknjpbjaaGreatDoor
namespace Go.Proofs.YtllnjbnknjpbjaaGreatDoor
open Go.X
def qbM (r_calqueref26_formed:List (Part) → Int → Bool → Option Bool) (N:Nat) (depth_1:Int) (counted_2:Bool) (x7:Part) (keys_82:List (List UInt8)) (k_83:Int):Option (((List (List UInt8)) × Int) ⊕ ((((List (List UInt8))) ⊕ Bool))) :=
 bif (decide (k_83 < (x7.Cases.length:Int))) then
  (idx x7.Cases k_83).bind fun x89 =>
  (qbY N x7.Kind x89.Key).bind fun r102 =>
  bif (!r102) then
   some (.inr (.inr false))
  else
   (qbJ N keys_82 x89.Key).bind fun r110 =>
   bif r110 then
    some (.inr (.inr false))
   else
    bif counted_2 then
     (r_calqueref26_formed x89.Parts (IntKind.wrap .i64 (depth_1 + 1)) true).bind fun r114 =>
     bif (!r114) then
      some (.inr (.inr false))
     else
      (app keys_82 ([x89.Key]:List (List UInt8))).bind fun l120 =>
      some (.inl (l120,(k_83 + 1)))
    else
     (qbD N x7.Kind).bind fun r125 =>
     (r_calqueref26_formed x89.Parts (IntKind.wrap .i64 (depth_1 + 1)) r125).bind fun r127 =>
     bif (!r127) then
      some (.inr (.inr false))
     else
      (app keys_82 ([x89.Key]:List (List UInt8))).bind fun l133 =>
      some (.inl (l133,(k_83 + 1)))
 else
  some (.inr (.inl keys_82))
def qex (r_calqueref26_formed:List (Part) → Int → Bool → Option Bool) (N:Nat) (depth_1:Int) (counted_2:Bool) (x7:Part) (keys_194:List (List UInt8)) (k_195:Int):Option (((List (List UInt8)) × Int) ⊕ ((((List (List UInt8))) ⊕ Bool))) :=
 bif (decide (k_195 < (x7.Cases.length:Int))) then
  (idx x7.Cases k_195).bind fun x201 =>
  (qbY N x7.Kind x201.Key).bind fun r214 =>
  bif (!r214) then
   some (.inr (.inr false))
  else
   (qbJ N keys_194 x201.Key).bind fun r222 =>
   bif r222 then
    some (.inr (.inr false))
   else
    bif counted_2 then
     (r_calqueref26_formed x201.Parts (IntKind.wrap .i64 (depth_1 + 1)) true).bind fun r226 =>
     bif (!r226) then
      some (.inr (.inr false))
     else
      (app keys_194 ([x201.Key]:List (List UInt8))).bind fun l232 =>
      some (.inl (l232,(k_195 + 1)))
    else
     (qbD N x7.Kind).bind fun r237 =>
     (r_calqueref26_formed x201.Parts (IntKind.wrap .i64 (depth_1 + 1)) r237).bind fun r239 =>
     bif (!r239) then
      some (.inr (.inr false))
     else
      (app keys_194 ([x201.Key]:List (List UInt8))).bind fun l245 =>
      some (.inl (l245,(k_195 + 1)))
 else
  some (.inr (.inl keys_194))
def qeu (r_calqueref26_formed:List (Part) → Int → Bool → Option Bool) (N:Nat) (depth_1:Int) (counted_2:Bool) (x7:Part) (keys_306:List (List UInt8)) (k_307:Int):Option (((List (List UInt8)) × Int) ⊕ ((((List (List UInt8))) ⊕ Bool))) :=
 bif (decide (k_307 < (x7.Cases.length:Int))) then
  (idx x7.Cases k_307).bind fun x313 =>
  (qbY N x7.Kind x313.Key).bind fun r326 =>
  bif (!r326) then
   some (.inr (.inr false))
  else
   (qbJ N keys_306 x313.Key).bind fun r334 =>
   bif r334 then
    some (.inr (.inr false))
   else
    bif counted_2 then
     (r_calqueref26_formed x313.Parts (IntKind.wrap .i64 (depth_1 + 1)) true).bind fun r338 =>
     bif (!r338) then
      some (.inr (.inr false))
     else
      (app keys_306 ([x313.Key]:List (List UInt8))).bind fun l344 =>
      some (.inl (l344,(k_307 + 1)))
    else
     (qbD N x7.Kind).bind fun r349 =>
     (r_calqueref26_formed x313.Parts (IntKind.wrap .i64 (depth_1 + 1)) r349).bind fun r351 =>
     bif (!r351) then
      some (.inr (.inr false))
     else
      (app keys_306 ([x313.Key]:List (List UInt8))).bind fun l357 =>
      some (.inl (l357,(k_307 + 1)))
 else
  some (.inr (.inl keys_306))
def qcI (r_calqueref26_formed:List (Part) → Int → Bool → Option Bool) (N:Nat) (parts_0:List (Part)) (depth_1:Int) (counted_2:Bool) (i_4:Int):Option (Int ⊕ ((Unit ⊕ Bool))) :=
 bif (decide (i_4 < (parts_0.length:Int))) then
  (idx parts_0 i_4).bind fun x7 =>
  bif (decide (i_4 > 0)) then
   bif (x7.Kind == 1) then
    (idx parts_0 (i_4 - 1)).bind fun x27 =>
    bif (x27.Kind == 1) then
     some (.inr (.inr false))
    else
     bif (x7.Kind == 11) then
      (show Option Bool from
       bif (decide (depth_1 > 8)) then
        some true
       else
        (qaJ N x7.Name).bind fun r48 =>
        bif (!r48) then
         some true
        else
         bif (x7.Text != ([])) then
          some true
         else
          bif (x7.Style != ([])) then
           some true
          else
           bif (decide ((x7.Cases.length:Int) > 0)) then
            some true
           else
            (r_calqueref26_formed x7.Parts (IntKind.wrap .i64 (depth_1 + 1)) counted_2).bind fun r54 =>
            some (!r54)).bind fun o46 =>
      bif o46 then
       some (.inr (.inr false))
      else
       some (.inl (i_4 + 1))
     else
      (qbp N x7.Kind).bind fun r57 =>
      bif r57 then
       (show Option Bool from
        bif (decide (depth_1 > 8)) then
         some true
        else
         (qaJ N x7.Name).bind fun r62 =>
         bif (!r62) then
          some true
         else
          bif (x7.Text != ([])) then
           some true
          else
           bif (x7.Style != ([])) then
            some true
           else
            bif (decide ((x7.Parts.length:Int) > 0)) then
             some true
            else
             bif (decide ((x7.Cases.length:Int) < 1)) then
              some true
             else
              some (decide ((x7.Cases.length:Int) > 20))).bind fun o60 =>
       bif o60 then
        some (.inr (.inr false))
       else
        (iter (fun s=>qbM r_calqueref26_formed N depth_1 counted_2 x7 s.1 s.2) N ([],0)).bind fun o77 =>
        Sum.elim (fun o77 =>
         (qbJ N o77 ([111,116,104,101,114])).bind fun r146 =>
         bif (!r146) then
          some (.inr (.inr false))
         else
          some (.inl (i_4 + 1)))
        (fun o77 =>
         some (.inr (.inr o77))) o77
      else
       (qc0 N x7 counted_2).bind fun r154 =>
       bif (!r154) then
        some (.inr (.inr false))
       else
        some (.inl (i_4 + 1))
   else
    bif (x7.Kind == 11) then
     (show Option Bool from
      bif (decide (depth_1 > 8)) then
       some true
      else
       (qaJ N x7.Name).bind fun r160 =>
       bif (!r160) then
        some true
       else
        bif (x7.Text != ([])) then
         some true
        else
         bif (x7.Style != ([])) then
          some true
         else
          bif (decide ((x7.Cases.length:Int) > 0)) then
           some true
          else
           (r_calqueref26_formed x7.Parts (IntKind.wrap .i64 (depth_1 + 1)) counted_2).bind fun r166 =>
           some (!r166)).bind fun o158 =>
     bif o158 then
      some (.inr (.inr false))
     else
      some (.inl (i_4 + 1))
    else
     (qbp N x7.Kind).bind fun r169 =>
     bif r169 then
      (show Option Bool from
       bif (decide (depth_1 > 8)) then
        some true
       else
        (qaJ N x7.Name).bind fun r174 =>
        bif (!r174) then
         some true
        else
         bif (x7.Text != ([])) then
          some true
         else
          bif (x7.Style != ([])) then
           some true
          else
           bif (decide ((x7.Parts.length:Int) > 0)) then
            some true
           else
            bif (decide ((x7.Cases.length:Int) < 1)) then
             some true
            else
             some (decide ((x7.Cases.length:Int) > 20))).bind fun o172 =>
      bif o172 then
       some (.inr (.inr false))
      else
       (iter (fun s=>qex r_calqueref26_formed N depth_1 counted_2 x7 s.1 s.2) N ([],0)).bind fun o189 =>
       Sum.elim (fun o189 =>
        (qbJ N o189 ([111,116,104,101,114])).bind fun r258 =>
        bif (!r258) then
         some (.inr (.inr false))
        else
         some (.inl (i_4 + 1)))
       (fun o189 =>
        some (.inr (.inr o189))) o189
     else
      (qc0 N x7 counted_2).bind fun r266 =>
      bif (!r266) then
       some (.inr (.inr false))
      else
       some (.inl (i_4 + 1))
  else
   bif (x7.Kind == 11) then
    (show Option Bool from
     bif (decide (depth_1 > 8)) then
      some true
     else
      (qaJ N x7.Name).bind fun r272 =>
      bif (!r272) then
       some true
      else
       bif (x7.Text != ([])) then
        some true
       else
        bif (x7.Style != ([])) then
         some true
        else
         bif (decide ((x7.Cases.length:Int) > 0)) then
          some true
         else
          (r_calqueref26_formed x7.Parts (IntKind.wrap .i64 (depth_1 + 1)) counted_2).bind fun r278 =>
          some (!r278)).bind fun o270 =>
    bif o270 then
     some (.inr (.inr false))
    else
     some (.inl (i_4 + 1))
   else
    (qbp N x7.Kind).bind fun r281 =>
    bif r281 then
     (show Option Bool from
      bif (decide (depth_1 > 8)) then
       some true
      else
       (qaJ N x7.Name).bind fun r286 =>
       bif (!r286) then
        some true
       else
        bif (x7.Text != ([])) then
         some true
        else
         bif (x7.Style != ([])) then
          some true
         else
          bif (decide ((x7.Parts.length:Int) > 0)) then
           some true
          else
           bif (decide ((x7.Cases.length:Int) < 1)) then
            some true
           else
            some (decide ((x7.Cases.length:Int) > 20))).bind fun o284 =>
     bif o284 then
      some (.inr (.inr false))
     else
      (iter (fun s=>qeu r_calqueref26_formed N depth_1 counted_2 x7 s.1 s.2) N ([],0)).bind fun o301 =>
      Sum.elim (fun o301 =>
       (qbJ N o301 ([111,116,104,101,114])).bind fun r370 =>
       bif (!r370) then
        some (.inr (.inr false))
       else
        some (.inl (i_4 + 1)))
      (fun o301 =>
       some (.inr (.inr o301))) o301
    else
     (qc0 N x7 counted_2).bind fun r378 =>
     bif (!r378) then
      some (.inr (.inr false))
     else
      some (.inl (i_4 + 1))
 else
  some (.inr (.inl ()))
def qdt (r_calqueref26_formed:List (Part) → Int → Bool → Option Bool) (N:Nat) (parts_0:List (Part)) (depth_1:Int) (counted_2:Bool):Option Bool :=
 (iter (fun s=>qcI r_calqueref26_formed N parts_0 depth_1 counted_2 s) N 0).bind fun o2 =>
 Sum.elim (fun _o2 =>
  some true)
 (fun o2 =>
  some o2) o2
def qgq:Nat → (List (Part) → Int → Bool → Option Bool)
 | 0=>(fun _ _ _=>none)
 | N + 1=>(qdt (qgq N) N)
def qbz (N:Nat):List (Part) → Int → Bool → Option Bool:=(qgq N)
def qbw (_N:Nat) (c_0:Int):Option Bool :=
 bif (c_0 == 123) then
  some true
 else
  bif (c_0 == 125) then
   some true
  else
   bif (c_0 == 60) then
    some true
   else
    bif (c_0 == 62) then
     some true
    else
     bif (c_0 == 35) then
      some true
     else
      some (c_0 == 92)
def qc8 (N:Nat) (s_0:List UInt8) (out_13:List (Int)) (i_14:Int):Option (((List (Int)) × Int) ⊕ (((List (Int))))) :=
 bif (decide (i_14 < (s_0.length:Int))) then
  (idx s_0 i_14).bind fun c20 =>
  (qbw N (c20.toNat:Int)).bind fun r22 =>
  (show Option ((List (Int))) from
   bif r22 then
    (app out_13 ([92]:List (Int))).bind fun l32 =>
    some l32
   else
    some out_13).bind fun o24 =>
  (idx s_0 i_14).bind fun c40 =>
  (app o24 ([(c40.toNat:Int)]:List (Int))).bind fun l45 =>
  some (.inl (l45,(i_14 + 1)))
 else
  some (.inr out_13)
def qdM (N:Nat) (s_0:List UInt8):Option (List UInt8) :=
 (iter (fun s=>qc8 N s_0 s.1 s.2) N ([],0)).bind fun o8 =>
 some (qch o8)
end Go.Proofs.YtllnjbnknjpbjaaGreatDoor
namespace Go.Proofs.YtllnjbnknjpbjaaGreatDoor
open Go.X
def qcE (r_calqueref26_Text:List (Part) → List UInt8 → Option (List UInt8)) (N:Nat) (gap_1:List UInt8) (x14:Part) (s_120:List UInt8) (k_121:Int):Option (((List UInt8) × Int) ⊕ (((List UInt8)))) :=
 bif (decide (k_121 < (x14.Cases.length:Int))) then
  (idx x14.Cases k_121).bind fun x125 =>
  (cat gap_1 x125.Key).bind fun s137 =>
  (cat s137 gap_1).bind fun s139 =>
  (cat s139 ([123])).bind fun s141 =>
  (idx x14.Cases k_121).bind fun x143 =>
  (r_calqueref26_Text x143.Parts gap_1).bind fun r155 =>
  (cat s141 r155).bind fun s158 =>
  (cat s158 ([125])).bind fun s160 =>
  (cat s_120 s160).bind fun s162 =>
  some (.inl (s162,(k_121 + 1)))
 else
  some (.inr s_120)
def qe3 (r_calqueref26_Text:List (Part) → List UInt8 → Option (List UInt8)) (N:Nat) (gap_1:List UInt8) (x14:Part) (s_239:List UInt8) (k_240:Int):Option (((List UInt8) × Int) ⊕ (((List UInt8)))) :=
 bif (decide (k_240 < (x14.Cases.length:Int))) then
  (idx x14.Cases k_240).bind fun x244 =>
  (cat gap_1 x244.Key).bind fun s256 =>
  (cat s256 gap_1).bind fun s258 =>
  (cat s258 ([123])).bind fun s260 =>
  (idx x14.Cases k_240).bind fun x262 =>
  (r_calqueref26_Text x262.Parts gap_1).bind fun r274 =>
  (cat s260 r274).bind fun s277 =>
  (cat s277 ([125])).bind fun s279 =>
  (cat s_239 s279).bind fun s281 =>
  some (.inl (s281,(k_240 + 1)))
 else
  some (.inr s_239)
def qc3 (r_calqueref26_Text:List (Part) → List UInt8 → Option (List UInt8)) (N:Nat) (parts_0:List (Part)) (gap_1:List UInt8) (s_9:List UInt8) (i_10:Int):Option (((List UInt8) × Int) ⊕ (((List UInt8)))) :=
 bif (decide (i_10 < (parts_0.length:Int))) then
  (idx parts_0 i_10).bind fun x14 =>
  bif (x14.Kind == 1) then
   (qdM N x14.Text).bind fun r33 =>
   (cat s_9 r33).bind fun s36 =>
   some (.inl (s36,(i_10 + 1)))
  else
   bif (x14.Kind == 10) then
    (cat s_9 ([35])).bind fun s39 =>
    some (.inl (s39,(i_10 + 1)))
   else
    bif (x14.Kind == 11) then
     bif ((x14.Parts.length:Int) == 0) then
      (cat ([60]) x14.Name).bind fun s43 =>
      (cat s43 ([47,62])).bind fun s45 =>
      (cat s_9 s45).bind fun s47 =>
      some (.inl (s47,(i_10 + 1)))
     else
      bif (x14.Kind == 11) then
       (cat ([60]) x14.Name).bind fun s50 =>
       (cat s50 ([62])).bind fun s52 =>
       (r_calqueref26_Text x14.Parts gap_1).bind fun r54 =>
       (cat s52 r54).bind fun s57 =>
       (cat s57 ([60,47])).bind fun s59 =>
       (cat s59 x14.Name).bind fun s61 =>
       (cat s61 ([62])).bind fun s63 =>
       (cat s_9 s63).bind fun s65 =>
       some (.inl (s65,(i_10 + 1)))
      else
       bif (x14.Kind == 2) then
        (cat ([123]) x14.Name).bind fun s68 =>
        (cat s68 ([125])).bind fun s70 =>
        (cat s_9 s70).bind fun s72 =>
        some (.inl (s72,(i_10 + 1)))
       else
        bif (decide (x14.Kind ≥ 3)) then
         bif (decide (x14.Kind ≤ 9)) then
          (cat ([123]) x14.Name).bind fun s76 =>
          (cat s76 ([44])).bind fun s78 =>
          (cat s78 gap_1).bind fun s80 =>
          (idx ([[110,117,109,98,101,114],[117,110,105,116],[100,97,116,101],[108,105,115,116],[112,108,117,114,97,108],[111,114,100,105,110,97,108],[115,101,108,101,99,116]]:List (List UInt8)) (IntKind.wrap .i64 (x14.Kind - 3))).bind fun x82 =>
          (cat s80 x82).bind fun s93 =>
          (cat s_9 s93).bind fun s95 =>
          (show Option ((List UInt8)) from
           bif (x14.Style != ([])) then
            (cat ([44]) gap_1).bind fun s100 =>
            (cat s100 x14.Style).bind fun s102 =>
            (cat s95 s102).bind fun s104 =>
            some s104
           else
            some s95).bind fun o97 =>
          (qbp N x14.Kind).bind fun r107 =>
          (show Option ((List UInt8)) from
           bif r107 then
            (cat o97 ([44])).bind fun s112 =>
            some s112
           else
            some o97).bind fun o109 =>
          (iter (fun s=>qcE r_calqueref26_Text N gap_1 x14 s.1 s.2) N (o109,0)).bind fun o117 =>
          (cat o117 ([125])).bind fun s165 =>
          some (.inl (s165,(i_10 + 1)))
         else
          some (.inl (s_9,(i_10 + 1)))
        else
         some (.inl (s_9,(i_10 + 1)))
    else
     bif (x14.Kind == 11) then
      (cat ([60]) x14.Name).bind fun s169 =>
      (cat s169 ([62])).bind fun s171 =>
      (r_calqueref26_Text x14.Parts gap_1).bind fun r173 =>
      (cat s171 r173).bind fun s176 =>
      (cat s176 ([60,47])).bind fun s178 =>
      (cat s178 x14.Name).bind fun s180 =>
      (cat s180 ([62])).bind fun s182 =>
      (cat s_9 s182).bind fun s184 =>
      some (.inl (s184,(i_10 + 1)))
     else
      bif (x14.Kind == 2) then
       (cat ([123]) x14.Name).bind fun s187 =>
       (cat s187 ([125])).bind fun s189 =>
       (cat s_9 s189).bind fun s191 =>
       some (.inl (s191,(i_10 + 1)))
      else
       bif (decide (x14.Kind ≥ 3)) then
        bif (decide (x14.Kind ≤ 9)) then
         (cat ([123]) x14.Name).bind fun s195 =>
         (cat s195 ([44])).bind fun s197 =>
         (cat s197 gap_1).bind fun s199 =>
         (idx ([[110,117,109,98,101,114],[117,110,105,116],[100,97,116,101],[108,105,115,116],[112,108,117,114,97,108],[111,114,100,105,110,97,108],[115,101,108,101,99,116]]:List (List UInt8)) (IntKind.wrap .i64 (x14.Kind - 3))).bind fun x201 =>
         (cat s199 x201).bind fun s212 =>
         (cat s_9 s212).bind fun s214 =>
         (show Option ((List UInt8)) from
          bif (x14.Style != ([])) then
           (cat ([44]) gap_1).bind fun s219 =>
           (cat s219 x14.Style).bind fun s221 =>
           (cat s214 s221).bind fun s223 =>
           some s223
          else
           some s214).bind fun o216 =>
         (qbp N x14.Kind).bind fun r226 =>
         (show Option ((List UInt8)) from
          bif r226 then
           (cat o216 ([44])).bind fun s231 =>
           some s231
          else
           some o216).bind fun o228 =>
         (iter (fun s=>qe3 r_calqueref26_Text N gap_1 x14 s.1 s.2) N (o228,0)).bind fun o236 =>
         (cat o236 ([125])).bind fun s284 =>
         some (.inl (s284,(i_10 + 1)))
        else
         some (.inl (s_9,(i_10 + 1)))
       else
        some (.inl (s_9,(i_10 + 1)))
 else
  some (.inr s_9)
def qdL (r_calqueref26_Text:List (Part) → List UInt8 → Option (List UInt8)) (N:Nat) (parts_0:List (Part)) (gap_1:List UInt8):Option (List UInt8) :=
 (iter (fun s=>qc3 r_calqueref26_Text N parts_0 gap_1 s.1 s.2) N ([],0)).bind fun o6 =>
 some o6
def qg0:Nat → (List (Part) → List UInt8 → Option (List UInt8))
 | 0=>(fun _ _=>none)
 | N + 1=>(qdL (qg0 N) N)
def qbG (N:Nat):List (Part) → List UInt8 → Option (List UInt8):=(qg0 N)
def qeL (N:Nat) (parts_0:List (Part)):Option Bool :=
 (qbz N parts_0 1 false).bind fun r1 =>
 bif r1 then
  (qby N parts_0 ([])).bind fun r4 =>
  bif (decide ((r4.length:Int) ≤ 20)) then
   (qbG N parts_0 ([32])).bind fun r10 =>
   some (decide ((r10.length:Int) ≤ 4000))
  else
   some false
 else
  some false
def qdk (r_calqueref29_Plain:List (Part) → Option Bool) (N:Nat) (parts_0:List (Part)) (i_4:Int) (k_50:Int):Option (Int ⊕ ((Unit ⊕ Bool))) :=
 (idx parts_0 i_4).bind fun x52 =>
 bif (decide (k_50 < (x52.Cases.length:Int))) then
  (idx parts_0 i_4).bind fun x70 =>
  (idx x70.Cases k_50).bind fun x87 =>
  (r_calqueref29_Plain x87.Parts).bind fun r99 =>
  bif (!r99) then
   some (.inr (.inr false))
  else
   some (.inl (k_50 + 1))
 else
  some (.inr (.inl ()))
def qdl (r_calqueref29_Plain:List (Part) → Option Bool) (N:Nat) (parts_0:List (Part)) (i_4:Int):Option (Int ⊕ ((Unit ⊕ Bool))) :=
 bif (decide (i_4 < (parts_0.length:Int))) then
  (idx parts_0 i_4).bind fun x7 =>
  (qbp N x7.Kind).bind fun r24 =>
  bif r24 then
   some (.inr (.inr false))
  else
   (idx parts_0 i_4).bind fun x27 =>
   (r_calqueref29_Plain x27.Parts).bind fun r44 =>
   bif (!r44) then
    some (.inr (.inr false))
   else
    (iter (fun s=>qdk r_calqueref29_Plain N parts_0 i_4 s) N 0).bind fun o48 =>
    Sum.elim (fun _o48 =>
     some (.inl (i_4 + 1)))
    (fun o48 =>
     some (.inr (.inr o48))) o48
 else
  some (.inr (.inl ()))
def qdD (r_calqueref29_Plain:List (Part) → Option Bool) (N:Nat) (parts_0:List (Part)):Option Bool :=
 (iter (fun s=>qdl r_calqueref29_Plain N parts_0 s) N 0).bind fun o2 =>
 Sum.elim (fun _o2 =>
  some true)
 (fun o2 =>
  some o2) o2
def qgH:Nat → (List (Part) → Option Bool)
 | 0=>(fun _=>none)
 | N + 1=>(qdD (qgH N) N)
def qcj (N:Nat):List (Part) → Option Bool:=(qgH N)
end Go.Proofs.YtllnjbnknjpbjaaGreatDoor
namespace Go.Proofs.YtllnjbnknjpbjaaGreatDoor
open Go.X
structure Position where
 Offset:Int
 Line:Int
 Column:Int
structure Token where
 Kind:Int
 Text:List UInt8
 From:Int
 To:Int
structure State where
 left:List (Token)
 end_:Int
 names:List (List UInt8)
 at_:Int
 e:Int
def qgo (_N:Nat) (c_0:Int):Option Bool :=
 bif (c_0 == 32) then
  some true
 else
  bif (c_0 == 9) then
   some true
  else
   some (c_0 == 10)
def qgj (N:Nat) (c_0:Int):Option Bool :=
 (qc1 N c_0).bind fun r1 =>
 bif r1 then
  some true
 else
  bif (c_0 == 46) then
   some true
  else
   some (c_0 == 61)
def qfr (N:Nat) (s_0:List UInt8) (to_5:Int):Option (Int ⊕ Int) :=
 bif (decide (to_5 < (s_0.length:Int))) then
  (idx s_0 to_5).bind fun c8 =>
  (qgj N (c8.toNat:Int)).bind fun r10 =>
  bif r10 then
   some (.inl (to_5 + 1))
  else
   some (.inr to_5)
 else
  some (.inr to_5)
def qfh (N:Nat) (s_0:List UInt8) (at_1:Int):Option Token :=
 (iter (fun s=>qfr N s_0 s) N at_1).bind fun o3 =>
 bif (decide (o3 > at_1)) then
  (slc s_0 at_1 o3).bind fun s15 =>
  some (Token.mk 9 s15 at_1 o3)
 else
  (idx s_0 at_1).bind fun c17 =>
  bif ((c17.toNat:Int) == 123) then
   some (Token.mk 2 ([123]) at_1 (IntKind.wrap .i64 (at_1 + 1)))
  else
   (idx s_0 at_1).bind fun c20 =>
   bif ((c20.toNat:Int) == 125) then
    some (Token.mk 3 ([125]) at_1 (IntKind.wrap .i64 (at_1 + 1)))
   else
    (idx s_0 at_1).bind fun c23 =>
    bif ((c23.toNat:Int) == 44) then
     some (Token.mk 8 ([44]) at_1 (IntKind.wrap .i64 (at_1 + 1)))
    else
     some (Token.mk 0 ([]) 0 0)
def qfU (N:Nat) (s_0:List UInt8) (at_4:Int):Option (Int ⊕ ((Int ⊕ Int))) :=
 bif (decide (at_4 < (s_0.length:Int))) then
  (idx s_0 at_4).bind fun c7 =>
  bif ((c7.toNat:Int) == 92) then
   bif (decide ((at_4 + 1) < (s_0.length:Int))) then
    (idx s_0 (at_4 + 1)).bind fun c11 =>
    (qbw N (c11.toNat:Int)).bind fun r13 =>
    bif r13 then
     some (.inl (IntKind.wrap .i64 (at_4 + 2)))
    else
     (idx s_0 at_4).bind fun c16 =>
     (qbw N (c16.toNat:Int)).bind fun r18 =>
     bif (!r18) then
      some (.inl (at_4 + 1))
     else
      some (.inr (.inr at_4))
   else
    (idx s_0 at_4).bind fun c21 =>
    (qbw N (c21.toNat:Int)).bind fun r23 =>
    bif (!r23) then
     some (.inl (at_4 + 1))
    else
     some (.inr (.inr at_4))
  else
   (idx s_0 at_4).bind fun c26 =>
   (qbw N (c26.toNat:Int)).bind fun r28 =>
   bif (!r28) then
    some (.inl (at_4 + 1))
   else
    some (.inr (.inr at_4))
 else
  some (.inr (.inl at_4))
def qgz (N:Nat) (s_0:List UInt8) (at_1:Int):Option Int :=
 (iter (fun s=>qfU N s_0 s) N at_1).bind fun o2 =>
 Sum.elim (fun o2 =>
  some o2)
 (fun o2 =>
  some o2) o2
def qfL (N:Nat) (s_0:List UInt8) (to_14:Int):Option (Int ⊕ Int) :=
 bif (decide (to_14 < (s_0.length:Int))) then
  (idx s_0 to_14).bind fun c17 =>
  (qc1 N (c17.toNat:Int)).bind fun r19 =>
  bif r19 then
   some (.inl (to_14 + 1))
  else
   some (.inr to_14)
 else
  some (.inr to_14)
def qfW (N:Nat) (s_0:List UInt8) (to_69:Int):Option (Int ⊕ Int) :=
 bif (decide (to_69 < (s_0.length:Int))) then
  (idx s_0 to_69).bind fun c72 =>
  (qc1 N (c72.toNat:Int)).bind fun r74 =>
  bif r74 then
   some (.inl (to_69 + 1))
  else
   some (.inr to_69)
 else
  some (.inr to_69)
def qfD (N:Nat) (s_0:List UInt8) (at_1:Int):Option Token :=
 bif (decide ((IntKind.wrap .i64 (at_1 + 1)) < (s_0.length:Int))) then
  (idx s_0 (IntKind.wrap .i64 (at_1 + 1))).bind fun c3 =>
  (show Option (Int × Int) from
   bif ((c3.toNat:Int) == 47) then
    some (6,((IntKind.wrap .i64 (at_1 + 1)) + 1))
   else
    some (5,(IntKind.wrap .i64 (at_1 + 1)))).bind fun o5 =>
  (iter (fun s=>qfL N s_0 s) N o5.2).bind fun o12 =>
  (slc s_0 (min o5.2 (s_0.length:Int)) o12).bind fun s23 =>
  bif (o5.1 == 5) then
   bif (decide (o12 < (s_0.length:Int))) then
    (idx s_0 o12).bind fun c27 =>
    (show Option (Int × Int) from
     bif ((c27.toNat:Int) == 47) then
      some (7,(o12 + 1))
     else
      some (o5.1,o12)).bind fun o29 =>
    (idx s_0 at_1).bind fun c35 =>
    bif ((c35.toNat:Int) != 60) then
     some (Token.mk 0 ([]) 0 0)
    else
     (qaJ N s23).bind fun r38 =>
     bif (!r38) then
      some (Token.mk 0 ([]) 0 0)
     else
      bif (decide (o29.2 ≥ (s_0.length:Int))) then
       some (Token.mk 0 ([]) 0 0)
      else
       (idx s_0 o29.2).bind fun c42 =>
       bif ((c42.toNat:Int) != 62) then
        some (Token.mk 0 ([]) 0 0)
       else
        some (Token.mk o29.1 s23 at_1 (IntKind.wrap .i64 (o29.2 + 1)))
   else
    (idx s_0 at_1).bind fun c45 =>
    bif ((c45.toNat:Int) != 60) then
     some (Token.mk 0 ([]) 0 0)
    else
     (qaJ N s23).bind fun r48 =>
     bif (!r48) then
      some (Token.mk 0 ([]) 0 0)
     else
      bif (decide (o12 ≥ (s_0.length:Int))) then
       some (Token.mk 0 ([]) 0 0)
      else
       (idx s_0 o12).bind fun c52 =>
       bif ((c52.toNat:Int) != 62) then
        some (Token.mk 0 ([]) 0 0)
       else
        some (Token.mk o5.1 s23 at_1 (IntKind.wrap .i64 (o12 + 1)))
  else
   (idx s_0 at_1).bind fun c55 =>
   bif ((c55.toNat:Int) != 60) then
    some (Token.mk 0 ([]) 0 0)
   else
    (qaJ N s23).bind fun r58 =>
    bif (!r58) then
     some (Token.mk 0 ([]) 0 0)
    else
     bif (decide (o12 ≥ (s_0.length:Int))) then
      some (Token.mk 0 ([]) 0 0)
     else
      (idx s_0 o12).bind fun c62 =>
      bif ((c62.toNat:Int) != 62) then
       some (Token.mk 0 ([]) 0 0)
      else
       some (Token.mk o5.1 s23 at_1 (IntKind.wrap .i64 (o12 + 1)))
 else
  (iter (fun s=>qfW N s_0 s) N (IntKind.wrap .i64 (at_1 + 1))).bind fun o67 =>
  (slc s_0 (min (IntKind.wrap .i64 (at_1 + 1)) (s_0.length:Int)) o67).bind fun s78 =>
  bif ((5:Int) == 5) then
   bif (decide (o67 < (s_0.length:Int))) then
    (idx s_0 o67).bind fun c82 =>
    (show Option (Int × Int) from
     bif ((c82.toNat:Int) == 47) then
      some (7,(o67 + 1))
     else
      some (5,o67)).bind fun o84 =>
    (idx s_0 at_1).bind fun c90 =>
    bif ((c90.toNat:Int) != 60) then
     some (Token.mk 0 ([]) 0 0)
    else
     (qaJ N s78).bind fun r93 =>
     bif (!r93) then
      some (Token.mk 0 ([]) 0 0)
     else
      bif (decide (o84.2 ≥ (s_0.length:Int))) then
       some (Token.mk 0 ([]) 0 0)
      else
       (idx s_0 o84.2).bind fun c97 =>
       bif ((c97.toNat:Int) != 62) then
        some (Token.mk 0 ([]) 0 0)
       else
        some (Token.mk o84.1 s78 at_1 (IntKind.wrap .i64 (o84.2 + 1)))
   else
    (idx s_0 at_1).bind fun c100 =>
    bif ((c100.toNat:Int) != 60) then
     some (Token.mk 0 ([]) 0 0)
    else
     (qaJ N s78).bind fun r103 =>
     bif (!r103) then
      some (Token.mk 0 ([]) 0 0)
     else
      bif (decide (o67 ≥ (s_0.length:Int))) then
       some (Token.mk 0 ([]) 0 0)
      else
       (idx s_0 o67).bind fun c107 =>
       bif ((c107.toNat:Int) != 62) then
        some (Token.mk 0 ([]) 0 0)
       else
        some (Token.mk 5 s78 at_1 (IntKind.wrap .i64 (o67 + 1)))
  else
   (idx s_0 at_1).bind fun c110 =>
   bif ((c110.toNat:Int) != 60) then
    some (Token.mk 0 ([]) 0 0)
   else
    (qaJ N s78).bind fun r113 =>
    bif (!r113) then
     some (Token.mk 0 ([]) 0 0)
    else
     bif (decide (o67 ≥ (s_0.length:Int))) then
      some (Token.mk 0 ([]) 0 0)
     else
      (idx s_0 o67).bind fun c117 =>
      bif ((c117.toNat:Int) != 62) then
       some (Token.mk 0 ([]) 0 0)
      else
       some (Token.mk 5 s78 at_1 (IntKind.wrap .i64 (o67 + 1)))
def qez (N:Nat) (s_0:List UInt8) (at_1:Int) (depth_2:Int):Option Token :=
 (qgz N s_0 at_1).bind fun r2 =>
 bif (decide (r2 > at_1)) then
  (slc s_0 at_1 r2).bind fun s6 =>
  some (Token.mk 1 s6 at_1 r2)
 else
  (idx s_0 at_1).bind fun c8 =>
  bif ((c8.toNat:Int) == 123) then
   some (Token.mk 2 ([123]) at_1 (IntKind.wrap .i64 (at_1 + 1)))
  else
   (idx s_0 at_1).bind fun c11 =>
   bif ((c11.toNat:Int) == 125) then
    bif (decide (depth_2 > 0)) then
     some (Token.mk 3 ([125]) at_1 (IntKind.wrap .i64 (at_1 + 1)))
    else
     (idx s_0 at_1).bind fun c15 =>
     bif ((c15.toNat:Int) == 35) then
      some (Token.mk 4 ([35]) at_1 (IntKind.wrap .i64 (at_1 + 1)))
     else
      (qfD N s_0 at_1).bind fun r18 =>
      some r18
   else
    (idx s_0 at_1).bind fun c27 =>
    bif ((c27.toNat:Int) == 35) then
     some (Token.mk 4 ([35]) at_1 (IntKind.wrap .i64 (at_1 + 1)))
    else
     (qfD N s_0 at_1).bind fun r30 =>
     some r30
def qft (N:Nat) (s_0:List UInt8) (out_18:List (Token)) (at_19:Int) (depth_20:Int):Option (((List (Token)) × Int × Int) ⊕ ((((List (Token)) × Int) ⊕ ((List (Token)) × Int × Int)))) :=
 bif (decide (at_19 < (s_0.length:Int))) then
  (rm depth_20 2).bind fun q28 =>
  bif (q28 == 1) then
   (idx s_0 at_19).bind fun c31 =>
   (qgo N (c31.toNat:Int)).bind fun r33 =>
   bif r33 then
    some (.inl (out_18,(at_19 + 1),depth_20))
   else
    (show Option Token from
     bif (q28 == 1) then
      (qfh N s_0 at_19).bind fun r44 =>
      some r44
     else
      (qez N s_0 at_19 depth_20).bind fun r53 =>
      some r53).bind fun o37 =>
    bif (o37.Kind == 0) then
     some (.inr (.inr ([],at_19,3)))
    else
     (show Option Int from
      bif (o37.Kind == 2) then
       some (IntKind.wrap .i64 (depth_20 + 1))
      else
       bif (o37.Kind == 3) then
        some (IntKind.wrap .i64 (depth_20 - 1))
       else
        some depth_20).bind fun o68 =>
     (app out_18 ([o37]:List (Token))).bind fun l76 =>
     some (.inl (l76,o37.To,o68))
  else
   (show Option Token from
    bif (q28 == 1) then
     (qfh N s_0 at_19).bind fun r89 =>
     some r89
    else
     (qez N s_0 at_19 depth_20).bind fun r98 =>
     some r98).bind fun o82 =>
   bif (o82.Kind == 0) then
    some (.inr (.inr ([],at_19,3)))
   else
    (show Option Int from
     bif (o82.Kind == 2) then
      some (IntKind.wrap .i64 (depth_20 + 1))
     else
      bif (o82.Kind == 3) then
       some (IntKind.wrap .i64 (depth_20 - 1))
      else
       some depth_20).bind fun o113 =>
    (app out_18 ([o82]:List (Token))).bind fun l121 =>
    some (.inl (l121,o82.To,o113))
 else
  some (.inr (.inl (out_18,depth_20)))
def qf5 (N:Nat) (s_0:List UInt8):Option ((List (Token)) × Int × Int) :=
 bif (decide ((s_0.length:Int) > 4000)) then
  some ([],4000,6)
 else
  (iter (fun s=>qft N s_0 s.1 s.2.1 s.2.2) N ([],0,0)).bind fun o11 =>
  Sum.elim (fun o11 =>
   bif (decide (o11.2 > 0)) then
    some ([],(s_0.length:Int),3)
   else
    some (o11.1,0,0))
  (fun o11 =>
   some o11) o11
end Go.Proofs.YtllnjbnknjpbjaaGreatDoor
namespace Go.Proofs.YtllnjbnknjpbjaaGreatDoor
open Go.X
def qaF (_N:Nat) (x0:State):Option Token :=
 bif ((x0.left.length:Int) == 0) then
  (show Option Token from
   some (Token.mk 0 ([]) x0.end_ x0.end_)).bind fun o11 =>
  some o11
 else
  (idx x0.left 0).bind fun x20 =>
  some x20
def qba (N:Nat) (e_1:Int) (x0:State):Option State :=
 bif (x0.e == 0) then
  (qaF N x0).bind fun r18 =>
  some (State.mk x0.left x0.end_ x0.names r18.From e_1)
 else
  some x0
def qe4 (N:Nat) (s_0:List UInt8) (out_13:List (Int)) (i_14:Int):Option (((List (Int)) × Int) ⊕ ((((List (Int))) ⊕ ((List UInt8) × Int × Int)))) :=
 bif (decide (i_14 < (s_0.length:Int))) then
  (idx s_0 i_14).bind fun c20 =>
  bif ((c20.toNat:Int) == 92) then
   bif (decide ((i_14 + 1) < (s_0.length:Int))) then
    (idx s_0 (i_14 + 1)).bind fun c24 =>
    (qbw N (c24.toNat:Int)).bind fun r26 =>
    (show Option (Int ⊕ ((List UInt8) × Int × Int)) from
     bif r26 then
      some (.inl (i_14 + 1))
     else
      (idx s_0 i_14).bind fun c33 =>
      (qbw N (c33.toNat:Int)).bind fun r35 =>
      bif r35 then
       some (.inr ([],i_14,3))
      else
       some (.inl i_14)).bind fun o28 =>
    Sum.elim (fun o28 =>
     (idx s_0 o28).bind fun c39 =>
     (app out_13 ([(c39.toNat:Int)]:List (Int))).bind fun l44 =>
     some (.inl (l44,(IntKind.wrap .i64 (o28 + 1)))))
    (fun o28 =>
     some (.inr (.inr o28))) o28
   else
    (idx s_0 i_14).bind fun c49 =>
    (qbw N (c49.toNat:Int)).bind fun r51 =>
    bif r51 then
     some (.inr (.inr ([],i_14,3)))
    else
     (idx s_0 i_14).bind fun c54 =>
     (app out_13 ([(c54.toNat:Int)]:List (Int))).bind fun l59 =>
     some (.inl (l59,(i_14 + 1)))
  else
   (idx s_0 i_14).bind fun c64 =>
   (qbw N (c64.toNat:Int)).bind fun r66 =>
   bif r66 then
    some (.inr (.inr ([],i_14,3)))
   else
    (idx s_0 i_14).bind fun c69 =>
    (app out_13 ([(c69.toNat:Int)]:List (Int))).bind fun l74 =>
    some (.inl (l74,(i_14 + 1)))
 else
  some (.inr (.inl out_13))
def qfB (N:Nat) (s_0:List UInt8):Option ((List UInt8) × Int × Int) :=
 (iter (fun s=>qe4 N s_0 s.1 s.2) N ([],0)).bind fun o8 =>
 Sum.elim (fun o8 =>
  some ((qch o8),0,0))
 (fun o8 =>
  some o8) o8
def qax (N:Nat) (kind_1:Int) (x0:State):Option ((List UInt8) × State) :=
 (qaF N x0).bind fun r17 =>
 (show Option State from
  bif (r17.Kind != kind_1) then
   (qba N 3 x0).bind fun r38 =>
   some r38
  else
   some x0).bind fun o27 =>
 bif (o27.e != 0) then
  some ([],o27)
 else
  (slc o27.left 1 (o27.left.length:Int)).bind fun l59 =>
  some (r17.Text,(State.mk l59 o27.end_ o27.names o27.at_ o27.e))
def qcv (N:Nat) (depth_1:Int) (x0:State):Option State :=
 bif (decide (depth_1 > 8)) then
  (qba N 6 x0).bind fun r18 =>
  some r18
 else
  some x0
def qaB (N:Nat) (ok_1:Bool) (x0:State):Option ((List UInt8) × State) :=
 (qaF N x0).bind fun r17 =>
 bif (r17.Kind != 9) then
  (qba N 3 x0).bind fun r27 =>
  (qax N 9 r27).bind fun r38 =>
  some (r38.1,r38.2)
 else
  bif (!ok_1) then
   (qba N 3 x0).bind fun r51 =>
   (qax N 9 r51).bind fun r62 =>
   some (r62.1,r62.2)
  else
   (qax N 9 x0).bind fun r74 =>
   some (r74.1,r74.2)
def qfm (N:Nat) (x0:State):Option ((List UInt8) × State) :=
 (qaF N x0).bind fun r17 =>
 (qaF N x0).bind fun r26 =>
 bif (r26.Kind == 9) then
  (qaJ N r17.Text).bind fun r36 =>
  bif r36 then
   (qbJ N x0.names r17.Text).bind fun r44 =>
   (show Option State from
    bif (!r44) then
     (show Option State from
      bif (decide ((x0.names.length:Int) ≥ 20)) then
       (qba N 6 x0).bind fun r68 =>
       some r68
      else
       some x0).bind fun o57 =>
     (app o57.names ([r17.Text]:List (List UInt8))).bind fun l91 =>
     some (State.mk o57.left o57.end_ l91 o57.at_ o57.e)
    else
     some x0).bind fun o46 =>
   (qaJ N r17.Text).bind fun r105 =>
   (qaB N r105 o46).bind fun r107 =>
   some (r107.1,r107.2)
  else
   (qaJ N r17.Text).bind fun r119 =>
   (qaB N r119 x0).bind fun r121 =>
   some (r121.1,r121.2)
 else
  (qaJ N r17.Text).bind fun r133 =>
  (qaB N r133 x0).bind fun r135 =>
  some (r135.1,r135.2)
def qfS (_N:Nat) (word_0:List UInt8) (i_7:Int):Option (Int ⊕ ((Unit ⊕ Int))) :=
 bif (decide (i_7 < (([[110,117,109,98,101,114],[117,110,105,116],[100,97,116,101],[108,105,115,116],[112,108,117,114,97,108],[111,114,100,105,110,97,108],[115,101,108,101,99,116]]:List (List UInt8)).length:Int))) then
  (idx ([[110,117,109,98,101,114],[117,110,105,116],[100,97,116,101],[108,105,115,116],[112,108,117,114,97,108],[111,114,100,105,110,97,108],[115,101,108,101,99,116]]:List (List UInt8)) i_7).bind fun x10 =>
  bif (x10 == word_0) then
   some (.inr (.inr (IntKind.wrap .i64 ((3:Int) + i_7))))
  else
   some (.inl (i_7 + 1))
 else
  some (.inr (.inl ()))
def qgx (N:Nat) (word_0:List UInt8):Option Int :=
 (iter (fun s=>qfS N word_0 s) N 0).bind fun o5 =>
 Sum.elim (fun _o5 =>
  some 0)
 (fun o5 =>
  some o5) o5
end Go.Proofs.YtllnjbnknjpbjaaGreatDoor
namespace Go.Proofs.YtllnjbnknjpbjaaGreatDoor
open Go.X
def qeg (r_calqueref26_state_message:Int → Bool → State → Option ((List (Part)) × State)) (r_calqueref26_state_argument:Int → Bool → State → Option (Part × State)) (r_calqueref26_state_use:Int → Bool → State → Part → Option (State × Part)) (r_calqueref26_state_cases:Int → Bool → State → Part → Option (State × Part)) (N:Nat) (depth_1:Int) (counted_2:Bool) (out_43:List (Part)) (x_44:State):Option (((List (Part)) × State) ⊕ ((State ⊕ ((List (Part)) × State)))) :=
 bif (x_44.e == 0) then
  (qaF N x_44).bind fun r58 =>
  bif (r58.Kind == 1) then
   (qax N r58.Kind x_44).bind fun r69 =>
   (qfB N r69.1).bind fun r81 =>
   (app out_43 ([(Part.mk 1 r81.1 ([]) ([]) ([]) ([]))]:List (Part))).bind fun l89 =>
   some (.inl (l89,r69.2))
  else
   bif (r58.Kind == 4) then
    bif counted_2 then
     (qax N r58.Kind x_44).bind fun r96 =>
     (app out_43 ([(Part.mk 10 ([]) ([]) ([]) ([]) ([]))]:List (Part))).bind fun l111 =>
     some (.inl (l111,r96.2))
    else
     bif (r58.Kind == 7) then
      (qcv N depth_1 x_44).bind fun r117 =>
      (qax N r58.Kind r117).bind fun r128 =>
      (app out_43 ([(Part.mk 11 ([]) r128.1 ([]) ([]) ([]))]:List (Part))).bind fun l143 =>
      some (.inl (l143,r128.2))
     else
      bif (r58.Kind == 5) then
       (qcv N depth_1 x_44).bind fun r149 =>
       (qax N r58.Kind r149).bind fun r160 =>
       (r_calqueref26_state_message (IntKind.wrap .i64 (depth_1 + 1)) counted_2 r160.2).bind fun r173 =>
       (show Option Bool from
        (qaF N r173.2).bind fun r188 =>
        bif (r188.Kind == 6) then
         (qaF N r173.2).bind fun r198 =>
         some (r198.Text != r160.1)
        else
         some false).bind fun o186 =>
       (show Option State from
        bif o186 then
         (qba N 3 r173.2).bind fun r240 =>
         some r240
        else
         some r173.2).bind fun o229 =>
       (qax N 6 o229).bind fun r260 =>
       (app out_43 ([(Part.mk 11 ([]) r160.1 ([]) ([]) r173.1)]:List (Part))).bind fun l275 =>
       some (.inl (l275,r260.2))
      else
       bif (r58.Kind == 2) then
        (r_calqueref26_state_argument depth_1 counted_2 x_44).bind fun r281 =>
        (app out_43 ([r281.1]:List (Part))).bind fun l305 =>
        some (.inl (l305,r281.2))
       else
        some (.inr (.inr (out_43,x_44)))
   else
    bif (r58.Kind == 7) then
     (qcv N depth_1 x_44).bind fun r313 =>
     (qax N r58.Kind r313).bind fun r324 =>
     (app out_43 ([(Part.mk 11 ([]) r324.1 ([]) ([]) ([]))]:List (Part))).bind fun l339 =>
     some (.inl (l339,r324.2))
    else
     bif (r58.Kind == 5) then
      (qcv N depth_1 x_44).bind fun r345 =>
      (qax N r58.Kind r345).bind fun r356 =>
      (r_calqueref26_state_message (IntKind.wrap .i64 (depth_1 + 1)) counted_2 r356.2).bind fun r369 =>
      (show Option Bool from
       (qaF N r369.2).bind fun r384 =>
       bif (r384.Kind == 6) then
        (qaF N r369.2).bind fun r394 =>
        some (r394.Text != r356.1)
       else
        some false).bind fun o382 =>
      (show Option State from
       bif o382 then
        (qba N 3 r369.2).bind fun r436 =>
        some r436
       else
        some r369.2).bind fun o425 =>
      (qax N 6 o425).bind fun r456 =>
      (app out_43 ([(Part.mk 11 ([]) r356.1 ([]) ([]) r369.1)]:List (Part))).bind fun l471 =>
      some (.inl (l471,r456.2))
     else
      bif (r58.Kind == 2) then
       (r_calqueref26_state_argument depth_1 counted_2 x_44).bind fun r477 =>
       (app out_43 ([r477.1]:List (Part))).bind fun l501 =>
       some (.inl (l501,r477.2))
      else
       some (.inr (.inr (out_43,x_44)))
 else
  some (.inr (.inl x_44))
def qdX (r_calqueref26_state_message:Int → Bool → State → Option ((List (Part)) × State)) (r_calqueref26_state_argument:Int → Bool → State → Option (Part × State)) (r_calqueref26_state_use:Int → Bool → State → Part → Option (State × Part)) (r_calqueref26_state_cases:Int → Bool → State → Part → Option (State × Part)) (N:Nat) (depth_1:Int) (counted_2:Bool) (x0:State):Option ((List (Part)) × State) :=
 (iter (fun s=>qeg r_calqueref26_state_message r_calqueref26_state_argument r_calqueref26_state_use r_calqueref26_state_cases N depth_1 counted_2 s.1 s.2) N ([],x0)).bind fun o30 =>
 Sum.elim (fun o30 =>
  some ([],o30))
 (fun o30 =>
  some o30) o30
def qdS (r_calqueref26_state_message:Int → Bool → State → Option ((List (Part)) × State)) (r_calqueref26_state_argument:Int → Bool → State → Option (Part × State)) (r_calqueref26_state_use:Int → Bool → State → Part → Option (State × Part)) (r_calqueref26_state_cases:Int → Bool → State → Part → Option (State × Part)) (N:Nat) (depth_1:Int) (counted_2:Bool) (x0:State):Option (Part × State) :=
 (qax N 2 x0).bind fun r18 =>
 (qfm N r18.2).bind fun r30 =>
 bif (r30.2.e == 0) then
  (qaF N r30.2).bind fun r44 =>
  bif (r44.Kind == 8) then
   (qax N 8 r30.2).bind fun r54 =>
   (r_calqueref26_state_use depth_1 counted_2 r54.2 (Part.mk 2 ([]) r30.1 ([]) ([]) ([]))).bind fun r70 =>
   (qax N 3 r70.1).bind fun r91 =>
   some (r70.2,r91.2)
  else
   (qax N 3 r30.2).bind fun r107 =>
   some ((Part.mk 2 ([]) r30.1 ([]) ([]) ([])),r107.2)
 else
  (qax N 3 r30.2).bind fun r119 =>
  some ((Part.mk 2 ([]) r30.1 ([]) ([]) ([])),r119.2)
def qeF (r_calqueref26_state_message:Int → Bool → State → Option ((List (Part)) × State)) (r_calqueref26_state_argument:Int → Bool → State → Option (Part × State)) (r_calqueref26_state_use:Int → Bool → State → Part → Option (State × Part)) (r_calqueref26_state_cases:Int → Bool → State → Part → Option (State × Part)) (N:Nat) (depth_2:Int) (counted_3:Bool) (x0:State) (x1:Part):Option (State × Part) :=
 (qaF N x0).bind fun r37 =>
 (qgx N r37.Text).bind fun r46 =>
 (qaF N x0).bind fun r49 =>
 bif (r49.Kind == 9) then
  (qbp N r46).bind fun r59 =>
  (show Option State from
   bif r59 then
    (qcv N depth_2 x0).bind fun r72 =>
    some r72
   else
    some x0).bind fun o61 =>
  (qaB N (r46 != 0) o61).bind fun r92 =>
  bif (r92.2.e != 0) then
   some (r92.2,(Part.mk r46 x1.Text x1.Name x1.Style x1.Cases x1.Parts))
  else
   bif (r46 == 3) then
    (qaF N r92.2).bind fun r106 =>
    bif (r106.Kind != 8) then
     some (r92.2,(Part.mk r46 x1.Text x1.Name x1.Style x1.Cases x1.Parts))
    else
     (qax N 8 r92.2).bind fun r116 =>
     (qaF N r116.2).bind fun r128 =>
     bif (r46 == 3) then
      bif (r128.Text == ([105,110,116,101,103,101,114])) then
       (qaB N true r116.2).bind fun r139 =>
       some (r139.2,(Part.mk r46 x1.Text x1.Name r139.1 x1.Cases x1.Parts))
      else
       (qaB N (r128.Text == ([112,101,114,99,101,110,116])) r116.2).bind fun r151 =>
       some (r151.2,(Part.mk r46 x1.Text x1.Name r151.1 x1.Cases x1.Parts))
     else
      bif (r46 == 5) then
       (qcb N r128.Text).bind fun r164 =>
       (qaB N r164 r116.2).bind fun r166 =>
       some (r166.2,(Part.mk r46 x1.Text x1.Name r166.1 x1.Cases x1.Parts))
      else
       (show Option Bool from
        bif (r46 == 4) then
         some (r46 == 4)
        else
         some (r46 == 6)).bind fun o178 =>
       bif o178 then
        (qaJ N r128.Text).bind fun r181 =>
        (qaB N r181 r116.2).bind fun r183 =>
        some (r183.2,(Part.mk r46 x1.Text x1.Name r183.1 x1.Cases x1.Parts))
       else
        bif counted_3 then
         (r_calqueref26_state_cases depth_2 true r116.2 (Part.mk r46 x1.Text x1.Name x1.Style x1.Cases x1.Parts)).bind fun r196 =>
         some (r196.1,r196.2)
        else
         (qbD N r46).bind fun r217 =>
         (r_calqueref26_state_cases depth_2 r217 r116.2 (Part.mk r46 x1.Text x1.Name x1.Style x1.Cases x1.Parts)).bind fun r219 =>
         some (r219.1,r219.2)
   else
    (qax N 8 r92.2).bind fun r240 =>
    (qaF N r240.2).bind fun r252 =>
    bif (r46 == 3) then
     bif (r252.Text == ([105,110,116,101,103,101,114])) then
      (qaB N true r240.2).bind fun r263 =>
      some (r263.2,(Part.mk r46 x1.Text x1.Name r263.1 x1.Cases x1.Parts))
     else
      (qaB N (r252.Text == ([112,101,114,99,101,110,116])) r240.2).bind fun r275 =>
      some (r275.2,(Part.mk r46 x1.Text x1.Name r275.1 x1.Cases x1.Parts))
    else
     bif (r46 == 5) then
      (qcb N r252.Text).bind fun r288 =>
      (qaB N r288 r240.2).bind fun r290 =>
      some (r290.2,(Part.mk r46 x1.Text x1.Name r290.1 x1.Cases x1.Parts))
     else
      (show Option Bool from
       bif (r46 == 4) then
        some (r46 == 4)
       else
        some (r46 == 6)).bind fun o302 =>
      bif o302 then
       (qaJ N r252.Text).bind fun r305 =>
       (qaB N r305 r240.2).bind fun r307 =>
       some (r307.2,(Part.mk r46 x1.Text x1.Name r307.1 x1.Cases x1.Parts))
      else
       bif counted_3 then
        (r_calqueref26_state_cases depth_2 true r240.2 (Part.mk r46 x1.Text x1.Name x1.Style x1.Cases x1.Parts)).bind fun r320 =>
        some (r320.1,r320.2)
       else
        (qbD N r46).bind fun r341 =>
        (r_calqueref26_state_cases depth_2 r341 r240.2 (Part.mk r46 x1.Text x1.Name x1.Style x1.Cases x1.Parts)).bind fun r343 =>
        some (r343.1,r343.2)
 else
  (qaB N (r46 != 0) x0).bind fun r364 =>
  bif (r364.2.e != 0) then
   some (r364.2,(Part.mk r46 x1.Text x1.Name x1.Style x1.Cases x1.Parts))
  else
   bif (r46 == 3) then
    (qaF N r364.2).bind fun r378 =>
    bif (r378.Kind != 8) then
     some (r364.2,(Part.mk r46 x1.Text x1.Name x1.Style x1.Cases x1.Parts))
    else
     (qax N 8 r364.2).bind fun r388 =>
     (qaF N r388.2).bind fun r400 =>
     bif (r46 == 3) then
      bif (r400.Text == ([105,110,116,101,103,101,114])) then
       (qaB N true r388.2).bind fun r411 =>
       some (r411.2,(Part.mk r46 x1.Text x1.Name r411.1 x1.Cases x1.Parts))
      else
       (qaB N (r400.Text == ([112,101,114,99,101,110,116])) r388.2).bind fun r423 =>
       some (r423.2,(Part.mk r46 x1.Text x1.Name r423.1 x1.Cases x1.Parts))
     else
      bif (r46 == 5) then
       (qcb N r400.Text).bind fun r436 =>
       (qaB N r436 r388.2).bind fun r438 =>
       some (r438.2,(Part.mk r46 x1.Text x1.Name r438.1 x1.Cases x1.Parts))
      else
       (show Option Bool from
        bif (r46 == 4) then
         some (r46 == 4)
        else
         some (r46 == 6)).bind fun o450 =>
       bif o450 then
        (qaJ N r400.Text).bind fun r453 =>
        (qaB N r453 r388.2).bind fun r455 =>
        some (r455.2,(Part.mk r46 x1.Text x1.Name r455.1 x1.Cases x1.Parts))
       else
        bif counted_3 then
         (r_calqueref26_state_cases depth_2 true r388.2 (Part.mk r46 x1.Text x1.Name x1.Style x1.Cases x1.Parts)).bind fun r468 =>
         some (r468.1,r468.2)
        else
         (qbD N r46).bind fun r489 =>
         (r_calqueref26_state_cases depth_2 r489 r388.2 (Part.mk r46 x1.Text x1.Name x1.Style x1.Cases x1.Parts)).bind fun r491 =>
         some (r491.1,r491.2)
   else
    (qax N 8 r364.2).bind fun r512 =>
    (qaF N r512.2).bind fun r524 =>
    bif (r46 == 3) then
     bif (r524.Text == ([105,110,116,101,103,101,114])) then
      (qaB N true r512.2).bind fun r535 =>
      some (r535.2,(Part.mk r46 x1.Text x1.Name r535.1 x1.Cases x1.Parts))
     else
      (qaB N (r524.Text == ([112,101,114,99,101,110,116])) r512.2).bind fun r547 =>
      some (r547.2,(Part.mk r46 x1.Text x1.Name r547.1 x1.Cases x1.Parts))
    else
     bif (r46 == 5) then
      (qcb N r524.Text).bind fun r560 =>
      (qaB N r560 r512.2).bind fun r562 =>
      some (r562.2,(Part.mk r46 x1.Text x1.Name r562.1 x1.Cases x1.Parts))
     else
      (show Option Bool from
       bif (r46 == 4) then
        some (r46 == 4)
       else
        some (r46 == 6)).bind fun o574 =>
      bif o574 then
       (qaJ N r524.Text).bind fun r577 =>
       (qaB N r577 r512.2).bind fun r579 =>
       some (r579.2,(Part.mk r46 x1.Text x1.Name r579.1 x1.Cases x1.Parts))
      else
       bif counted_3 then
        (r_calqueref26_state_cases depth_2 true r512.2 (Part.mk r46 x1.Text x1.Name x1.Style x1.Cases x1.Parts)).bind fun r592 =>
        some (r592.1,r592.2)
       else
        (qbD N r46).bind fun r613 =>
        (r_calqueref26_state_cases depth_2 r613 r512.2 (Part.mk r46 x1.Text x1.Name x1.Style x1.Cases x1.Parts)).bind fun r615 =>
        some (r615.1,r615.2)
def qeD (r_calqueref26_state_message:Int → Bool → State → Option ((List (Part)) × State)) (r_calqueref26_state_argument:Int → Bool → State → Option (Part × State)) (r_calqueref26_state_use:Int → Bool → State → Part → Option (State × Part)) (r_calqueref26_state_cases:Int → Bool → State → Part → Option (State × Part)) (N:Nat) (depth_2:Int) (counted_3:Bool) (keys_83:List (List UInt8)) (x_84:State) (x_85:Part):Option (((List (List UInt8)) × State × Part) ⊕ ((State × Part × (List (List UInt8))))) :=
 bif (x_84.e == 0) then
  bif ((keys_83.length:Int) == 0) then
   (qaF N x_84).bind fun r110 =>
   bif (r110.Kind == 9) then
    (qbY N x_85.Kind r110.Text).bind fun r121 =>
    (show Option State from
     bif r121 then
      (show Option State from
       bif (decide ((keys_83.length:Int) ≥ 20)) then
        (qba N 6 x_84).bind fun r145 =>
        some r145
       else
        some x_84).bind fun o134 =>
      (qbJ N keys_83 r110.Text).bind fun r170 =>
      bif r170 then
       (qba N 9 o134).bind fun r173 =>
       some r173
      else
       some o134
     else
      some x_84).bind fun o123 =>
    (show Option ((List UInt8) × State) from
     (qbY N x_85.Kind r110.Text).bind fun r204 =>
     (qaB N r204 o123).bind fun r206 =>
     some (r206.1,r206.2)).bind fun o193 =>
    (app keys_83 ([o193.1]:List (List UInt8))).bind fun l241 =>
    (qax N 2 o193.2).bind fun r246 =>
    (r_calqueref26_state_message (IntKind.wrap .i64 (depth_2 + 1)) counted_3 r246.2).bind fun r258 =>
    (qax N 3 r258.2).bind fun r271 =>
    (app x_85.Cases ([(Case.mk o193.1 r258.1)]:List (Case))).bind fun l286 =>
    some (.inl (l241,r271.2,(Part.mk x_85.Kind x_85.Text x_85.Name x_85.Style l286 x_85.Parts)))
   else
    (show Option ((List UInt8) × State) from
     (qbY N x_85.Kind r110.Text).bind fun r302 =>
     (qaB N r302 x_84).bind fun r304 =>
     some (r304.1,r304.2)).bind fun o291 =>
    (app keys_83 ([o291.1]:List (List UInt8))).bind fun l339 =>
    (qax N 2 o291.2).bind fun r344 =>
    (r_calqueref26_state_message (IntKind.wrap .i64 (depth_2 + 1)) counted_3 r344.2).bind fun r356 =>
    (qax N 3 r356.2).bind fun r369 =>
    (app x_85.Cases ([(Case.mk o291.1 r356.1)]:List (Case))).bind fun l384 =>
    some (.inl (l339,r369.2,(Part.mk x_85.Kind x_85.Text x_85.Name x_85.Style l384 x_85.Parts)))
  else
   (qaF N x_84).bind fun r389 =>
   bif (r389.Kind != 3) then
    (qaF N x_84).bind fun r399 =>
    bif (r399.Kind == 9) then
     (qbY N x_85.Kind r399.Text).bind fun r410 =>
     (show Option State from
      bif r410 then
       (show Option State from
        bif (decide ((keys_83.length:Int) ≥ 20)) then
         (qba N 6 x_84).bind fun r434 =>
         some r434
        else
         some x_84).bind fun o423 =>
       (qbJ N keys_83 r399.Text).bind fun r459 =>
       bif r459 then
        (qba N 9 o423).bind fun r462 =>
        some r462
       else
        some o423
      else
       some x_84).bind fun o412 =>
     (show Option ((List UInt8) × State) from
      (qbY N x_85.Kind r399.Text).bind fun r493 =>
      (qaB N r493 o412).bind fun r495 =>
      some (r495.1,r495.2)).bind fun o482 =>
     (app keys_83 ([o482.1]:List (List UInt8))).bind fun l530 =>
     (qax N 2 o482.2).bind fun r535 =>
     (r_calqueref26_state_message (IntKind.wrap .i64 (depth_2 + 1)) counted_3 r535.2).bind fun r547 =>
     (qax N 3 r547.2).bind fun r560 =>
     (app x_85.Cases ([(Case.mk o482.1 r547.1)]:List (Case))).bind fun l575 =>
     some (.inl (l530,r560.2,(Part.mk x_85.Kind x_85.Text x_85.Name x_85.Style l575 x_85.Parts)))
    else
     (show Option ((List UInt8) × State) from
      (qbY N x_85.Kind r399.Text).bind fun r591 =>
      (qaB N r591 x_84).bind fun r593 =>
      some (r593.1,r593.2)).bind fun o580 =>
     (app keys_83 ([o580.1]:List (List UInt8))).bind fun l628 =>
     (qax N 2 o580.2).bind fun r633 =>
     (r_calqueref26_state_message (IntKind.wrap .i64 (depth_2 + 1)) counted_3 r633.2).bind fun r645 =>
     (qax N 3 r645.2).bind fun r658 =>
     (app x_85.Cases ([(Case.mk o580.1 r645.1)]:List (Case))).bind fun l673 =>
     some (.inl (l628,r658.2,(Part.mk x_85.Kind x_85.Text x_85.Name x_85.Style l673 x_85.Parts)))
   else
    some (.inr (x_84,x_85,keys_83))
 else
  some (.inr (x_84,x_85,keys_83))
def qei (r_calqueref26_state_message:Int → Bool → State → Option ((List (Part)) × State)) (r_calqueref26_state_argument:Int → Bool → State → Option (Part × State)) (r_calqueref26_state_use:Int → Bool → State → Part → Option (State × Part)) (r_calqueref26_state_cases:Int → Bool → State → Part → Option (State × Part)) (N:Nat) (depth_2:Int) (counted_3:Bool) (x0:State) (x1:Part):Option (State × Part) :=
 (iter (fun s=>qeD r_calqueref26_state_message r_calqueref26_state_argument r_calqueref26_state_use r_calqueref26_state_cases N depth_2 counted_3 s.1 s.2.1 s.2.2) N ([],x0,x1)).bind fun o60 =>
 bif (o60.1.e == 0) then
  (qbJ N o60.2.2 ([111,116,104,101,114])).bind fun r706 =>
  bif (!r706) then
   (qba N 13 o60.1).bind fun r709 =>
   some (r709,o60.2.1)
  else
   some (o60.1,o60.2.1)
 else
  some (o60.1,o60.2.1)
def qaD:Nat → (Int → Bool → State → Option ((List (Part)) × State)) × (Int → Bool → State → Option (Part × State)) × (Int → Bool → State → Part → Option (State × Part)) × (Int → Bool → State → Part → Option (State × Part))
 | 0=>(fun _ _ _=>none,fun _ _ _=>none,fun _ _ _ _=>none,fun _ _ _ _=>none)
 | N + 1=>(qdX (qaD N).1 (qaD N).2.1 (qaD N).2.2.1 (qaD N).2.2.2 N,qdS (qaD N).1 (qaD N).2.1 (qaD N).2.2.1 (qaD N).2.2.2 N,qeF (qaD N).1 (qaD N).2.1 (qaD N).2.2.1 (qaD N).2.2.2 N,qei (qaD N).1 (qaD N).2.1 (qaD N).2.2.1 (qaD N).2.2.2 N)
def qbB (N:Nat):Int → Bool → State → Option ((List (Part)) × State):=(qaD N).1
def qb0 (N:Nat):Int → Bool → State → Option (Part × State):=(qaD N).2.1
def qcH (N:Nat):Int → Bool → State → Part → Option (State × Part):=(qaD N).2.2.1
def qco (N:Nat):Int → Bool → State → Part → Option (State × Part):=(qaD N).2.2.2
end Go.Proofs.YtllnjbnknjpbjaaGreatDoor
namespace Go.Proofs.YtllnjbnknjpbjaaGreatDoor
open Go.X
def qeK (_N:Nat) (n_0:Int):Option Bool :=
 bif (decide (n_0 ≥ 0)) then
  bif (decide (n_0 ≤ 1114111)) then
   bif (decide (n_0 < 55296)) then
    some true
   else
    some (decide (n_0 > 57343))
  else
   some false
 else
  some false
def qfg (_N:Nat) (n_0:Int):Option (List UInt8) :=
 bif (decide (n_0 < 128)) then
  some (qch ([(IntKind.wrap .u8 n_0)]:List (Int)))
 else
  bif (decide (n_0 < 2048)) then
   (rm n_0 64).bind fun q6 =>
   some (qch ([(IntKind.wrap .u8 (IntKind.wrap .i64 ((192:Int) + (IntKind.wrap .i64 (n_0.tdiv 64))))),(IntKind.wrap .u8 (IntKind.wrap .i64 ((128:Int) + q6)))]:List (Int)))
  else
   bif (decide (n_0 < 65536)) then
    (rm (IntKind.wrap .i64 (n_0.tdiv 64)) 64).bind fun q12 =>
    (rm n_0 64).bind fun q14 =>
    some (qch ([(IntKind.wrap .u8 (IntKind.wrap .i64 ((224:Int) + (IntKind.wrap .i64 (n_0.tdiv 4096))))),(IntKind.wrap .u8 (IntKind.wrap .i64 ((128:Int) + q12))),(IntKind.wrap .u8 (IntKind.wrap .i64 ((128:Int) + q14)))]:List (Int)))
   else
    (rm (IntKind.wrap .i64 (n_0.tdiv 4096)) 64).bind fun q19 =>
    (rm (IntKind.wrap .i64 (n_0.tdiv 64)) 64).bind fun q21 =>
    (rm n_0 64).bind fun q23 =>
    some (qch ([(IntKind.wrap .u8 (IntKind.wrap .i64 ((240:Int) + (IntKind.wrap .i64 (n_0.tdiv 262144))))),(IntKind.wrap .u8 (IntKind.wrap .i64 ((128:Int) + q19))),(IntKind.wrap .u8 (IntKind.wrap .i64 ((128:Int) + q21))),(IntKind.wrap .u8 (IntKind.wrap .i64 ((128:Int) + q23)))]:List (Int)))
def qfK (_N:Nat) (s_0:List UInt8) (o5:Int × Int) (n_25:Int) (i_26:Int):Option ((Int × Int) ⊕ ((Int ⊕ (Int × Int)))) :=
 bif (decide (i_26 < o5.2)) then
  (idx s_0 i_26).bind fun c30 =>
  bif (decide ((c30.toNat:Int) < 128)) then
   some (.inr (.inr (65533,1)))
  else
   (idx s_0 i_26).bind fun c33 =>
   bif (decide ((c33.toNat:Int) > 191)) then
    some (.inr (.inr (65533,1)))
   else
    (idx s_0 i_26).bind fun c36 =>
    some (.inl ((IntKind.wrap .i64 ((IntKind.wrap .i64 ((IntKind.wrap .i64 ((64:Int) * n_25)) + (c36.toNat:Int))) - 128)),(i_26 + 1)))
 else
  some (.inr (.inl n_25))
def qfO (_N:Nat) (s_0:List UInt8) (o52:Int × Int) (n_68:Int) (i_69:Int):Option ((Int × Int) ⊕ ((Int ⊕ (Int × Int)))) :=
 bif (decide (i_69 < o52.2)) then
  (idx s_0 i_69).bind fun c73 =>
  bif (decide ((c73.toNat:Int) < 128)) then
   some (.inr (.inr (65533,1)))
  else
   (idx s_0 i_69).bind fun c76 =>
   bif (decide ((c76.toNat:Int) > 191)) then
    some (.inr (.inr (65533,1)))
   else
    (idx s_0 i_69).bind fun c79 =>
    some (.inl ((IntKind.wrap .i64 ((IntKind.wrap .i64 ((IntKind.wrap .i64 ((64:Int) * n_68)) + (c79.toNat:Int))) - 128)),(i_69 + 1)))
 else
  some (.inr (.inl n_68))
def qfT (_N:Nat) (s_0:List UInt8) (n_102:Int) (i_103:Int):Option ((Int × Int) ⊕ ((Int ⊕ (Int × Int)))) :=
 bif (decide (i_103 < 4)) then
  (idx s_0 i_103).bind fun c107 =>
  bif (decide ((c107.toNat:Int) < 128)) then
   some (.inr (.inr (65533,1)))
  else
   (idx s_0 i_103).bind fun c110 =>
   bif (decide ((c110.toNat:Int) > 191)) then
    some (.inr (.inr (65533,1)))
   else
    (idx s_0 i_103).bind fun c113 =>
    some (.inl ((IntKind.wrap .i64 ((IntKind.wrap .i64 ((IntKind.wrap .i64 ((64:Int) * n_102)) + (c113.toNat:Int))) - 128)),(i_103 + 1)))
 else
  some (.inr (.inl n_102))
def qgy (N:Nat) (s_0:List UInt8):Option (Int × Int) :=
 (idx s_0 0).bind fun c1 =>
 bif (decide ((c1.toNat:Int) < 128)) then
  some ((c1.toNat:Int),1)
 else
  bif (decide ((c1.toNat:Int) ≥ 192)) then
   (show Option ((Int × Int) ⊕ (Int × Int)) from
    bif (decide ((c1.toNat:Int) < 224)) then
     some (.inl ((IntKind.wrap .i64 ((c1.toNat:Int) - 192)),2))
    else
     bif (decide ((c1.toNat:Int) ≥ 224)) then
      bif (decide ((c1.toNat:Int) < 240)) then
       some (.inl ((IntKind.wrap .i64 ((c1.toNat:Int) - 224)),3))
      else
       bif (decide ((c1.toNat:Int) ≥ 240)) then
        bif (decide ((c1.toNat:Int) < 248)) then
         some (.inl ((IntKind.wrap .i64 ((c1.toNat:Int) - 240)),4))
        else
         some (.inr (65533,1))
       else
        some (.inr (65533,1))
     else
      bif (decide ((c1.toNat:Int) ≥ 240)) then
       bif (decide ((c1.toNat:Int) < 248)) then
        some (.inl ((IntKind.wrap .i64 ((c1.toNat:Int) - 240)),4))
       else
        some (.inr (65533,1))
      else
       some (.inr (65533,1))).bind fun o5 =>
   Sum.elim (fun o5 =>
    bif (decide (o5.2 > (s_0.length:Int))) then
     some (65533,1)
    else
     (iter (fun s=>qfK N s_0 o5 s.1 s.2) N (o5.1,1)).bind fun o22 =>
     Sum.elim (fun o22 =>
      (qeK N o22).bind fun r39 =>
      bif (!r39) then
       some (65533,1)
      else
       (qfg N o22).bind fun r42 =>
       (slc s_0 0 o5.2).bind fun s45 =>
       bif (r42 != s45) then
        some (65533,1)
       else
        some (o22,o5.2))
     (fun o22 =>
      some o22) o22)
   (fun o5 =>
    some o5) o5
  else
   bif (decide ((c1.toNat:Int) ≥ 224)) then
    (show Option ((Int × Int) ⊕ (Int × Int)) from
     bif (decide ((c1.toNat:Int) < 240)) then
      some (.inl ((IntKind.wrap .i64 ((c1.toNat:Int) - 224)),3))
     else
      bif (decide ((c1.toNat:Int) ≥ 240)) then
       bif (decide ((c1.toNat:Int) < 248)) then
        some (.inl ((IntKind.wrap .i64 ((c1.toNat:Int) - 240)),4))
       else
        some (.inr (65533,1))
      else
       some (.inr (65533,1))).bind fun o52 =>
    Sum.elim (fun o52 =>
     bif (decide (o52.2 > (s_0.length:Int))) then
      some (65533,1)
     else
      (iter (fun s=>qfO N s_0 o52 s.1 s.2) N (o52.1,1)).bind fun o65 =>
      Sum.elim (fun o65 =>
       (qeK N o65).bind fun r82 =>
       bif (!r82) then
        some (65533,1)
       else
        (qfg N o65).bind fun r85 =>
        (slc s_0 0 o52.2).bind fun s88 =>
        bif (r85 != s88) then
         some (65533,1)
        else
         some (o65,o52.2))
      (fun o65 =>
       some o65) o65)
    (fun o52 =>
     some o52) o52
   else
    bif (decide ((c1.toNat:Int) ≥ 240)) then
     bif (decide ((c1.toNat:Int) < 248)) then
      bif (decide ((4:Int) > (s_0.length:Int))) then
       some (65533,1)
      else
       (iter (fun s=>qfT N s_0 s.1 s.2) N ((IntKind.wrap .i64 ((c1.toNat:Int) - 240)),1)).bind fun o99 =>
       Sum.elim (fun o99 =>
        (qeK N o99).bind fun r116 =>
        bif (!r116) then
         some (65533,1)
        else
         (qfg N o99).bind fun r119 =>
         (slc s_0 0 4).bind fun s122 =>
         bif (r119 != s122) then
          some (65533,1)
         else
          some (o99,4))
       (fun o99 =>
        some o99) o99
     else
      some (65533,1)
    else
     some (65533,1)
def qgm (N:Nat) (s_0:List UInt8) (offset_1:Int) (x_10:Position):Option (Position ⊕ Position) :=
 bif (decide (x_10.Offset < (s_0.length:Int))) then
  bif (x_10.Offset != offset_1) then
   (slc s_0 x_10.Offset (s_0.length:Int)).bind fun s16 =>
   (qgy N s16).bind fun r18 =>
   bif (r18.1 == 10) then
    some (.inl (Position.mk (IntKind.wrap .i64 (x_10.Offset + r18.2)) (IntKind.wrap .i64 (x_10.Line + 1)) 1))
   else
    some (.inl (Position.mk (IntKind.wrap .i64 (x_10.Offset + r18.2)) x_10.Line (IntKind.wrap .i64 (x_10.Column + 1))))
  else
   some (.inr x_10)
 else
  some (.inr x_10)
def qge (N:Nat) (s_0:List UInt8) (offset_1:Int):Option (Position × Int) :=
 (iter (fun s=>qgm N s_0 offset_1 s) N (Position.mk 0 1 1)).bind fun o6 =>
 bif (o6.Offset != offset_1) then
  some ((Position.mk 0 0 0),2)
 else
  some (o6,0)
def qgn (N:Nat) (s_0:List UInt8) (counted_1:Bool):Option ((List (Part)) × Position × Int) :=
 (qf5 N s_0).bind fun r2 =>
 bif (r2.2.2 == 6) then
  some ([],(Position.mk r2.2.1 0 0),r2.2.2)
 else
  (qbB N 1 counted_1 (State.mk r2.1 (s_0.length:Int) ([]) r2.2.1 r2.2.2)).bind fun r13 =>
  bif (r13.2.e == 0) then
   (show Option State from
    bif (decide ((r13.2.left.length:Int) > 0)) then
     (qba N 3 r13.2).bind fun r38 =>
     some r38
    else
     some r13.2).bind fun o27 =>
   bif (o27.e != 0) then
    (qge N s_0 o27.at_).bind fun r59 =>
    (show Option (Int × Position) from
     some (o27.e,r59.1)).bind fun o69 =>
    some ([],o69.2,o69.1)
   else
    (qbG N r13.1 ([32])).bind fun r78 =>
    bif (decide ((r78.length:Int) > 4000)) then
     some ([],(Position.mk 0 0 0),6)
    else
     some (r13.1,(Position.mk 0 0 0),0)
  else
   bif (r13.2.e != 0) then
    (qge N s_0 r13.2.at_).bind fun r83 =>
    (show Option (Int × Position) from
     some (r13.2.e,r83.1)).bind fun o93 =>
    some ([],o93.2,o93.1)
   else
    (qbG N r13.1 ([32])).bind fun r102 =>
    bif (decide ((r102.length:Int) > 4000)) then
     some ([],(Position.mk 0 0 0),6)
    else
     some (r13.1,(Position.mk 0 0 0),0)
def qgk (N:Nat) (s_0:List UInt8):Option ((List (Part)) × Position × Int) :=
 (qgn N s_0 false).bind fun r2 =>
 some (r2.1,r2.2.1,r2.2.2)
end Go.Proofs.YtllnjbnknjpbjaaGreatDoor
namespace Go.Proofs.YtllnjbnknjpbjaaGreatDoor
open Go.X
end Go.Proofs.YtllnjbnknjpbjaaGreatDoor
namespace Go.Proofs.YtllnjbnknjpbjaaGreatDoor
open Go.X
def qeG (N:Nat):Option Bool :=
 (qgk N ([97,123,110,44,32,112,108,117,114,97,108,44,32,111,110,101,32,123,120,125,32,111,116,104,101,114,32,123,35,125,125])).bind fun r1 =>
 (qdT N r1.1).bind fun r13 =>
 bif (r13.2 == 0) then
  bif ((r13.1.Ins.length:Int) == 9) then
   (idx r13.1.Ins 2).bind fun x26 =>
   bif ((x26.Op == 11) && ((x26.A == 4) && ((x26.B == 0) && (x26.S == ([111,110,101]))))) then
    (qhQ N r13.1 r13.1).bind fun r40 =>
    bif r40 then
     (slc r13.1.Ins 8 (r13.1.Ins.length:Int)).bind fun l43 =>
     (qif N (Code.mk ([]) l43)).bind fun r48 =>
     some (r48 == ([48,58,32,115,116,111,112,10]))
    else
     some false
   else
    some false
  else
   some false
 else
  some false
end Go.Proofs.YtllnjbnknjpbjaaGreatDoor
namespace Go.Proofs.YtllnjbnknjpbjaaGreatDoor
open Go.X
def qbF (_N:Nat) (r13:Code × Int) (r31:Code × Int) (i_50:Int):Option (Int ⊕ ((Unit ⊕ Bool))) :=
 bif (decide (i_50 < (r13.1.Ins.length:Int))) then
  (idx r13.1.Ins i_50).bind fun x53 =>
  bif (x53.Op == 10) then
   some (.inr (.inr false))
  else
   bif (x53.Op == 11) then
    some (.inr (.inr false))
   else
    bif (x53.Op == 12) then
     some (.inr (.inr false))
    else
     bif (decide (i_50 < (IntKind.wrap .i64 ((r31.1.Ins.length:Int) - 1)))) then
      (idx r13.1.Ins i_50).bind fun x70 =>
      (idx r31.1.Ins i_50).bind fun x83 =>
      bif (!((x70.Op == x83.Op) && ((x70.A == x83.A) && ((x70.B == x83.B) && (x70.S == x83.S))))) then
       some (.inr (.inr false))
      else
       some (.inl (i_50 + 1))
     else
      some (.inl (i_50 + 1))
 else
  some (.inr (.inl ()))
def qbT (N:Nat) (p_0:List (Part)) (at_1:Int):Option Bool :=
 (qeG N ).bind fun r1 =>
 bif (!r1) then
  some false
 else
  (qfa N p_0).bind fun r4 =>
  bif (!r4) then
   some true
  else
   (qeL N p_0).bind fun r7 =>
   bif (!r7) then
    some true
   else
    (qcj N p_0).bind fun r10 =>
    bif (!r10) then
     some true
    else
     (qdT N p_0).bind fun r13 =>
     (rm at_1 (IntKind.wrap .i64 ((p_0.length:Int) + 1))).bind fun q24 =>
     (slc p_0 0 q24).bind fun l26 =>
     (qdT N l26).bind fun r31 =>
     (show Option Bool from
      bif (r13.2 != 0) then
       some true
      else
       bif (r31.2 != 0) then
        some true
       else
        bif ((r31.1.Ins.length:Int) == 0) then
         some true
        else
         some (decide ((r31.1.Ins.length:Int) > (r13.1.Ins.length:Int)))).bind fun o42 =>
     bif o42 then
      some false
     else
      (iter (fun s=>qbF N r13 r31 s) N 0).bind fun o48 =>
      Sum.elim (fun _o48 =>
       some true)
      (fun o48 =>
       some o48) o48
end Go.Proofs.YtllnjbnknjpbjaaGreatDoor
namespace Go.Proofs
open Go.Shelf
def Tryz.lays169_ren:Go.Shelf.Ren:=⟨fun | 169=>39 | n=>n,fun | 70=>65 | 9=>9 | 0=>0 | 72=>68 | 37=>66 | 127=>112 | 3=>3 | 5=>5 | n=>n,fun | n=>n⟩
theorem Tryz.lays169:Go.Proofs.Lays.n169 Tryz.prog Tryz.lays169_ren:={
 mixed:=by kernel_rfl
 f169:=Tryz.func39.trans (congrArg some (by kernel_rfl))
 t0:=Tryz.underlying0
 a0:=Tryz.isAgg0
 z0:=Tryz.sizeOf0
 v0:=Tryz.zeroValue0
 t3:=Tryz.underlying3
 a3:=Tryz.isAgg3
 z3:=Tryz.sizeOf3
 v3:=Tryz.zeroValue3
 t9:=Tryz.underlying9
 a9:=Tryz.isAgg9
 z9:=Tryz.sizeOf9
 v9:=Tryz.zeroValue9
 t37:=Tryz.underlying66
 a37:=Tryz.isAgg66
 z37:=Tryz.sizeOf66
 v37:=Tryz.zeroValue66
 t70:=Tryz.underlying65
 a70:=Tryz.isAgg65
 z70:=Tryz.sizeOf65
 v70:=Tryz.zeroValue65
 t72:=Tryz.underlying68
 a72:=Tryz.isAgg68
 z72:=Tryz.sizeOf68
 v72:=Tryz.zeroValue68
 t127:=Tryz.underlying112
 a127:=Tryz.isAgg112
 z127:=Tryz.sizeOf112
 v127:=Tryz.zeroValue112 }
theorem Tryz.Builder_Extra_169:Builder.Extra Tryz.prog Tryz.lays169_ren:={
 sizeBuilder:=by kernel_rfl
 liesBuilder:=by kernel_rfl
 t5:=Tryz.underlying5
 a5:=Tryz.isAgg5
 z5:=Tryz.sizeOf5
 v5:=Tryz.zeroValue5
 infoByte:=by kernel_rfl
 cellsByte:=by kernel_rfl
 sizeByte:=by kernel_rfl
 neB5:=by decide }
def Tryz.lays160_ren:Go.Shelf.Ren:=⟨fun | 160=>163 | 232=>167 | 231=>166 | 227=>168 | 234=>170 | 233=>169 | 236=>172 | 235=>171 | 228=>177 | 271=>180 | 151=>179 | 197=>178 | 120=>185 | 152=>184 | 260=>183 | 137=>186 | 119=>187 | 224=>175 | 225=>174 | 217=>173 | 266=>181 | n=>n,fun | 9=>9 | 4=>4 | 3=>3 | 5=>5 | 117=>228 | 116=>227 | 0=>0 | 124=>231 | 21=>21 | 105=>233 | 46=>182 | 119=>165 | 139=>241 | 138=>240 | n=>n,fun | 3=>4 | 4=>5 | n=>n⟩
theorem Tryz.lays160:Go.Proofs.Lays.n160 Tryz.prog Tryz.lays160_ren:={
 mixed:=by kernel_rfl
 f119:=Tryz.func187.trans (congrArg some (by kernel_rfl))
 f120:=Tryz.func185.trans (congrArg some (by kernel_rfl))
 f137:=Tryz.func186.trans (congrArg some (by kernel_rfl))
 f151:=Tryz.func179.trans (congrArg some (by kernel_rfl))
 f152:=Tryz.func184.trans (congrArg some (by kernel_rfl))
 f160:=Tryz.func163.trans (congrArg some (by kernel_rfl))
 f197:=Tryz.func178.trans (congrArg some (by kernel_rfl))
 f217:=Tryz.func173.trans (congrArg some (by kernel_rfl))
 f224:=Tryz.func175.trans (congrArg some (by kernel_rfl))
 f225:=Tryz.func174.trans (congrArg some (by kernel_rfl))
 f227:=Tryz.func168.trans (congrArg some (by kernel_rfl))
 f228:=Tryz.func177.trans (congrArg some (by kernel_rfl))
 f231:=Tryz.func166.trans (congrArg some (by kernel_rfl))
 f232:=Tryz.func167.trans (congrArg some (by kernel_rfl))
 f233:=Tryz.func169.trans (congrArg some (by kernel_rfl))
 f234:=Tryz.func170.trans (congrArg some (by kernel_rfl))
 f235:=Tryz.func171.trans (congrArg some (by kernel_rfl))
 f236:=Tryz.func172.trans (congrArg some (by kernel_rfl))
 f260:=Tryz.func183.trans (congrArg some (by kernel_rfl))
 f266:=Tryz.func181.trans (congrArg some (by kernel_rfl))
 f271:=Tryz.func180.trans (congrArg some (by kernel_rfl))
 t0:=Tryz.underlying0
 a0:=Tryz.isAgg0
 z0:=Tryz.sizeOf0
 v0:=Tryz.zeroValue0
 t3:=Tryz.underlying3
 a3:=Tryz.isAgg3
 z3:=Tryz.sizeOf3
 v3:=Tryz.zeroValue3
 t4:=Tryz.underlying4
 a4:=Tryz.isAgg4
 z4:=Tryz.sizeOf4
 v4:=Tryz.zeroValue4
 t5:=Tryz.underlying5
 a5:=Tryz.isAgg5
 z5:=Tryz.sizeOf5
 v5:=Tryz.zeroValue5
 t9:=Tryz.underlying9
 a9:=Tryz.isAgg9
 z9:=Tryz.sizeOf9
 v9:=Tryz.zeroValue9
 t21:=Tryz.underlying21
 a21:=Tryz.isAgg21
 z21:=Tryz.sizeOf21
 v21:=Tryz.zeroValue21
 t46:=Tryz.underlying182
 a46:=Tryz.isAgg182
 z46:=Tryz.sizeOf182
 v46:=Tryz.zeroValue182
 t105:=Tryz.underlying233
 a105:=Tryz.isAgg233
 z105:=Tryz.sizeOf233
 v105:=Tryz.zeroValue233
 t116:=Tryz.underlying227
 a116:=Tryz.isAgg227
 z116:=Tryz.sizeOf227
 t117:=Tryz.underlying228
 a117:=Tryz.isAgg228
 z117:=Tryz.sizeOf228
 v117:=Tryz.zeroValue228
 t119:=Tryz.underlying165
 a119:=Tryz.isAgg165
 z119:=Tryz.sizeOf165
 t124:=Tryz.underlying231
 a124:=Tryz.isAgg231
 z124:=Tryz.sizeOf231
 v124:=Tryz.zeroValue231
 t138:=Tryz.underlying240
 a138:=Tryz.isAgg240
 z138:=Tryz.sizeOf240
 v138:=Tryz.zeroValue240
 t139:=Tryz.underlying241
 a139:=Tryz.isAgg241
 z139:=Tryz.sizeOf241
 v139:=Tryz.zeroValue241
 g3:=by kernel_rfl
 g4:=by kernel_rfl }
def Tryz.lays103_ren:Go.Shelf.Ren:=⟨fun | 103=>134 | 210=>149 | 206=>158 | n=>n,fun | 9=>9 | 4=>4 | 24=>199 | 3=>3 | n=>n,fun | n=>n⟩
theorem Tryz.lays103:Go.Proofs.Lays.n103 Tryz.prog Tryz.lays103_ren:={
 mixed:=by kernel_rfl
 f103:=Tryz.func134.trans (congrArg some (by kernel_rfl))
 f206:=Tryz.func158.trans (congrArg some (by kernel_rfl))
 f210:=Tryz.func149.trans (congrArg some (by kernel_rfl))
 t3:=Tryz.underlying3
 a3:=Tryz.isAgg3
 z3:=Tryz.sizeOf3
 v3:=Tryz.zeroValue3
 t4:=Tryz.underlying4
 a4:=Tryz.isAgg4
 z4:=Tryz.sizeOf4
 v4:=Tryz.zeroValue4
 t9:=Tryz.underlying9
 a9:=Tryz.isAgg9
 z9:=Tryz.sizeOf9
 v9:=Tryz.zeroValue9
 t24:=Tryz.underlying199
 a24:=Tryz.isAgg199
 z24:=Tryz.sizeOf199
 v24:=Tryz.zeroValue199 }
def Tryz.laysM171_ren:Go.Shelf.Ren:=⟨fun | 171=>36 | 243=>56 | 246=>71 | 283=>94 | 284=>95 | 285=>96 | 286=>97 | 129=>118 | 317=>117 | 318=>119 | 319=>120 | 320=>121 | 337=>137 | 338=>138 | n=>n,fun | 3=>3 | 9=>9 | 2=>2 | 4=>4 | 171=>151 | 0=>0 | 53=>152 | 37=>66 | 5=>5 | 173=>155 | 212=>180 | 51=>98 | 20=>20 | 213=>181 | 46=>182 | 232=>217 | 233=>218 | n=>n,fun | 17=>0 | 18=>1 | 19=>2 | n=>n⟩
theorem Tryz.laysM171:Go.Proofs.LaysM.n171 Tryz.prog Tryz.laysM171_ren:={
 mixed:=by kernel_rfl
 f129:=Tryz.func118.trans (congrArg some (by kernel_rfl))
 f171:=Tryz.func36.trans (congrArg some (by kernel_rfl))
 f243:=Tryz.func56.trans (congrArg some (by kernel_rfl))
 f246:=Tryz.func71.trans (congrArg some (by kernel_rfl))
 f283:=Tryz.func94.trans (congrArg some (by kernel_rfl))
 f284:=Tryz.func95.trans (congrArg some (by kernel_rfl))
 f285:=Tryz.func96.trans (congrArg some (by kernel_rfl))
 f286:=Tryz.func97.trans (congrArg some (by kernel_rfl))
 f317:=Tryz.func117.trans (congrArg some (by kernel_rfl))
 f318:=Tryz.func119.trans (congrArg some (by kernel_rfl))
 f319:=Tryz.func120.trans (congrArg some (by kernel_rfl))
 f320:=Tryz.func121.trans (congrArg some (by kernel_rfl))
 f337:=Tryz.func137.trans (congrArg some (by kernel_rfl))
 f338:=Tryz.func138.trans (congrArg some (by kernel_rfl))
 t0:=Tryz.underlying0
 a0:=Tryz.isAgg0
 z0:=Tryz.sizeOf0
 v0:=Tryz.zeroValue0
 t2:=Tryz.underlying2
 a2:=Tryz.isAgg2
 z2:=Tryz.sizeOf2
 v2:=Tryz.zeroValue2
 t3:=Tryz.underlying3
 a3:=Tryz.isAgg3
 z3:=Tryz.sizeOf3
 v3:=Tryz.zeroValue3
 t4:=Tryz.underlying4
 a4:=Tryz.isAgg4
 z4:=Tryz.sizeOf4
 v4:=Tryz.zeroValue4
 t5:=Tryz.underlying5
 a5:=Tryz.isAgg5
 z5:=Tryz.sizeOf5
 v5:=Tryz.zeroValue5
 t9:=Tryz.underlying9
 a9:=Tryz.isAgg9
 z9:=Tryz.sizeOf9
 v9:=Tryz.zeroValue9
 t20:=Tryz.underlying20
 a20:=Tryz.isAgg20
 z20:=Tryz.sizeOf20
 v20:=Tryz.zeroValue20
 t37:=Tryz.underlying66
 a37:=Tryz.isAgg66
 z37:=Tryz.sizeOf66
 v37:=Tryz.zeroValue66
 t46:=Tryz.underlying182
 a46:=Tryz.isAgg182
 z46:=Tryz.sizeOf182
 v46:=Tryz.zeroValue182
 t51:=Tryz.underlying98
 a51:=Tryz.isAgg98
 z51:=Tryz.sizeOf98
 v51:=Tryz.zeroValue98
 t53:=Tryz.underlying152
 a53:=Tryz.isAgg152
 z53:=Tryz.sizeOf152
 v53:=Tryz.zeroValue152
 t171:=Tryz.underlying151
 a171:=Tryz.isAgg151
 z171:=Tryz.sizeOf151
 v171:=Tryz.zeroValue151
 t173:=Tryz.underlying155
 a173:=Tryz.isAgg155
 z173:=Tryz.sizeOf155
 v173:=Tryz.zeroValue155
 t212:=Tryz.underlying180
 a212:=Tryz.isAgg180
 z212:=Tryz.sizeOf180
 v212:=Tryz.zeroValue180
 t213:=Tryz.underlying181
 a213:=Tryz.isAgg181
 z213:=Tryz.sizeOf181
 t232:=Tryz.underlying217
 a232:=Tryz.isAgg217
 z232:=Tryz.sizeOf217
 v232:=Tryz.zeroValue217
 t233:=Tryz.underlying218
 a233:=Tryz.isAgg218
 z233:=Tryz.sizeOf218
 v233:=Tryz.zeroValue218
 g17:=by kernel_rfl
 g18:=by kernel_rfl
 g19:=by kernel_rfl
 i0:=by kernel_rfl
 i2:=by kernel_rfl
 i3:=by kernel_rfl
 i4:=by kernel_rfl
 i5:=by kernel_rfl
 i9:=by kernel_rfl
 i20:=by kernel_rfl
 i37:=by kernel_rfl
 i46:=by kernel_rfl
 i51:=by kernel_rfl
 i53:=by kernel_rfl
 i171:=by kernel_rfl
 i173:=by kernel_rfl
 i212:=by kernel_rfl
 i232:=by kernel_rfl
 i233:=by kernel_rfl
 m17:=by kernel_rfl
 m18:=by kernel_rfl
 m19:=by kernel_rfl }
def Tryz.lays145_ren:Go.Shelf.Ren:=⟨fun | 145=>159 | 220=>162 | 219=>165 | 217=>173 | 225=>174 | 224=>175 | 267=>176 | 266=>181 | 314=>182 | n=>n,fun | 9=>9 | 4=>4 | 59=>222 | 3=>3 | 5=>5 | 46=>182 | 146=>236 | 51=>98 | n=>n,fun | 1=>3 | n=>n⟩
theorem Tryz.lays145:Go.Proofs.Lays.n145 Tryz.prog Tryz.lays145_ren:={
 mixed:=by kernel_rfl
 f145:=Tryz.func159.trans (congrArg some (by kernel_rfl))
 f217:=Tryz.func173.trans (congrArg some (by kernel_rfl))
 f219:=Tryz.func165.trans (congrArg some (by kernel_rfl))
 f220:=Tryz.func162.trans (congrArg some (by kernel_rfl))
 f224:=Tryz.func175.trans (congrArg some (by kernel_rfl))
 f225:=Tryz.func174.trans (congrArg some (by kernel_rfl))
 f266:=Tryz.func181.trans (congrArg some (by kernel_rfl))
 f267:=Tryz.func176.trans (congrArg some (by kernel_rfl))
 f314:=Tryz.func182.trans (congrArg some (by kernel_rfl))
 t3:=Tryz.underlying3
 a3:=Tryz.isAgg3
 z3:=Tryz.sizeOf3
 v3:=Tryz.zeroValue3
 t4:=Tryz.underlying4
 a4:=Tryz.isAgg4
 z4:=Tryz.sizeOf4
 v4:=Tryz.zeroValue4
 t5:=Tryz.underlying5
 a5:=Tryz.isAgg5
 z5:=Tryz.sizeOf5
 v5:=Tryz.zeroValue5
 t9:=Tryz.underlying9
 a9:=Tryz.isAgg9
 z9:=Tryz.sizeOf9
 v9:=Tryz.zeroValue9
 t46:=Tryz.underlying182
 a46:=Tryz.isAgg182
 z46:=Tryz.sizeOf182
 v46:=Tryz.zeroValue182
 t51:=Tryz.underlying98
 a51:=Tryz.isAgg98
 z51:=Tryz.sizeOf98
 v51:=Tryz.zeroValue98
 t59:=Tryz.underlying222
 a59:=Tryz.isAgg222
 z59:=Tryz.sizeOf222
 v59:=Tryz.zeroValue222
 t146:=Tryz.underlying236
 a146:=Tryz.isAgg236
 z146:=Tryz.sizeOf236
 v146:=Tryz.zeroValue236
 g1:=by kernel_rfl }
end Go.Proofs
namespace Go.Proofs.YtllnjbnknjpbjaaGreatDoor
open Go.X
variable {u:World} {m0:Mem} {S:Segs} {w:World}
set_option maxHeartbeats 4000000
set_option maxRecDepth 100000
def Glob (u:World):Prop:=∃ mx,u.cell? ⟨3,0,none⟩ = some (.int .i64 mx)
def qi5 (R:Rp Part):Rp Case:=fun m cs x=>∃ c1,cs = [.string (bs x.Key),c1] ∧ x.Key.length ≤ LIMS ∧ (pL 6 R) m [c1] x.Parts
def qgv:Nat → Rp Part
 | 0=>fun _ _ _=>False
 | d + 1=>fun m cs x=>∃ c4 c5,cs = [.int .i64 x.Kind,.string (bs x.Text),.string (bs x.Name),.string (bs x.Style),c4,c5] ∧ InR .i64 x.Kind ∧ x.Text.length ≤ LIMS ∧ x.Name.length ≤ LIMS ∧ x.Style.length ≤ LIMS ∧ (pL 2 (qi5 (qgv d))) m [c4] x.Cases ∧ (pL 6 (qgv d)) m [c5] x.Parts
def qa0:Rp Part:=fun m cs x=>∃ d,qgv d m cs x
def qd6:Rp Case:=fun m cs x=>∃ c1,cs = [.string (bs x.Key),c1] ∧ x.Key.length ≤ LIMS ∧ (pL 6 qa0) m [c1] x.Parts
theorem qh6 {R R':Rp Part} {m:Mem} {cs:List Value} {x:Case} (hR:∀ {cs:List Value} {x:Part},R m cs x → R' m cs x) (h:qi5 R m cs x):qi5 R' m cs x:=by
 obtain ⟨c1,e,h0,h1⟩:=h
 exact ⟨c1,e,h0,qhw (fun _ _ _ h=>hR h) h1⟩
theorem qiU:∀ (d:Nat) {m:Mem} {cs:List Value} {x:Part},qgv d m cs x → qgv (d + 1) m cs x
 | 0,_,_,_,h=>h.elim
 | d + 1,_,_,_,h=>by
  obtain ⟨c4,c5,e,h0,h1,h2,h3,h4,h5⟩:=h
  exact ⟨c4,c5,e,h0,h1,h2,h3,qhw (fun _ _ _ h=>qh6 (fun h=>qiU d h) h) h4,qhw (fun _ _ _ h=>qiU d h) h5⟩
theorem qhv {d d':Nat} (hd:d ≤ d') {m:Mem} {cs:List Value} {x:Part} (h:qgv d m cs x):qgv d' m cs x:=by
 induction hd with
 | refl=>exact h
 | step _ ih=>exact qiU _ ih
theorem qoa {m:Mem} {cs:List Value} {x:Case} (h:qd6 m cs x):∃ d,qi5 (qgv d) m cs x:=by
 obtain ⟨c1,e,h0,h1⟩:=h
 obtain ⟨d,hd⟩:=ql7 (fun d d' hd _ _ h=>qhv hd h) h1
 exact ⟨d,c1,e,h0,hd⟩
theorem qaK {m:Mem} {cs:List Value} {x:Part}:qa0 m cs x ↔ (∃ c4 c5,cs = [.int .i64 x.Kind,.string (bs x.Text),.string (bs x.Name),.string (bs x.Style),c4,c5] ∧ InR .i64 x.Kind ∧ x.Text.length ≤ LIMS ∧ x.Name.length ≤ LIMS ∧ x.Style.length ≤ LIMS ∧ (pL 2 qd6) m [c4] x.Cases ∧ (pL 6 qa0) m [c5] x.Parts):=by
 constructor
 ·rintro ⟨d,h⟩
  cases d with
  | zero=>exact h.elim
  | succ d =>
   obtain ⟨c4,c5,e,h0,h1,h2,h3,h4,h5⟩:=h
   exact ⟨c4,c5,e,h0,h1,h2,h3,qhw (fun _ _ _ h=>qh6 (R':=qa0) (fun h=>⟨d,h⟩) h) h4,qhw (fun _ _ _ h=>⟨d,h⟩) h5⟩
 ·rintro ⟨c4,c5,e,h0,h1,h2,h3,h4,h5⟩
  obtain ⟨d4,g4⟩:=ql7 (P:=fun d=>qi5 (qgv d)) (fun d d' hd _ _ h=>qh6 (fun h=>qhv hd h) h) (qhw (fun _ _ _ h=>qoa h) h4)
  obtain ⟨d5,g5⟩:=ql7 (fun d d' hd _ _ h=>qhv hd h) h5
  exact ⟨d4 + d5 + 1,c4,c5,e,h0,h1,h2,h3,qhw (fun _ _ _ h=>qh6 (fun h=>qhv (by omega) h) h) g4,qhw (fun _ _ _ h=>qhv (by omega) h) g5⟩
theorem qnu {R:Rp Part} (M:Mono R):Mono (qi5 R):=⟨fun hm h=>by
 obtain ⟨c1,e,h0,h1⟩:=h
 exact ⟨c1,e,h0,(mL M).up hm h1⟩,fun h=>by
 obtain ⟨c1,rfl,h0,h1⟩:=h
 exact ⟨rfl,((mL M).one h1).1,trivial⟩⟩
theorem qi7:∀ d,Mono (qgv d)
 | 0=>⟨fun _ h=>h.elim,fun h=>h.elim⟩
 | d + 1=>⟨fun hm h=>by
  obtain ⟨c4,c5,e,h0,h1,h2,h3,h4,h5⟩:=h
  exact ⟨c4,c5,e,h0,h1,h2,h3,(mL (qnu (qi7 d))).up hm h4,(mL (qi7 d)).up hm h5⟩,fun h=>by
  obtain ⟨c4,c5,rfl,h0,h1,h2,h3,h4,h5⟩:=h
  exact ⟨rfl,rfl,rfl,rfl,((mL (qnu (qi7 d))).one h4).1,((mL (qi7 d)).one h5).1,trivial⟩⟩
theorem qai:Mono qa0:=⟨fun hm ⟨d,h⟩=>⟨d,(qi7 d).up hm h⟩,fun ⟨d,h⟩=>(qi7 d).one h⟩
theorem qaC:Mono qd6:=qnu qai
def ql8:Rp Number:=fun _ cs x=>cs = [.bool x.negative,.string (bs x.whole),.string (bs x.fraction)] ∧ x.whole.length ≤ LIMS ∧ x.fraction.length ≤ LIMS
theorem qjd:aggB Tryz.prog 128 1 = true:=by kernel_rfl
theorem qbi:aggB Tryz.prog 214 3 = true:=by kernel_rfl
theorem qdr:aggB Tryz.prog 82 6 = true:=by kernel_rfl
theorem qiF:aggB Tryz.prog 85 2 = true:=by kernel_rfl
theorem qig:qbb Tryz.prog 128 0 0 = true:=by kernel_rfl
theorem qpN:qbb Tryz.prog 214 1 1 = true:=by kernel_rfl
theorem qpJ:qbb Tryz.prog 214 2 2 = true:=by kernel_rfl
theorem qkT:qbb Tryz.prog 68 0 0 = true:=by kernel_rfl
theorem qkW:qbb Tryz.prog 68 1 1 = true:=by kernel_rfl
theorem qay:qbb Tryz.prog 82 0 0 = true:=by kernel_rfl
theorem qcz:qbb Tryz.prog 82 1 1 = true:=by kernel_rfl
theorem qaN:qbb Tryz.prog 82 2 2 = true:=by kernel_rfl
theorem qaW:qbb Tryz.prog 82 3 3 = true:=by kernel_rfl
theorem qa2:qbb Tryz.prog 82 4 4 = true:=by kernel_rfl
theorem qbR:qbb Tryz.prog 82 5 5 = true:=by kernel_rfl
theorem qda:qbb Tryz.prog 85 0 0 = true:=by kernel_rfl
theorem qeh:qbb Tryz.prog 85 1 1 = true:=by kernel_rfl
theorem qlT:goB Tryz.prog 113 = true:=by kernel_rfl
theorem qrC:goB Tryz.prog 114 = true:=by kernel_rfl
theorem qrk:goB Tryz.prog 115 = true:=by kernel_rfl
theorem qrz:goB Tryz.prog 116 = true:=by kernel_rfl
theorem qq2:goB Tryz.prog 133 = true:=by kernel_rfl
theorem qo3:goB Tryz.prog 134 = true:=by kernel_rfl
theorem qrm:goB Tryz.prog 135 = true:=by kernel_rfl
theorem qra:goB Tryz.prog 136 = true:=by kernel_rfl
theorem qq7:goB Tryz.prog 150 = true:=by kernel_rfl
theorem qrp:goB Tryz.prog 159 = true:=by kernel_rfl
theorem qkN:goB Tryz.prog 160 = true:=by kernel_rfl
theorem qlS:goB Tryz.prog 161 = true:=by kernel_rfl
theorem qpj:goB Tryz.prog 163 = true:=by kernel_rfl
theorem qoW:goB Tryz.prog 164 = true:=by kernel_rfl
theorem qlz:goB Tryz.prog 38 = true:=by kernel_rfl
theorem qqj:goB Tryz.prog 39 = true:=by kernel_rfl
theorem qr3:goB Tryz.prog 49 = true:=by kernel_rfl
theorem qiQ:goB Tryz.prog 51 = true:=by kernel_rfl
theorem qqp:goB Tryz.prog 55 = true:=by kernel_rfl
theorem qmU:goB Tryz.prog 67 = true:=by kernel_rfl
theorem qol:goB Tryz.prog 68 = true:=by kernel_rfl
theorem qsa:goB Tryz.prog 90 = true:=by kernel_rfl
theorem qqe:goB Tryz.prog 91 = true:=by kernel_rfl
theorem qr9:goB Tryz.prog 92 = true:=by kernel_rfl
theorem qrV:goB Tryz.prog 93 = true:=by kernel_rfl
theorem qqG:∃ i,Tryz.prog.info? 128 = some i ∧ i.size = 1:=⟨_,rfl,by kernel_rfl⟩
theorem qcB:∃ i,Tryz.prog.info? 214 = some i ∧ i.size = 3:=⟨_,rfl,by kernel_rfl⟩
theorem qrc:∃ i,Tryz.prog.info? 65 = some i ∧ i.size = 1:=⟨_,rfl,by kernel_rfl⟩
theorem qo5:∃ i,Tryz.prog.info? 66 = some i ∧ i.size = 1:=⟨_,rfl,by kernel_rfl⟩
theorem qrA:∃ i,Tryz.prog.info? 68 = some i ∧ i.size = 2:=⟨_,rfl,by kernel_rfl⟩
theorem qfd:∃ i,Tryz.prog.info? 82 = some i ∧ i.size = 6:=⟨_,rfl,by kernel_rfl⟩
theorem qiu:∃ i,Tryz.prog.info? 85 = some i ∧ i.size = 2:=⟨_,rfl,by kernel_rfl⟩
theorem qcM:∃ i,Tryz.prog.info? 9 = some i ∧ i.size = 1:=⟨_,rfl,by kernel_rfl⟩
theorem qn5:∃ i,Tryz.prog.info? 68 = some i:=⟨_,rfl⟩
theorem qqZ:liesAt Tryz.prog Tryz.prog.depth 68 (2 / Tryz.prog.cellsOf 68) 0 68 1 = true:=by kernel_rfl
theorem qje:oneB Tryz.prog 126 = true:=by kernel_rfl
theorem qbu:oneB Tryz.prog 22 = true:=by kernel_rfl
theorem qap:oneB Tryz.prog 3 = true:=by kernel_rfl
theorem qnz:oneB Tryz.prog 65 = true:=by kernel_rfl
theorem qpB:oneB Tryz.prog 66 = true:=by kernel_rfl
theorem qbo:oneB Tryz.prog 80 = true:=by kernel_rfl
theorem qak:oneB Tryz.prog 9 = true:=by kernel_rfl
theorem qoc:qey Tryz.prog 128 = some [(0,1)]:=by kernel_rfl
theorem qow:qey Tryz.prog 214 = some [(0,1),(1,1),(2,1)]:=by kernel_rfl
theorem qfk:qey Tryz.prog 82 = some [(0,1),(1,1),(2,1),(3,1),(4,1),(5,1)]:=by kernel_rfl
theorem qbc:SlT Tryz.prog 22 82 6:=SlT.of (by kernel_rfl)
theorem qff:SlT Tryz.prog 66 5 1:=SlT.of (by kernel_rfl)
theorem qbr:SlT Tryz.prog 80 85 2:=SlT.of (by kernel_rfl)
theorem qnR:qmW Tryz.prog 4 = some (vb false):=by kernel_rfl
theorem qnp:qcY Tryz.prog 128 = some [(Value.map none)]:=by kernel_rfl
theorem qjG:qcY Tryz.prog 214 = some [vb false,(vs ([])),(vs ([]))]:=by kernel_rfl
theorem qen:qcY Tryz.prog 5 = some [(Value.int .u8 0)]:=by kernel_rfl
theorem qnS:qcY Tryz.prog 68 = some [(Value.pointer none),(Value.slice none 0 0)]:=by kernel_rfl
theorem qbv:qcY Tryz.prog 82 = some [vi 0,(vs ([])),(vs ([])),(vs ([])),(Value.slice none 0 0),(Value.slice none 0 0)]:=by kernel_rfl
theorem qdq:qcY Tryz.prog 85 = some [(vs ([])),(Value.slice none 0 0)]:=by kernel_rfl
def qkE (u:World) (m0:Mem) (S:Segs) (r:Bool) (a:Act) (w:World):Prop :=
 Ok u m0 S w ∧ a.defers = [] ∧ RVs Tryz.prog a w [.t 2 (.bool r)]
theorem qcO (N:Nat) (kind_0:Int) (rkind_0:InR .i64 kind_0) {r:Bool} (hF:qb1 N kind_0 = some r) (hG:Glob u) (ok:Ok u m0 S w) :
  Calls Tryz.prog 51 [vi kind_0].toArray w fun e w'=>(e = .returned (.bool r) ∧ Ok u m0 S w'):=by
 unfold qb1 at hF
 refine en (qkE u m0 S) r Tryz.func51 rfl rfl rfl (fun _ _ h=>ra h rfl) fun fin a E=>sg<|aw E rfl fun a E=>sg<|mv E rfl fun a E=>lw E (qb2 rfl rfl) fun a E=>mv E rfl fun a E=>bu E 5 hF (fun c1 hF E=>?_) fun c1 hF E=>?_
 ·refine mv E rfl fun a E=>lw E (qc4 rfl rfl) fun a E=>pt E rfl rfl fun a E=>aw E rfl fun a E=>wp_ret ?_
  exact fin hF ⟨ok,E.d,rz E rfl⟩
 refine lsq E fun a E=>pf E rfl rfl fun a E=>aw E rfl fun a E=>wp_ret ?_
 exact fin hF ⟨ok,E.d,rz E rfl⟩
def qmm (u:World) (m0:Mem) (S:Segs) (r:Bool) (a:Act) (w:World):Prop :=
 Ok u m0 S w ∧ a.defers = [] ∧ RVs Tryz.prog a w [.t 2 (.bool r)]
theorem qme (N:Nat) (c_0:Int) (rc_0:InR .u8 c_0) {r:Bool} (hF:qf2 N c_0 = some r) (hG:Glob u) (ok:Ok u m0 S w) :
  Calls Tryz.prog 133 [Value.int .u8 c_0].toArray w fun e w'=>(e = .returned (.bool r) ∧ Ok u m0 S w'):=by
 unfold qf2 at hF
 refine en (qmm u m0 S) r Tryz.func133 rfl rfl rfl (fun _ _ h=>ra h rfl) fun fin a E=>sg<|aw E rfl fun a E=>sg<|mv E rfl fun a E=>lw E (qb2 rfl rfl) fun a E=>mv E rfl fun a E=>bw E 5 hF (fun c1 hF E=>?_) fun c1 hF E=>?_
 ·as_aux_lemma =>
   refine lsq E fun a E=>pf E rfl rfl fun a E=>mz E rfl rfl fun a E=>lw E (qb2 rfl rfl) fun a E=>mv E rfl fun a E=>bw E 12 hF (fun c7 hF E=>?_) fun c7 hF E=>?_
   ·refine lsq E fun a E=>pf E rfl rfl fun a E=>pf E rfl rfl fun a E=>mz E rfl rfl fun a E=>lw E (qb2 rfl rfl) fun a E=>mv E rfl fun a E=>bu E 20 hF (fun c10 hF E=>?_) fun c10 hF E=>?_
    ·refine mv E rfl fun a E=>lw E (qc4 rfl rfl) fun a E=>pt E rfl rfl fun a E=>pf E rfl rfl fun a E=>aw E rfl fun a E=>wp_ret ?_
     exact fin hF ⟨ok,E.d,rz E rfl⟩
    refine lsq E fun a E=>pf E rfl rfl fun a E=>pf E rfl rfl fun a E=>aw E rfl fun a E=>wp_ret ?_
    exact fin hF ⟨ok,E.d,rz E rfl⟩
   refine mv E rfl fun a E=>lw E (qc4 rfl rfl) fun a E=>pt E rfl rfl fun a E=>pf E rfl rfl fun a E=>mv E rfl fun a E=>bu E 17 hF (fun c8 hF E=>?_) fun c8 hF E=>?_
   ·refine lsz E fun a E=>lsq E fun a E=>pt E rfl rfl fun a E=>av E rfl fun a E=>wn<|wp_ret ?_
    exact fin hF ⟨ok,E.d,rz E rfl⟩
   refine mv E rfl fun a E=>lw E (qb2 rfl rfl) fun a E=>mv E rfl fun a E=>bu E 20 hF (fun c9 hF E=>?_) fun c9 hF E=>?_
   ·refine mv E rfl fun a E=>lw E (qc4 rfl rfl) fun a E=>pt E rfl rfl fun a E=>pf E rfl rfl fun a E=>aw E rfl fun a E=>wp_ret ?_
    exact fin hF ⟨ok,E.d,rz E rfl⟩
   refine lsq E fun a E=>pf E rfl rfl fun a E=>pf E rfl rfl fun a E=>aw E rfl fun a E=>wp_ret ?_
   exact fin hF ⟨ok,E.d,rz E rfl⟩
 refine mv E rfl fun a E=>lw E (qc4 rfl rfl) fun a E=>pt E rfl rfl fun a E=>mv E rfl fun a E=>bu E 9 hF (fun c2 hF E=>?_) fun c2 hF E=>?_
 ·refine lsz E fun a E=>lsq E fun a E=>pt E rfl rfl fun a E=>mv E rfl fun a E=>lsz E fun a E=>lsq E fun a E=>pt E rfl rfl fun a E=>av E rfl fun a E=>?_
  refine wn<|wp_ret ?_
  exact fin hF ⟨ok,E.d,rz E rfl⟩
 refine mv E rfl fun a E=>lw E (qb2 rfl rfl) fun a E=>mv E rfl fun a E=>bw E 12 hF (fun c3 hF E=>?_) fun c3 hF E=>?_
 ·refine lsq E fun a E=>pf E rfl rfl fun a E=>pf E rfl rfl fun a E=>mz E rfl rfl fun a E=>lw E (qb2 rfl rfl) fun a E=>mv E rfl fun a E=>bu E 20 hF (fun c6 hF E=>?_) fun c6 hF E=>?_
  ·refine mv E rfl fun a E=>lw E (qc4 rfl rfl) fun a E=>pt E rfl rfl fun a E=>pf E rfl rfl fun a E=>aw E rfl fun a E=>wp_ret ?_
   exact fin hF ⟨ok,E.d,rz E rfl⟩
  refine lsq E fun a E=>pf E rfl rfl fun a E=>pf E rfl rfl fun a E=>aw E rfl fun a E=>wp_ret ?_
  exact fin hF ⟨ok,E.d,rz E rfl⟩
 refine mv E rfl fun a E=>lw E (qc4 rfl rfl) fun a E=>pt E rfl rfl fun a E=>pf E rfl rfl fun a E=>mv E rfl fun a E=>bu E 17 hF (fun c4 hF E=>?_) fun c4 hF E=>?_
 ·refine lsz E fun a E=>lsq E fun a E=>pt E rfl rfl fun a E=>av E rfl fun a E=>wn<|wp_ret ?_
  exact fin hF ⟨ok,E.d,rz E rfl⟩
 refine mv E rfl fun a E=>lw E (qb2 rfl rfl) fun a E=>mv E rfl fun a E=>bu E 20 hF (fun c5 hF E=>?_) fun c5 hF E=>?_
 ·refine mv E rfl fun a E=>lw E (qc4 rfl rfl) fun a E=>pt E rfl rfl fun a E=>pf E rfl rfl fun a E=>aw E rfl fun a E=>wp_ret ?_
  exact fin hF ⟨ok,E.d,rz E rfl⟩
 refine lsq E fun a E=>pf E rfl rfl fun a E=>pf E rfl rfl fun a E=>aw E rfl fun a E=>wp_ret ?_
 exact fin hF ⟨ok,E.d,rz E rfl⟩
def qkO (u:World) (m0:Mem) (S:Segs) (r:Bool) (a:Act) (w:World):Prop :=
 Ok u m0 S w ∧ a.defers = [] ∧ RVs Tryz.prog a w [.t 2 (.bool r)]
theorem qg5 (N:Nat) (s_0:List UInt8) (ls_0:s_0.length ≤ LIMS) {r:Bool} (hF:qfe N s_0 = some r) (hG:Glob u) (ok:Ok u m0 S w) :
  Calls Tryz.prog 113 [vs s_0].toArray w fun e w'=>(e = .returned (.bool r) ∧ Ok u m0 S w'):=by
 unfold qfe at hF
 refine en (qkO u m0 S) r Tryz.func113 rfl rfl rfl (fun _ _ h=>ra h rfl) fun fin a E=>sg<|aw E rfl fun a E=>wp_seq<|sg<|mv E rfl fun a E=>lw E (qbt rfl rfl) fun a E=>mv E rfl fun a E=>bu E 6 hF (fun c1 hF E=>?_) fun c1 hF E=>?_
 ·refine lsq E fun a E=>ls E fun a E=>pt E rfl rfl fun a E=>mv E rfl fun a E=>lsq E fun a E=>ls E fun a E=>pt E rfl rfl fun a E=>mv E rfl fun a E=>lsq E fun a E=>ls E fun a E=>pt E rfl rfl fun a E=>wn<|c_if E rfl (fun _=>?_) (fun h=>by cases h)
  refine sg<|aw E rfl fun a E=>wp_ret<|qah ?_
  exact fin hF ⟨ok,E.d,rz E rfl⟩
 refine mv E rfl fun a E=>lw E (qaI Tryz.underlying9 rfl) fun a E=>lw E (qbk rfl rfl) fun a E=>pf E rfl rfl fun a E=>mv E rfl fun a E=>bu E 11 hF (fun c2 hF E=>?_) fun c2 hF E=>?_
 ·refine lsq E fun a E=>ls E fun a E=>pt E rfl rfl fun a E=>mv E rfl fun a E=>lsq E fun a E=>ls E fun a E=>pt E rfl rfl fun a E=>wn<|c_if E rfl (fun _=>?_) (fun h=>by cases h)
  refine sg<|aw E rfl fun a E=>wp_ret<|qah ?_
  exact fin hF ⟨ok,E.d,rz E rfl⟩
 refine mv E rfl fun a E=>bd hF fun c3 e4 hF=>lv E ok (qaH Tryz.underlying9 rfl rfl e4) fun a E=>lw E (qaO rfl rfl) fun a E=>pf E rfl rfl fun a E=>mv E rfl fun a E=>bu E 16 hF (fun c5 hF E=>?_) fun c5 hF E=>?_
 ·refine lsq E fun a E=>ls E fun a E=>pt E rfl rfl fun a E=>wn<|c_if E rfl (fun _=>?_) (fun h=>by cases h)
  refine sg<|aw E rfl fun a E=>wp_ret<|qah ?_
  exact fin hF ⟨ok,E.d,rz E rfl⟩
 refine mv E rfl fun a E=>bd hF fun c6 e7 hF=>lv E ok (qaH Tryz.underlying9 rfl rfl e7) fun a E=>lw E (qbk rfl rfl) fun a E=>pf E rfl rfl fun a E=>wn<|cf E rfl hF (fun c8 hF=>?_) fun c8 hF=>?_
 ·refine sg<|aw E rfl fun a E=>wp_ret<|qah ?_
  exact fin hF ⟨ok,E.d,rz E rfl⟩
 refine wp_skip<|qaa<|wp_seq<|sg<|mv E rfl fun a E=>lw E (qaI Tryz.underlying9 rfl) fun a E=>mv E rfl fun a E=>wn<|wp_block<|bd hF fun o10 hL hF=>qa9 _ (fun (s:Int) a w=>Ok u m0 (S) w ∧ Env 44 a [(0,vs s_0),(22,(vi (s_0.length:Int))),(23,vi s)] ∧ InR .i64 s) (fun (b:(Unit ⊕ Bool)) e a w=>(Sum.elim (fun b26=>e = (.exit 0) ∧ Ok u m0 (S) w ∧ Env 44 a []) (fun b27=>e = .ret ∧ qkO u m0 S b27 a w)) b) ?_ ?_ N _ a w hL ⟨ok,E.keep [0,22,23],(ir 0)⟩
 rotate_left
 ·intro e a w _ hO
  rcases o10 with o10 | o10
  rotate_left
  ·obtain ⟨rfl,hret⟩:=hO
   refine qaq<|qah ?_
   exact fin hF hret
  have hF:=qbV hF
  obtain ⟨rfl,ok,E⟩:=hO
  refine qbm<|qaa<|sg<|aw E rfl fun a E=>wp_ret ?_
  exact fin hF ⟨ok,E.d,rz E rfl⟩
 rintro v12 a w r ⟨ok,E,r13⟩ hF
 replace hF:qfE N s_0 v12 = some r:=hF
 unfold qfE at hF
 refine sg<|lw E (qaO rfl rfl) fun a E=>wn<|wp_seq<|cg E rfl hF (fun c14 hF=>?_) fun c14 hF=>?_
 ·refine wp_exit<|qaU ?_
  cases hF
  exact so (sl ⟨rfl,⟨ok,E.keep []⟩⟩)
 refine wp_skip<|qaa<|wp_seq<|wp_block<|sg<|mv E rfl fun a E=>av E rfl fun a E=>wn<|sg<|mz E rfl rfl fun a E=>bd hF fun c15 e16 hF=>lv E ok (qaH Tryz.underlying9 rfl rfl e16) fun a E=>bd hF fun r17 e18 hF=>lc E qq2 rfl (qme N (c15.toNat:Int) (InR.byte c15) e18 hG ok) fun w ok a E=>lw E (qaT rfl) fun a E=>mv E rfl fun a E=>bw E 31 hF (fun c19 hF E=>?_) fun c19 hF E=>?_
 ·refine lsz E fun a E=>pf E rfl rfl fun a E=>mv E rfl fun a E=>lsz E fun a E=>pf E rfl rfl fun a E=>wn<|c_if E rfl (fun h=>by cases h) (fun _=>?_)
  refine wp_skip<|qaf<|qaa<|qac<|lw E (qaA rfl rfl (InR.inc r13 (InR.len ls_0) c14)) fun a E=>mv E rfl fun a E=>wpList_nil ?_
  cases hF
  exact qar ⟨ok,E.keep [0,22,23],(InR.inc r13 (InR.len ls_0) c14)⟩
 refine mz E rfl rfl fun a E=>bd hF fun c20 e21 hF=>lv E ok (qaH Tryz.underlying9 rfl rfl e21) fun a E=>lw E (qbN rfl rfl) fun a E=>pt E rfl rfl fun a E=>mv E rfl fun a E=>bw E 37 hF (fun c22 hF E=>?_) fun c22 hF E=>?_
 ·refine lsz E fun a E=>pf E rfl rfl fun a E=>wn<|c_if E rfl (fun h=>by cases h) (fun _=>?_)
  refine wp_skip<|qaf<|qaa<|qac<|lw E (qaA rfl rfl (InR.inc r13 (InR.len ls_0) c14)) fun a E=>mv E rfl fun a E=>wpList_nil ?_
  cases hF
  exact qar ⟨ok,E.keep [0,22,23],(InR.inc r13 (InR.len ls_0) c14)⟩
 refine mz E rfl rfl fun a E=>bd hF fun c23 e24 hF=>lv E ok (qaH Tryz.underlying9 rfl rfl e24) fun a E=>lw E (qbN rfl rfl) fun a E=>pt E rfl rfl fun a E=>wn<|cg E rfl hF (fun c25 hF=>?_) fun c25 hF=>?_
 ·refine wp_skip<|qaf<|qaa<|qac<|lw E (qaA rfl rfl (InR.inc r13 (InR.len ls_0) c14)) fun a E=>mv E rfl fun a E=>wpList_nil ?_
  cases hF
  exact qar ⟨ok,E.keep [0,22,23],(InR.inc r13 (InR.len ls_0) c14)⟩
 refine sg<|aw E rfl fun a E=>wp_ret<|qaq<|qah ?_
 cases hF
 exact so (sr ⟨rfl,⟨ok,E.d,rz E rfl⟩⟩)
def qhR (u:World) (m0:Mem) (S:Segs) (r:Bool) (a:Act) (w:World):Prop :=
 Ok u m0 S w ∧ a.defers = [] ∧ RVs Tryz.prog a w [.t 2 (.bool r)]
theorem qla (N:Nat) (s_0:List UInt8) (ls_0:s_0.length ≤ LIMS) {r:Bool} (hF:qfi N s_0 = some r) (hG:Glob u) (ok:Ok u m0 S w) :
  Calls Tryz.prog 114 [vs s_0].toArray w fun e w'=>(e = .returned (.bool r) ∧ Ok u m0 S w'):=by
 unfold qfi at hF
 refine en (qhR u m0 S) r Tryz.func114 rfl rfl rfl (fun _ _ h=>ra h rfl) fun fin a E=>sg<|aw E rfl fun a E=>wp_seq<|sg<|mv E rfl fun a E=>lw E (qaI Tryz.underlying9 rfl) fun a E=>mv E rfl fun a E=>wn<|wp_block<|bd hF fun o2 hL hF=>qa9 _ (fun (s:Int) a w=>Ok u m0 (S) w ∧ Env 35 a [(0,vs s_0),(6,(vi (s_0.length:Int))),(7,vi s)] ∧ InR .i64 s) (fun (b:(Unit ⊕ Bool)) e a w=>(Sum.elim (fun b16=>e = (.exit 0) ∧ Ok u m0 (S) w ∧ Env 35 a [(0,vs s_0)]) (fun b17=>e = .ret ∧ qhR u m0 S b17 a w)) b) ?_ ?_ N _ a w hL ⟨ok,E.keep [0,6,7],(ir 0)⟩
 rotate_left
 ·intro e a w _ hO
  rcases o2 with o2 | o2
  rotate_left
  ·obtain ⟨rfl,hret⟩:=hO
   refine qaq<|qah ?_
   exact fin hF hret
  have hF:=qbV hF
  obtain ⟨rfl,ok,E⟩:=hO
  refine qbm<|qaa<|sg<|mv E rfl fun a E=>lw E (qce rfl rfl) fun a E=>mv E rfl fun a E=>bu E 30 hF (fun c15 hF E=>?_) fun c15 hF E=>?_
  ·refine mv E rfl fun a E=>lw E (qaI Tryz.underlying9 rfl) fun a E=>lw E (qc4 rfl rfl) fun a E=>pt E rfl rfl fun a E=>aw E rfl fun a E=>wp_ret ?_
   exact fin hF ⟨ok,E.d,rz E rfl⟩
  refine lsq E fun a E=>ls E fun a E=>pf E rfl rfl fun a E=>aw E rfl fun a E=>wp_ret ?_
  exact fin hF ⟨ok,E.d,rz E rfl⟩
 rintro v4 a w r ⟨ok,E,r5⟩ hF
 replace hF:qeo N s_0 v4 = some r:=hF
 unfold qeo at hF
 refine sg<|lw E (qaO rfl rfl) fun a E=>wn<|wp_seq<|cg E rfl hF (fun c6 hF=>?_) fun c6 hF=>?_
 ·refine wp_exit<|qaU ?_
  cases hF
  exact so (sl ⟨rfl,⟨ok,E.keep [0]⟩⟩)
 refine wp_skip<|qaa<|wp_seq<|wp_block<|sg<|mv E rfl fun a E=>av E rfl fun a E=>wn<|sg<|mz E rfl rfl fun a E=>bd hF fun c7 e8 hF=>lv E ok (qaH Tryz.underlying9 rfl rfl e8) fun a E=>aw E rfl fun a E=>wp_seq<|bd hF fun o9 hJ hF=>qaG (Q':=fun e a w=>e = .normal ∧ Ok u m0 (S) w ∧ Env 35 a [(0,vs s_0),(6,(vi (s_0.length:Int))),(7,vi v4),(26,vb o9)]) ?_ ?_
 rotate_left
 ·intro e a w hO
  obtain ⟨rfl,ok,E⟩:=hO
  refine qaa<|cg E rfl hF (fun c14 hF=>?_) fun c14 hF=>?_
  ·refine wp_skip<|qaf<|qaa<|qac<|lw E (qaA rfl rfl (InR.inc r5 (InR.len ls_0) c6)) fun a E=>mv E rfl fun a E=>wpList_nil ?_
   cases hF
   exact qar ⟨ok,E.keep [0,6,7],(InR.inc r5 (InR.len ls_0) c6)⟩
  refine sg<|aw E rfl fun a E=>wp_ret<|qaq<|qah ?_
  cases hF
  exact so (sr ⟨rfl,⟨ok,E.d,rz E rfl⟩⟩)
 have hF:=hJ
 refine qac<|mv E rfl fun a E=>lw E (qaO rfl rfl) fun a E=>mv E rfl fun a E=>bu E 15 hF (fun c10 hF E=>?_) fun c10 hF E=>?_
 ·refine lsq E fun a E=>pt E rfl rfl fun a E=>mz E rfl rfl fun a E=>lw E (qaO rfl rfl) fun a E=>mv E rfl fun a E=>bu E 22 hF (fun c11 hF E=>?_) fun c11 hF E=>?_
  ·refine lsq E fun a E=>pt E rfl rfl fun a E=>pt E rfl rfl fun a E=>wpList_nil ?_
   cases hF
   exact ⟨rfl,⟨ok,E.keep [0,6,7,26]⟩⟩
  refine mv E rfl fun a E=>lw E (qbk rfl rfl) fun a E=>pf E rfl rfl fun a E=>pt E rfl rfl fun a E=>wpList_nil ?_
  cases hF
  exact ⟨rfl,⟨ok,E.keep [0,6,7,26]⟩⟩
 refine mv E rfl fun a E=>lw E (qbk rfl rfl) fun a E=>pf E rfl rfl fun a E=>mv E rfl fun a E=>bw E 19 hF (fun c12 hF E=>?_) fun c12 hF E=>?_
 ·refine lsz E fun a E=>lsq E fun a E=>pf E rfl rfl fun a E=>wpList_nil ?_
  cases hF
  exact ⟨rfl,⟨ok,E.keep [0,6,7,26]⟩⟩
 refine mv E rfl fun a E=>lw E (qaO rfl rfl) fun a E=>mv E rfl fun a E=>bu E 22 hF (fun c13 hF E=>?_) fun c13 hF E=>?_
 ·refine lsq E fun a E=>pt E rfl rfl fun a E=>pt E rfl rfl fun a E=>wpList_nil ?_
  cases hF
  exact ⟨rfl,⟨ok,E.keep [0,6,7,26]⟩⟩
 refine mv E rfl fun a E=>lw E (qbk rfl rfl) fun a E=>pf E rfl rfl fun a E=>pt E rfl rfl fun a E=>wpList_nil ?_
 cases hF
 exact ⟨rfl,⟨ok,E.keep [0,6,7,26]⟩⟩
def qlA (u:World) (m0:Mem) (S:Segs) (r:Bool) (a:Act) (w:World):Prop :=
 Ok u m0 S w ∧ a.defers = [] ∧ RVs Tryz.prog a w [.t 2 (.bool r)]
theorem qlU (N:Nat) (vx_0:List Value) (x_0:Part) (hx_0:qa0 m0 vx_0 x_0) {r:Bool} (hF:qe5 N x_0 = some r) (hG:Glob u) (ok:Ok u m0 S w) :
  Calls Tryz.prog 90 [.agg vx_0.toArray].toArray w fun e w'=>(e = .returned (.bool r) ∧ Ok u m0 S w'):=by
 obtain ⟨c5,c7,rfl,r1,l2,l3,l4,h6,h8⟩:=(qaK.1 hx_0)
 have le_m0:=Mem.le.refl m0
 unfold qe5 at hF
 refine en (qlA u m0 S) r Tryz.func90 rfl rfl rfl (fun _ _ h=>ra h rfl) fun fin a E=>sg<|qfY E ok rfl rfl rfl fun b9 a w E ok=>aw E rfl fun a E=>sg<|fk E ok qay qap rfl 0 rfl rfl fun a E=>lw E (qau (ps:=[(0,.tmp 6)]) (qs:=[(0,[vi x_0.Kind])]) (cs:=[vi x_0.Kind,(vs ([])),(vs ([])),(vs ([])),(Value.slice none 0 0),(Value.slice none 0 0)]) qbv qfk rfl ⟨rfl,rfl,rfl,trivial⟩ rfl) fun a E=>qa4 E ok qbv rfl rfl fun b10 a w E ok=>qae E ok 0 rfl rfl rfl qfd rfl rfl ⟨rfl,rfl,rfl,rfl,rfl,rfl,trivial⟩ rfl rfl fun w ok=>wn<|sg<|aw E rfl fun a E=>wp_seq<|sg<|fk E ok qay qap rfl 1 rfl rfl fun a E=>wn<|wp_block<|sg<|lw E (qao rfl rfl) fun a E=>?_
 refine aw E rfl fun a E=>bd hF fun o11 hJ hF=>qaG (Q':=fun e a w=>e = .normal ∧ Ok u m0 ([(b10,oc 82 [vi o11.2.Kind,vs o11.2.Text,vs o11.2.Name,vs o11.2.Style,(Value.slice none 0 0),(Value.slice none 0 0)])] :: [(b9,oc 82 [vi x_0.Kind,vs x_0.Text,vs x_0.Name,vs x_0.Style,c5,c7])] :: S) w ∧ Env 136 a [(1,vp b9),(3,vp b10),(4,vb o11.1)] ∧ InR .i64 o11.2.Kind ∧ o11.2.Text.length ≤ LIMS ∧ o11.2.Name.length ≤ LIMS ∧ o11.2.Style.length ≤ LIMS) ?_ ?_
 ·as_aux_lemma =>
   have hF:=hJ
   refine cf E rfl hF (fun c16 hF=>?_) fun c16 hF=>?_
   ·refine sg<|fk E ok qcz qak rfl 1 rfl rfl fun a E=>fv E qcz rfl fun a E=>qae E ok 0 rfl rfl rfl qcM rfl rfl ⟨rfl,trivial⟩ rfl rfl fun w ok=>wn<|qac<|fk E ok qcz qak rfl 1 rfl rfl fun a E=>lw E (qce rfl rfl) fun a E=>av E rfl fun a E=>wpList_nil ?_
    cases hF
    exact ⟨rfl,⟨ok,E.keep [1,3,4],r1,l2,(Nat.zero_le _),(Nat.zero_le _)⟩⟩
   refine wp_seq<|sg<|lw E (qao rfl rfl) fun a E=>aw E rfl fun a E=>bd hF fun o17 hJ hF=>qaG (Q':=fun e a w=>e = .normal ∧ Ok u m0 ([(b10,oc 82 [vi x_0.Kind,(vs ([])),(vs ([])),(vs ([])),(Value.slice none 0 0),(Value.slice none 0 0)])] :: [(b9,oc 82 [vi x_0.Kind,vs x_0.Text,vs x_0.Name,vs x_0.Style,c5,c7])] :: S) w ∧ Env 136 a [(1,vp b9),(3,vp b10),(4,vb true),(9,vi x_0.Kind),(18,vb o17)]) ?_ ?_
   ·have hF:=hJ
    refine cf E rfl hF (fun c18 hF=>?_) fun c18 hF=>?_
    ·refine wp_skip ?_
     cases hF
     exact ⟨rfl,⟨ok,E.keep [1,3,4,9,18]⟩⟩
    refine sg<|lw E (qao rfl rfl) fun a E=>aw E rfl fun a E=>cf E rfl hF (fun c19 hF=>?_) fun c19 hF=>?_
    ·refine wp_skip ?_
     cases hF
     exact ⟨rfl,⟨ok,E.keep [1,3,4,9,18]⟩⟩
    refine sg<|lw E (qao rfl rfl) fun a E=>aw E rfl fun a E=>cf E rfl hF (fun c20 hF=>?_) fun c20 hF=>?_
    ·refine wp_skip ?_
     cases hF
     exact ⟨rfl,⟨ok,E.keep [1,3,4,9,18]⟩⟩
    refine sg<|lw E (qao rfl rfl) fun a E=>aw E rfl fun a E=>cf E rfl hF (fun c21 hF=>?_) fun c21 hF=>?_
    ·refine wp_skip ?_
     cases hF
     exact ⟨rfl,⟨ok,E.keep [1,3,4,9,18]⟩⟩
    refine qac<|lw E (qao rfl rfl) fun a E=>av E rfl fun a E=>wpList_nil ?_
    cases hF
    exact ⟨rfl,⟨ok,E.keep [1,3,4,9,18]⟩⟩
   intro e a w hO
   obtain ⟨rfl,ok,E⟩:=hO
   refine qaa<|cf E rfl hF (fun c22 hF=>?_) fun c22 hF=>?_
   ·refine qac<|fk E ok qaN qak rfl 1 rfl rfl fun a E=>fv E qaN rfl fun a E=>qae E ok 0 rfl rfl rfl qcM rfl rfl ⟨rfl,trivial⟩ rfl rfl fun w ok=>wpList_nil ?_
    cases hF
    exact ⟨rfl,⟨ok,E.keep [1,3,4],r1,(Nat.zero_le _),l3,(Nat.zero_le _)⟩⟩
   refine sg<|lw E (qao rfl rfl) fun a E=>aw E rfl fun a E=>cf E rfl hF (fun c23 hF=>?_) fun c23 hF=>?_
   ·as_aux_lemma =>
     refine wp_seq<|bd hF fun o24 hJ hF=>qaG (Q':=fun e a w=>e = .normal ∧ Ok u m0 ([(b10,oc 82 [vi o24.Kind,vs o24.Text,vs o24.Name,vs o24.Style,(Value.slice none 0 0),(Value.slice none 0 0)])] :: [(b9,oc 82 [vi x_0.Kind,vs x_0.Text,vs x_0.Name,vs x_0.Style,c5,c7])] :: S) w ∧ Env 136 a [(1,vp b9),(3,vp b10)] ∧ InR .i64 o24.Kind ∧ o24.Text.length ≤ LIMS ∧ o24.Name.length ≤ LIMS ∧ o24.Style.length ≤ LIMS) ?_ ?_
     ·have hF:=hJ
      cases hF
      refine qbI [1] (Cls u m0 ([(b10,oc 82 [vi x_0.Kind,(vs ([])),(vs ([])),(vs ([])),(Value.slice none 0 0),(Value.slice none 0 0)])] :: [(b9,oc 82 [vi x_0.Kind,vs x_0.Text,vs x_0.Name,vs x_0.Style,c5,c7])] :: [])) (Cls u m0 ([(b9,oc 82 [vi x_0.Kind,vs x_0.Text,vs x_0.Name,vs x_0.Style,c5,c7])] :: [])) (by kernel_rfl) ?_
      intro w hw
      replace ok:=qb3 ok hw
      clear hw
      refine qaw (cl1 (cq le_m0 ok [0,1] rfl) (cq le_m0 ok [1] rfl)) fun hT=>kt 0 E rfl hT (qaj qaN rfl) fun a E=>qdy 1 E rfl (by kernel_rfl) nP hT (qat qak rfl (qad.cown 1 rfl rfl)) rfl rfl fun a E=>kt 2 E rfl hT (qaj qaW rfl) fun a E=>kt 3 E rfl hT (qat qak rfl (qad.cown 0 rfl rfl)) fun a E=>kt 4 E rfl hT (qaj qaN rfl) fun a E=>qa1 [5] (by kernel_rfl) rfl (qa8 ?_)
      ·refine wo rfl<|qae E ok 0 rfl rfl rfl qcM rfl rfl ⟨rfl,trivial⟩ rfl rfl fun w ok=>wn<|qaw (cl2 (by kernel_rfl) (cq le_m0 ok [1] rfl)) fun hT=>kt 6 E rfl hT (qaj qaW rfl) fun a E=>qa1 [7] (by kernel_rfl) rfl (qa8 ?_)
       ·refine wo rfl<|qae E ok 0 rfl rfl rfl qcM rfl rfl ⟨rfl,trivial⟩ rfl rfl fun w ok=>wn<|qaw (cl2 (by kernel_rfl) (cq le_m0 ok [1] rfl)) fun hT=>qbK (by kernel_rfl) ?_
        exact ⟨rfl,⟨ok,E.keep [1,3],r1,(Nat.zero_le _),l3,l4⟩⟩
     intro e a w hO
     obtain ⟨rfl,ok,E,r29,l30,l31,l32⟩:=hO
     refine qaa<|qac<|fk E ok qaW qak rfl 1 rfl rfl fun a E=>lw E (qbt rfl rfl) fun a E=>mv E rfl fun a E=>bu E 38 hF (fun c33 hF E=>?_) fun c33 hF E=>?_
     ·refine lsq E fun a E=>ls E fun a E=>pt E rfl rfl fun a E=>mv E rfl fun a E=>lsq E fun a E=>ls E fun a E=>pt E rfl rfl fun a E=>av E rfl fun a E=>wpList_nil ?_
      cases hF
      exact ⟨rfl,⟨ok,E.keep [1,3,4],r29,l30,l31,l32⟩⟩
     refine fk E ok qaW qak rfl 1 rfl rfl fun a E=>lw E (qbt rfl rfl) fun a E=>pf E rfl rfl fun a E=>mv E rfl fun a E=>bu E 43 hF (fun c34 hF E=>?_) fun c34 hF E=>?_
     ·refine lsq E fun a E=>ls E fun a E=>pt E rfl rfl fun a E=>av E rfl fun a E=>wpList_nil ?_
      cases hF
      exact ⟨rfl,⟨ok,E.keep [1,3,4],r29,l30,l31,l32⟩⟩
     refine fk E ok qaW qak rfl 1 rfl rfl fun a E=>lw E (qbt rfl rfl) fun a E=>pf E rfl rfl fun a E=>av E rfl fun a E=>wpList_nil ?_
     cases hF
     exact ⟨rfl,⟨ok,E.keep [1,3,4],r29,l30,l31,l32⟩⟩
   refine wp_seq<|sg<|lw E (qao rfl rfl) fun a E=>aw E rfl fun a E=>bd hF fun o35 hJ hF=>qaG (Q':=fun e a w=>e = .normal ∧ Ok u m0 ([(b10,oc 82 [vi x_0.Kind,(vs ([])),(vs ([])),(vs ([])),(Value.slice none 0 0),(Value.slice none 0 0)])] :: [(b9,oc 82 [vi x_0.Kind,vs x_0.Text,vs x_0.Name,vs x_0.Style,c5,c7])] :: S) w ∧ Env 136 a [(1,vp b9),(3,vp b10),(4,vb true),(9,vi x_0.Kind),(48,vb o35)]) ?_ ?_
   ·have hF:=hJ
    refine cf E rfl hF (fun c36 hF=>?_) fun c36 hF=>?_
    ·refine wp_skip ?_
     cases hF
     exact ⟨rfl,⟨ok,E.keep [1,3,4,9,48]⟩⟩
    refine qac<|lw E (qao rfl rfl) fun a E=>av E rfl fun a E=>wpList_nil ?_
    cases hF
    exact ⟨rfl,⟨ok,E.keep [1,3,4,9,48]⟩⟩
   intro e a w hO
   obtain ⟨rfl,ok,E⟩:=hO
   refine qaa<|cf E rfl hF (fun c37 hF=>?_) fun c37 hF=>?_
   ·refine wp_seq<|bd hF fun o38 hJ hF=>qaG (Q':=fun e a w=>e = .normal ∧ Ok u m0 ([(b10,oc 82 [vi o38.Kind,vs o38.Text,vs o38.Name,vs o38.Style,(Value.slice none 0 0),(Value.slice none 0 0)])] :: [(b9,oc 82 [vi x_0.Kind,vs x_0.Text,vs x_0.Name,vs x_0.Style,c5,c7])] :: S) w ∧ Env 136 a [(1,vp b9),(3,vp b10)] ∧ InR .i64 o38.Kind ∧ o38.Text.length ≤ LIMS ∧ o38.Name.length ≤ LIMS ∧ o38.Style.length ≤ LIMS) ?_ ?_
    rotate_left
    ·intro e a w hO
     obtain ⟨rfl,ok,E,r43,l44,l45,l46⟩:=hO
     refine qaa<|qac<|fk E ok qaW qak rfl 1 rfl rfl fun a E=>bd hF fun r47 e48 hF=>lc E qlT rfl (qg5 N x_0.Style l4 e48 hG ok) fun w ok a E=>av E rfl fun a E=>wpList_nil ?_
     cases hF
     exact ⟨rfl,⟨ok,E.keep [1,3,4],r43,l44,l45,l46⟩⟩
    have hF:=hJ
    cases hF
    refine qbI [1] (Cls u m0 ([(b10,oc 82 [vi x_0.Kind,(vs ([])),(vs ([])),(vs ([])),(Value.slice none 0 0),(Value.slice none 0 0)])] :: [(b9,oc 82 [vi x_0.Kind,vs x_0.Text,vs x_0.Name,vs x_0.Style,c5,c7])] :: [])) (Cls u m0 ([(b9,oc 82 [vi x_0.Kind,vs x_0.Text,vs x_0.Name,vs x_0.Style,c5,c7])] :: [])) (by kernel_rfl) ?_
    intro w hw
    replace ok:=qb3 ok hw
    clear hw
    refine qaw (cl1 (cq le_m0 ok [0,1] rfl) (cq le_m0 ok [1] rfl)) fun hT=>kt 0 E rfl hT (qaj qaN rfl) fun a E=>qdy 1 E rfl (by kernel_rfl) nP hT (qat qak rfl (qad.cown 1 rfl rfl)) rfl rfl fun a E=>kt 2 E rfl hT (qaj qaW rfl) fun a E=>kt 3 E rfl hT (qat qak rfl (qad.cown 0 rfl rfl)) fun a E=>kt 4 E rfl hT (qaj qaN rfl) fun a E=>qa1 [5] (by kernel_rfl) rfl (qa8 ?_)
    ·refine wo rfl<|qae E ok 0 rfl rfl rfl qcM rfl rfl ⟨rfl,trivial⟩ rfl rfl fun w ok=>wn<|qaw (cl2 (by kernel_rfl) (cq le_m0 ok [1] rfl)) fun hT=>kt 6 E rfl hT (qaj qaW rfl) fun a E=>qa1 [7] (by kernel_rfl) rfl (qa8 ?_)
     ·refine wo rfl<|qae E ok 0 rfl rfl rfl qcM rfl rfl ⟨rfl,trivial⟩ rfl rfl fun w ok=>wn<|qaw (cl2 (by kernel_rfl) (cq le_m0 ok [1] rfl)) fun hT=>qbK (by kernel_rfl) ?_
      exact ⟨rfl,⟨ok,E.keep [1,3],r1,(Nat.zero_le _),l3,l4⟩⟩
   refine sg<|lw E (qao rfl rfl) fun a E=>aw E rfl fun a E=>cg E rfl hF (fun c49 hF=>?_) fun c49 hF=>?_
   ·refine sg<|lw E (qao rfl rfl) fun a E=>aw E rfl fun a E=>cf E rfl hF (fun c61 hF=>?_) fun c61 hF=>?_
    ·refine wp_skip ?_
     cases hF
     exact ⟨rfl,⟨ok,E.keep [1,3,4],r1,(Nat.zero_le _),(Nat.zero_le _),(Nat.zero_le _)⟩⟩
    refine qac<|av E rfl fun a E=>wpList_nil ?_
    cases hF
    exact ⟨rfl,⟨ok,E.keep [1,3,4],r1,(Nat.zero_le _),(Nat.zero_le _),(Nat.zero_le _)⟩⟩
   refine wp_seq<|bd hF fun o50 hJ hF=>qaG (Q':=fun e a w=>e = .normal ∧ Ok u m0 ([(b10,oc 82 [vi o50.Kind,vs o50.Text,vs o50.Name,vs o50.Style,(Value.slice none 0 0),(Value.slice none 0 0)])] :: [(b9,oc 82 [vi x_0.Kind,vs x_0.Text,vs x_0.Name,vs x_0.Style,c5,c7])] :: S) w ∧ Env 136 a [(1,vp b9),(3,vp b10)] ∧ InR .i64 o50.Kind ∧ o50.Text.length ≤ LIMS ∧ o50.Name.length ≤ LIMS ∧ o50.Style.length ≤ LIMS) ?_ ?_
   rotate_left
   ·intro e a w hO
    obtain ⟨rfl,ok,E,r55,l56,l57,l58⟩:=hO
    refine qaa<|qac<|fk E ok qaW qak rfl 1 rfl rfl fun a E=>bd hF fun r59 e60 hF=>lc E qrC rfl (qla N x_0.Style l4 e60 hG ok) fun w ok a E=>av E rfl fun a E=>wpList_nil ?_
    cases hF
    exact ⟨rfl,⟨ok,E.keep [1,3,4],r55,l56,l57,l58⟩⟩
   have hF:=hJ
   cases hF
   refine qbI [1] (Cls u m0 ([(b10,oc 82 [vi x_0.Kind,(vs ([])),(vs ([])),(vs ([])),(Value.slice none 0 0),(Value.slice none 0 0)])] :: [(b9,oc 82 [vi x_0.Kind,vs x_0.Text,vs x_0.Name,vs x_0.Style,c5,c7])] :: [])) (Cls u m0 ([(b9,oc 82 [vi x_0.Kind,vs x_0.Text,vs x_0.Name,vs x_0.Style,c5,c7])] :: [])) (by kernel_rfl) ?_
   intro w hw
   replace ok:=qb3 ok hw
   clear hw
   refine qaw (cl1 (cq le_m0 ok [0,1] rfl) (cq le_m0 ok [1] rfl)) fun hT=>kt 0 E rfl hT (qaj qaN rfl) fun a E=>qdy 1 E rfl (by kernel_rfl) nP hT (qat qak rfl (qad.cown 1 rfl rfl)) rfl rfl fun a E=>kt 2 E rfl hT (qaj qaW rfl) fun a E=>kt 3 E rfl hT (qat qak rfl (qad.cown 0 rfl rfl)) fun a E=>kt 4 E rfl hT (qaj qaN rfl) fun a E=>qa1 [5] (by kernel_rfl) rfl (qa8 ?_)
   ·refine wo rfl<|qae E ok 0 rfl rfl rfl qcM rfl rfl ⟨rfl,trivial⟩ rfl rfl fun w ok=>wn<|qaw (cl2 (by kernel_rfl) (cq le_m0 ok [1] rfl)) fun hT=>kt 6 E rfl hT (qaj qaW rfl) fun a E=>qa1 [7] (by kernel_rfl) rfl (qa8 ?_)
    ·refine wo rfl<|qae E ok 0 rfl rfl rfl qcM rfl rfl ⟨rfl,trivial⟩ rfl rfl fun w ok=>wn<|qaw (cl2 (by kernel_rfl) (cq le_m0 ok [1] rfl)) fun hT=>qbK (by kernel_rfl) ?_
     exact ⟨rfl,⟨ok,E.keep [1,3],r1,(Nat.zero_le _),l3,l4⟩⟩
 intro e a w hO
 obtain ⟨rfl,ok,E,r62,l63,l64,l65⟩:=hO
 refine qaf<|qaa<|wp_seq<|sg<|fk E ok qaN qak rfl 0 rfl rfl fun a E=>lw E (qce rfl rfl) fun a E=>mv E rfl fun a E=>bu E 76 hF (fun c66 hF E=>?_) fun c66 hF E=>?_
 ·as_aux_lemma =>
   refine lsz E fun a E=>lsz E fun a E=>pt E rfl rfl fun a E=>wn<|c_if E rfl (fun _=>?_) (fun h=>by cases h)
   refine qac<|mz E rfl rfl fun a E=>qbj o11.1 (fun c67=>?_) (fun c67=>?_)
   rotate_left
   ·have hF:=qbg c67 hF
    have E:=E.upd 87 c67 rfl
    refine lsq E fun a E=>ls E fun a E=>pf E rfl rfl fun a E=>aw E rfl fun a E=>sg<|mz E rfl rfl fun a E=>lsz E fun a E=>ls E fun a E=>?_
    refine pf E rfl rfl fun a E=>mv E rfl fun a E=>lsz E fun a E=>ls E fun a E=>pf E rfl rfl fun a E=>mv E rfl fun a E=>lsz E fun a E=>ls E fun a E=>pf E rfl rfl fun a E=>mv E rfl fun a E=>?_
    refine lsz E fun a E=>lsz E fun a E=>ls E fun a E=>pf E rfl rfl fun a E=>mv E rfl fun a E=>lsz E fun a E=>ls E fun a E=>?_
    refine lsz E fun a E=>pf E rfl rfl fun a E=>aw E rfl fun a E=>wp_ret ?_
    exact fin hF ⟨ok.drop.drop,E.d,rz E rfl⟩
   have hF:=qbh c67 hF
   have E:=E.upd 87 c67 rfl
   refine fk E ok qaN qak rfl 1 rfl rfl fun a E=>bd hF fun r68 e69 hF=>lc E qlT rfl (qg5 N x_0.Name l3 e69 hG ok) fun w ok a E=>pt E rfl rfl fun a E=>aw E rfl fun a E=>sg<|mz E rfl rfl fun a E=>qbj r68 (fun c70=>?_) (fun c70=>?_)
   rotate_left
   ·have hF:=qbg c70 hF
    have E:=E.upd 93 c70 rfl
    refine lsz E fun a E=>ls E fun a E=>pf E rfl rfl fun a E=>mv E rfl fun a E=>lsz E fun a E=>ls E fun a E=>pf E rfl rfl fun a E=>mv E rfl fun a E=>lsq E fun a E=>?_
    refine lsq E fun a E=>ls E fun a E=>pf E rfl rfl fun a E=>mv E rfl fun a E=>lsz E fun a E=>lsz E fun a E=>ls E fun a E=>pf E rfl rfl fun a E=>mv E rfl fun a E=>?_
    refine lsz E fun a E=>lsz E fun a E=>ls E fun a E=>pf E rfl rfl fun a E=>aw E rfl fun a E=>wp_ret ?_
    exact fin hF ⟨ok.drop.drop,E.d,rz E rfl⟩
   have hF:=qbh c70 hF
   have E:=E.upd 93 c70 rfl
   refine fk E ok qcz qak rfl 1 rfl rfl fun a E=>fk E ok qcz qak rfl 0 rfl rfl fun a E=>lw E (qbt rfl rfl) fun a E=>pt E rfl rfl fun a E=>mv E rfl fun a E=>bw E 100 hF (fun c71 hF E=>?_) fun c71 hF E=>?_
   ·refine lsz E fun a E=>ls E fun a E=>pf E rfl rfl fun a E=>mv E rfl fun a E=>lsz E fun a E=>ls E fun a E=>pf E rfl rfl fun a E=>mv E rfl fun a E=>lsq E fun a E=>?_
    refine lsz E fun a E=>lsq E fun a E=>ls E fun a E=>pf E rfl rfl fun a E=>mv E rfl fun a E=>lsz E fun a E=>lsq E fun a E=>ls E fun a E=>?_
    refine lsq E fun a E=>pf E rfl rfl fun a E=>aw E rfl fun a E=>wp_ret ?_
    exact fin hF ⟨ok.drop.drop,E.d,rz E rfl⟩
   refine fk E ok qaN qak rfl 1 rfl rfl fun a E=>fk E ok qaN qak rfl 0 rfl rfl fun a E=>lw E (qbt rfl rfl) fun a E=>pt E rfl rfl fun a E=>mv E rfl fun a E=>bw E 107 hF (fun c72 hF E=>?_) fun c72 hF E=>?_
   ·refine lsz E fun a E=>ls E fun a E=>pf E rfl rfl fun a E=>mv E rfl fun a E=>lsz E fun a E=>lsz E fun a E=>ls E fun a E=>?_
    refine pf E rfl rfl fun a E=>mv E rfl fun a E=>lsz E fun a E=>lsz E fun a E=>ls E fun a E=>pf E rfl rfl fun a E=>aw E rfl fun a E=>wp_ret ?_
    exact fin hF ⟨ok.drop.drop,E.d,rz E rfl⟩
   refine fk E ok qaW qak rfl 1 rfl rfl fun a E=>fk E ok qaW qak rfl 0 rfl rfl fun a E=>lw E (qbt rfl rfl) fun a E=>pt E rfl rfl fun a E=>mv E rfl fun a E=>bw E 114 hF (fun c73 hF E=>?_) fun c73 hF E=>?_
   ·refine lsz E fun a E=>lsz E fun a E=>ls E fun a E=>pf E rfl rfl fun a E=>mv E rfl fun a E=>lsz E fun a E=>ls E fun a E=>?_
    refine lsz E fun a E=>pf E rfl rfl fun a E=>aw E rfl fun a E=>wp_ret ?_
    exact fin hF ⟨ok.drop.drop,E.d,rz E rfl⟩
   refine fk E ok qa2 qbo rfl 1 rfl rfl fun a E=>lv E ok (qaQ qbr h6 rfl) fun a E=>lw E (qao rfl rfl) fun a E=>mv E rfl fun a E=>bu E 119 hF (fun c74 hF E=>?_) fun c74 hF E=>?_
   ·refine lsq E fun a E=>ls E fun a E=>pt E rfl rfl fun a E=>pt E rfl rfl fun a E=>mv E rfl fun a E=>fk E ok qbR qbu rfl 1 rfl rfl fun a E=>lv E ok (qaQ qbc h8 rfl) fun a E=>lw E (qao rfl rfl) fun a E=>mv E rfl fun a E=>bu E 130 hF (fun c75 hF E=>?_) fun c75 hF E=>?_
    ·refine lsq E fun a E=>ls E fun a E=>pt E rfl rfl fun a E=>pt E rfl rfl fun a E=>aw E rfl fun a E=>wp_ret ?_
     exact fin hF ⟨ok.drop.drop,E.d,rz E rfl⟩
    refine fk E ok qay qap rfl 1 rfl rfl fun a E=>lw E (qao rfl rfl) fun a E=>pf E rfl rfl fun a E=>pt E rfl rfl fun a E=>aw E rfl fun a E=>wp_ret ?_
    exact fin hF ⟨ok.drop.drop,E.d,rz E rfl⟩
   refine fk E ok qay qap rfl 1 rfl rfl fun a E=>bd hF fun r76 e77 hF=>lc E qiQ rfl (qcO N x_0.Kind r1 e77 hG ok) fun w ok a E=>pf E rfl rfl fun a E=>pt E rfl rfl fun a E=>mv E rfl fun a E=>qbj r76 (fun c78=>?_) (fun c78=>?_)
   rotate_left
   ·have hF:=qbg c78 hF
    have E:=E.upd 125 c78 rfl
    refine lsz E fun a E=>lsz E fun a E=>ls E fun a E=>pf E rfl rfl fun a E=>aw E rfl fun a E=>wp_ret ?_
    exact fin hF ⟨ok.drop.drop,E.d,rz E rfl⟩
   have hF:=qbh c78 hF
   have E:=E.upd 125 c78 rfl
   refine fk E ok qbR qbu rfl 1 rfl rfl fun a E=>lv E ok (qaQ qbc h8 rfl) fun a E=>lw E (qao rfl rfl) fun a E=>mv E rfl fun a E=>bu E 130 hF (fun c79 hF E=>?_) fun c79 hF E=>?_
   ·refine lsq E fun a E=>ls E fun a E=>pt E rfl rfl fun a E=>pt E rfl rfl fun a E=>aw E rfl fun a E=>wp_ret ?_
    exact fin hF ⟨ok.drop.drop,E.d,rz E rfl⟩
   refine fk E ok qay qap rfl 1 rfl rfl fun a E=>lw E (qao rfl rfl) fun a E=>pf E rfl rfl fun a E=>pt E rfl rfl fun a E=>aw E rfl fun a E=>wp_ret ?_
   exact fin hF ⟨ok.drop.drop,E.d,rz E rfl⟩
 refine fk E ok qay qap rfl 1 rfl rfl fun a E=>lw E (qbN rfl rfl) fun a E=>mv E rfl fun a E=>bw E 80 hF (fun c80 hF E=>?_) fun c80 hF E=>?_
 ·as_aux_lemma =>
   refine lsq E fun a E=>ls E fun a E=>pf E rfl rfl fun a E=>pf E rfl rfl fun a E=>wn<|c_if E rfl (fun h=>by cases h) (fun _=>?_)
   refine wp_skip<|qaa<|sg<|mz E rfl rfl fun a E=>qbj o11.1 (fun c96=>?_) (fun c96=>?_)
   rotate_left
   ·have hF:=qbg c96 hF
    have E:=E.upd 93 c96 rfl
    refine lsz E fun a E=>ls E fun a E=>pf E rfl rfl fun a E=>mv E rfl fun a E=>lsz E fun a E=>ls E fun a E=>pf E rfl rfl fun a E=>mv E rfl fun a E=>lsq E fun a E=>?_
    refine lsq E fun a E=>ls E fun a E=>pf E rfl rfl fun a E=>mv E rfl fun a E=>lsz E fun a E=>lsz E fun a E=>ls E fun a E=>pf E rfl rfl fun a E=>mv E rfl fun a E=>?_
    refine lsz E fun a E=>lsz E fun a E=>ls E fun a E=>pf E rfl rfl fun a E=>aw E rfl fun a E=>wp_ret ?_
    exact fin hF ⟨ok.drop.drop,E.d,rz E rfl⟩
   have hF:=qbh c96 hF
   have E:=E.upd 93 c96 rfl
   refine fk E ok qcz qak rfl 1 rfl rfl fun a E=>fk E ok qcz qak rfl 0 rfl rfl fun a E=>lw E (qbt rfl rfl) fun a E=>pt E rfl rfl fun a E=>mv E rfl fun a E=>bw E 100 hF (fun c97 hF E=>?_) fun c97 hF E=>?_
   ·refine lsz E fun a E=>ls E fun a E=>pf E rfl rfl fun a E=>mv E rfl fun a E=>lsz E fun a E=>ls E fun a E=>pf E rfl rfl fun a E=>mv E rfl fun a E=>lsq E fun a E=>?_
    refine lsz E fun a E=>lsq E fun a E=>ls E fun a E=>pf E rfl rfl fun a E=>mv E rfl fun a E=>lsz E fun a E=>lsq E fun a E=>ls E fun a E=>?_
    refine lsq E fun a E=>pf E rfl rfl fun a E=>aw E rfl fun a E=>wp_ret ?_
    exact fin hF ⟨ok.drop.drop,E.d,rz E rfl⟩
   refine fk E ok qaN qak rfl 1 rfl rfl fun a E=>fk E ok qaN qak rfl 0 rfl rfl fun a E=>lw E (qbt rfl rfl) fun a E=>pt E rfl rfl fun a E=>mv E rfl fun a E=>bw E 107 hF (fun c98 hF E=>?_) fun c98 hF E=>?_
   ·refine lsz E fun a E=>ls E fun a E=>pf E rfl rfl fun a E=>mv E rfl fun a E=>lsz E fun a E=>lsz E fun a E=>ls E fun a E=>?_
    refine pf E rfl rfl fun a E=>mv E rfl fun a E=>lsz E fun a E=>lsz E fun a E=>ls E fun a E=>pf E rfl rfl fun a E=>aw E rfl fun a E=>wp_ret ?_
    exact fin hF ⟨ok.drop.drop,E.d,rz E rfl⟩
   refine fk E ok qaW qak rfl 1 rfl rfl fun a E=>fk E ok qaW qak rfl 0 rfl rfl fun a E=>lw E (qbt rfl rfl) fun a E=>pt E rfl rfl fun a E=>mv E rfl fun a E=>bw E 114 hF (fun c99 hF E=>?_) fun c99 hF E=>?_
   ·refine lsz E fun a E=>lsz E fun a E=>ls E fun a E=>pf E rfl rfl fun a E=>mv E rfl fun a E=>lsz E fun a E=>ls E fun a E=>?_
    refine lsz E fun a E=>pf E rfl rfl fun a E=>aw E rfl fun a E=>wp_ret ?_
    exact fin hF ⟨ok.drop.drop,E.d,rz E rfl⟩
   refine fk E ok qa2 qbo rfl 1 rfl rfl fun a E=>lv E ok (qaQ qbr h6 rfl) fun a E=>lw E (qao rfl rfl) fun a E=>mv E rfl fun a E=>bu E 119 hF (fun c100 hF E=>?_) fun c100 hF E=>?_
   ·refine lsq E fun a E=>ls E fun a E=>pt E rfl rfl fun a E=>pt E rfl rfl fun a E=>mv E rfl fun a E=>fk E ok qbR qbu rfl 1 rfl rfl fun a E=>lv E ok (qaQ qbc h8 rfl) fun a E=>lw E (qao rfl rfl) fun a E=>mv E rfl fun a E=>bu E 130 hF (fun c101 hF E=>?_) fun c101 hF E=>?_
    ·refine lsq E fun a E=>ls E fun a E=>pt E rfl rfl fun a E=>pt E rfl rfl fun a E=>aw E rfl fun a E=>wp_ret ?_
     exact fin hF ⟨ok.drop.drop,E.d,rz E rfl⟩
    refine fk E ok qay qap rfl 1 rfl rfl fun a E=>lw E (qao rfl rfl) fun a E=>pf E rfl rfl fun a E=>pt E rfl rfl fun a E=>aw E rfl fun a E=>wp_ret ?_
    exact fin hF ⟨ok.drop.drop,E.d,rz E rfl⟩
   refine fk E ok qay qap rfl 1 rfl rfl fun a E=>bd hF fun r102 e103 hF=>lc E qiQ rfl (qcO N x_0.Kind r1 e103 hG ok) fun w ok a E=>pf E rfl rfl fun a E=>pt E rfl rfl fun a E=>mv E rfl fun a E=>qbj r102 (fun c104=>?_) (fun c104=>?_)
   rotate_left
   ·have hF:=qbg c104 hF
    have E:=E.upd 125 c104 rfl
    refine lsz E fun a E=>lsz E fun a E=>ls E fun a E=>pf E rfl rfl fun a E=>aw E rfl fun a E=>wp_ret ?_
    exact fin hF ⟨ok.drop.drop,E.d,rz E rfl⟩
   have hF:=qbh c104 hF
   have E:=E.upd 125 c104 rfl
   refine fk E ok qbR qbu rfl 1 rfl rfl fun a E=>lv E ok (qaQ qbc h8 rfl) fun a E=>lw E (qao rfl rfl) fun a E=>mv E rfl fun a E=>bu E 130 hF (fun c105 hF E=>?_) fun c105 hF E=>?_
   ·refine lsq E fun a E=>ls E fun a E=>pt E rfl rfl fun a E=>pt E rfl rfl fun a E=>aw E rfl fun a E=>wp_ret ?_
    exact fin hF ⟨ok.drop.drop,E.d,rz E rfl⟩
   refine fk E ok qay qap rfl 1 rfl rfl fun a E=>lw E (qao rfl rfl) fun a E=>pf E rfl rfl fun a E=>pt E rfl rfl fun a E=>aw E rfl fun a E=>wp_ret ?_
   exact fin hF ⟨ok.drop.drop,E.d,rz E rfl⟩
 refine fk E ok qay qap rfl 1 rfl rfl fun a E=>lw E (qbN rfl rfl) fun a E=>pt E rfl rfl fun a E=>pf E rfl rfl fun a E=>wn<|bd hF fun o81 hJ hF=>qaG (Q':=fun e a w=>e = .normal ∧ Ok u m0 ([(b10,oc 82 [vi o11.2.Kind,vs o11.2.Text,vs o11.2.Name,vs o11.2.Style,(Value.slice none 0 0),(Value.slice none 0 0)])] :: [(b9,oc 82 [vi x_0.Kind,vs x_0.Text,vs x_0.Name,vs x_0.Style,c5,c7])] :: S) w ∧ Env 136 a [(1,vp b9),(3,vp b10),(4,vb o81)]) ?_ ?_
 ·have hF:=hJ
  refine cg E rfl hF (fun c82 hF=>?_) fun c82 hF=>?_
  ·refine wp_skip ?_
   cases hF
   exact ⟨rfl,⟨ok,E.keep [1,3,4]⟩⟩
  refine qac<|mz E rfl rfl fun a E=>qbj o11.1 (fun c83=>?_) (fun c83=>?_)
  rotate_left
  ·have hF:=qbg c83 hF
   have E:=E.upd 87 c83 rfl
   refine lsq E fun a E=>ls E fun a E=>pf E rfl rfl fun a E=>av E rfl fun a E=>wpList_nil ?_
   cases hF
   exact ⟨rfl,⟨ok,E.keep [1,3,4]⟩⟩
  have hF:=qbh c83 hF
  have E:=E.upd 87 c83 rfl
  refine fk E ok qaN qak rfl 1 rfl rfl fun a E=>bd hF fun r84 e85 hF=>lc E qlT rfl (qg5 N x_0.Name l3 e85 hG ok) fun w ok a E=>pt E rfl rfl fun a E=>av E rfl fun a E=>wpList_nil ?_
  cases hF
  exact ⟨rfl,⟨ok,E.keep [1,3,4]⟩⟩
 intro e a w hO
 obtain ⟨rfl,ok,E⟩:=hO
 refine qaa<|sg<|mz E rfl rfl fun a E=>qbj o81 (fun c86=>?_) (fun c86=>?_)
 rotate_left
 ·have hF:=qbg c86 hF
  have E:=E.upd 93 c86 rfl
  refine lsz E fun a E=>ls E fun a E=>pf E rfl rfl fun a E=>mv E rfl fun a E=>lsz E fun a E=>ls E fun a E=>pf E rfl rfl fun a E=>mv E rfl fun a E=>lsq E fun a E=>?_
  refine lsq E fun a E=>ls E fun a E=>pf E rfl rfl fun a E=>mv E rfl fun a E=>lsz E fun a E=>lsz E fun a E=>ls E fun a E=>pf E rfl rfl fun a E=>mv E rfl fun a E=>?_
  refine lsz E fun a E=>lsz E fun a E=>ls E fun a E=>pf E rfl rfl fun a E=>aw E rfl fun a E=>wp_ret ?_
  exact fin hF ⟨ok.drop.drop,E.d,rz E rfl⟩
 have hF:=qbh c86 hF
 have E:=E.upd 93 c86 rfl
 refine fk E ok qcz qak rfl 1 rfl rfl fun a E=>fk E ok qcz qak rfl 0 rfl rfl fun a E=>lw E (qbt rfl rfl) fun a E=>pt E rfl rfl fun a E=>mv E rfl fun a E=>bw E 100 hF (fun c87 hF E=>?_) fun c87 hF E=>?_
 ·refine lsz E fun a E=>ls E fun a E=>pf E rfl rfl fun a E=>mv E rfl fun a E=>lsz E fun a E=>ls E fun a E=>pf E rfl rfl fun a E=>mv E rfl fun a E=>lsq E fun a E=>?_
  refine lsz E fun a E=>lsq E fun a E=>ls E fun a E=>pf E rfl rfl fun a E=>mv E rfl fun a E=>lsz E fun a E=>lsq E fun a E=>ls E fun a E=>?_
  refine lsq E fun a E=>pf E rfl rfl fun a E=>aw E rfl fun a E=>wp_ret ?_
  exact fin hF ⟨ok.drop.drop,E.d,rz E rfl⟩
 refine fk E ok qaN qak rfl 1 rfl rfl fun a E=>fk E ok qaN qak rfl 0 rfl rfl fun a E=>lw E (qbt rfl rfl) fun a E=>pt E rfl rfl fun a E=>mv E rfl fun a E=>bw E 107 hF (fun c88 hF E=>?_) fun c88 hF E=>?_
 ·refine lsz E fun a E=>ls E fun a E=>pf E rfl rfl fun a E=>mv E rfl fun a E=>lsz E fun a E=>lsz E fun a E=>ls E fun a E=>?_
  refine pf E rfl rfl fun a E=>mv E rfl fun a E=>lsz E fun a E=>lsz E fun a E=>ls E fun a E=>pf E rfl rfl fun a E=>aw E rfl fun a E=>wp_ret ?_
  exact fin hF ⟨ok.drop.drop,E.d,rz E rfl⟩
 refine fk E ok qaW qak rfl 1 rfl rfl fun a E=>fk E ok qaW qak rfl 0 rfl rfl fun a E=>lw E (qbt rfl rfl) fun a E=>pt E rfl rfl fun a E=>mv E rfl fun a E=>bw E 114 hF (fun c89 hF E=>?_) fun c89 hF E=>?_
 ·refine lsz E fun a E=>lsz E fun a E=>ls E fun a E=>pf E rfl rfl fun a E=>mv E rfl fun a E=>lsz E fun a E=>ls E fun a E=>?_
  refine lsz E fun a E=>pf E rfl rfl fun a E=>aw E rfl fun a E=>wp_ret ?_
  exact fin hF ⟨ok.drop.drop,E.d,rz E rfl⟩
 refine fk E ok qa2 qbo rfl 1 rfl rfl fun a E=>lv E ok (qaQ qbr h6 rfl) fun a E=>lw E (qao rfl rfl) fun a E=>mv E rfl fun a E=>bu E 119 hF (fun c90 hF E=>?_) fun c90 hF E=>?_
 ·refine lsq E fun a E=>ls E fun a E=>pt E rfl rfl fun a E=>pt E rfl rfl fun a E=>mv E rfl fun a E=>fk E ok qbR qbu rfl 1 rfl rfl fun a E=>lv E ok (qaQ qbc h8 rfl) fun a E=>lw E (qao rfl rfl) fun a E=>mv E rfl fun a E=>bu E 130 hF (fun c91 hF E=>?_) fun c91 hF E=>?_
  ·refine lsq E fun a E=>ls E fun a E=>pt E rfl rfl fun a E=>pt E rfl rfl fun a E=>aw E rfl fun a E=>wp_ret ?_
   exact fin hF ⟨ok.drop.drop,E.d,rz E rfl⟩
  refine fk E ok qay qap rfl 1 rfl rfl fun a E=>lw E (qao rfl rfl) fun a E=>pf E rfl rfl fun a E=>pt E rfl rfl fun a E=>aw E rfl fun a E=>wp_ret ?_
  exact fin hF ⟨ok.drop.drop,E.d,rz E rfl⟩
 refine fk E ok qay qap rfl 1 rfl rfl fun a E=>bd hF fun r92 e93 hF=>lc E qiQ rfl (qcO N x_0.Kind r1 e93 hG ok) fun w ok a E=>pf E rfl rfl fun a E=>pt E rfl rfl fun a E=>mv E rfl fun a E=>qbj r92 (fun c94=>?_) (fun c94=>?_)
 rotate_left
 ·have hF:=qbg c94 hF
  have E:=E.upd 125 c94 rfl
  refine lsz E fun a E=>lsz E fun a E=>ls E fun a E=>pf E rfl rfl fun a E=>aw E rfl fun a E=>wp_ret ?_
  exact fin hF ⟨ok.drop.drop,E.d,rz E rfl⟩
 have hF:=qbh c94 hF
 have E:=E.upd 125 c94 rfl
 refine fk E ok qbR qbu rfl 1 rfl rfl fun a E=>lv E ok (qaQ qbc h8 rfl) fun a E=>lw E (qao rfl rfl) fun a E=>mv E rfl fun a E=>bu E 130 hF (fun c95 hF E=>?_) fun c95 hF E=>?_
 ·refine lsq E fun a E=>ls E fun a E=>pt E rfl rfl fun a E=>pt E rfl rfl fun a E=>aw E rfl fun a E=>wp_ret ?_
  exact fin hF ⟨ok.drop.drop,E.d,rz E rfl⟩
 refine fk E ok qay qap rfl 1 rfl rfl fun a E=>lw E (qao rfl rfl) fun a E=>pf E rfl rfl fun a E=>pt E rfl rfl fun a E=>aw E rfl fun a E=>wp_ret ?_
 exact fin hF ⟨ok.drop.drop,E.d,rz E rfl⟩
theorem qhc {u:World} {m0:Mem} {S:Segs} {w:World} (N:Nat) (p0_0:List UInt8) (lp0_0:p0_0.length ≤ LIMS) (p1_1:List UInt8) (lp1_1:p1_1.length ≤ LIMS) {r:(List UInt8) × Bool} (hF:strings_CutPrefix N p0_0 p1_1 = some r) (hG:Glob u) (ok:Ok u m0 S w) :
 Calls Tryz.prog 134 [vs p0_0,vs p1_1].toArray w fun e w'=>(e = .returned (.tuple [(.string (bs r.1)),(.bool r.2)].toArray) ∧ Ok u m0 S w') ∧ r.1.length ≤ LIMS:=qmK Tryz.lays103 p0_0 p1_1 hF lp0_0 ok
def qma (u:World) (m0:Mem) (S:Segs) (r:Bool) (a:Act) (w:World):Prop :=
 Ok u m0 S w ∧ a.defers = [] ∧ RVs Tryz.prog a w [.t 2 (.bool r)]
theorem qmn (N:Nat) (s_0:List UInt8) (ls_0:s_0.length ≤ LIMS) {r:Bool} (hF:qf4 N s_0 = some r) (hG:Glob u) (ok:Ok u m0 S w) :
  Calls Tryz.prog 135 [vs s_0].toArray w fun e w'=>(e = .returned (.bool r) ∧ Ok u m0 S w'):=by
 unfold qf4 at hF
 refine en (qma u m0 S) r Tryz.func135 rfl rfl rfl (fun _ _ h=>ra h rfl) fun fin a E=>sg<|aw E rfl fun a E=>wp_seq<|sg<|mv E rfl fun a E=>wn<|wp_block<|wp_seq<|sg<|lw E (qbt rfl rfl) fun a E=>aw E rfl fun a E=>bd hF fun o1 hJ hF=>qaG (Q':=fun e a w=>e = .normal ∧ Ok u m0 (S) w ∧ Env 11 a [(4,vb o1)]) ?_ ?_
 rotate_left
 ·intro e a w hO
  obtain ⟨rfl,ok,E⟩:=hO
  refine qaa<|cf E rfl hF (fun c7 hF=>?_) fun c7 hF=>?_
  ·refine sg<|aw E rfl fun a E=>wp_ret<|qaq<|qah ?_
   exact fin hF ⟨ok,E.d,rz E rfl⟩
  refine wp_skip<|qaf<|qaa<|sg<|aw E rfl fun a E=>wp_ret ?_
  exact fin hF ⟨ok,E.d,rz E rfl⟩
 have hF:=hJ
 refine cf E rfl hF (fun c2 hF=>?_) fun c2 hF=>?_
 ·refine wp_skip ?_
  cases hF
  exact ⟨rfl,⟨ok,E.keep [4]⟩⟩
 refine sg<|lw E (qbt rfl rfl) fun a E=>aw E rfl fun a E=>cf E rfl hF (fun c3 hF=>?_) fun c3 hF=>?_
 ·refine wp_skip ?_
  cases hF
  exact ⟨rfl,⟨ok,E.keep [4]⟩⟩
 refine sg<|lw E (qbt rfl rfl) fun a E=>aw E rfl fun a E=>cf E rfl hF (fun c4 hF=>?_) fun c4 hF=>?_
 ·refine wp_skip ?_
  cases hF
  exact ⟨rfl,⟨ok,E.keep [4]⟩⟩
 refine sg<|lw E (qbt rfl rfl) fun a E=>aw E rfl fun a E=>cf E rfl hF (fun c5 hF=>?_) fun c5 hF=>?_
 ·refine wp_skip ?_
  cases hF
  exact ⟨rfl,⟨ok,E.keep [4]⟩⟩
 refine sg<|lw E (qbt rfl rfl) fun a E=>aw E rfl fun a E=>cf E rfl hF (fun c6 hF=>?_) fun c6 hF=>?_
 ·refine wp_skip ?_
  cases hF
  exact ⟨rfl,⟨ok,E.keep [4]⟩⟩
 refine qac<|lw E (qbt rfl rfl) fun a E=>av E rfl fun a E=>wpList_nil ?_
 cases hF
 exact ⟨rfl,⟨ok,E.keep [4]⟩⟩
theorem qmM (N:Nat) (p0_0:List UInt8) (lp0_0:p0_0.length ≤ LIMS) (p1_1:List UInt8) (lp1_1:p1_1.length ≤ LIMS) {r:(List UInt8) × (List UInt8) × Bool} (hF:strings_Cut N p0_0 p1_1 = some r) (hG:Glob u) (ok:Ok u m0 S w) :
  Calls Tryz.prog 159 [vs p0_0,vs p1_1].toArray w fun e w'=>(e = .returned (.tuple [(.string (bs r.1)),(.string (bs r.2.1)),(.bool r.2.2)].toArray) ∧ Ok u m0 S w') ∧ r.1.length ≤ LIMS ∧ r.2.1.length ≤ LIMS:=by
 obtain ⟨mx,hmx⟩:=hG
 exact qqQ Tryz.lays145 hmx p0_0 p1_1 hF lp0_0 ok
theorem qjl {u:World} {m0:Mem} {S:Segs} {w:World} (N:Nat) (p0_0:List UInt8) (lp0_0:p0_0.length ≤ LIMS) (p1_1:List UInt8) (lp1_1:p1_1.length ≤ LIMS) {r:(List UInt8)} (hF:qeW N p0_0 p1_1 = some r) (hG:Glob u) (ok:Ok u m0 S w) :
 Calls Tryz.prog 163 [vs p0_0,vs p1_1].toArray w fun e w'=>(e = .returned (.string (bs r)) ∧ Ok u m0 S w') ∧ r.length ≤ LIMS:=qpM Tryz.lays160 (by kernel_rfl) p0_0 p1_1 hF lp0_0 ok
def qlr (u:World) (m0:Mem) (S:Segs) (r:Bool) (a:Act) (w:World):Prop :=
 Ok u m0 S w ∧ a.defers = [] ∧ RVs Tryz.prog a w [.t 2 (.bool r)]
theorem qeX (N:Nat) (s_0:List UInt8) (ls_0:s_0.length ≤ LIMS) {r:Bool} (hF:qdp N s_0 = some r) (hG:Glob u) (ok:Ok u m0 S w) :
  Calls Tryz.prog 160 [vs s_0].toArray w fun e w'=>(e = .returned (.bool r) ∧ Ok u m0 S w'):=by
 unfold qdp at hF
 refine en (qlr u m0 S) r Tryz.func160 rfl rfl rfl (fun _ _ h=>ra h rfl) fun fin a E=>sg<|aw E rfl fun a E=>sg<|mv E rfl fun a E=>bd hF fun r1 e2 hF=>qag E qpj rfl (qjl N s_0 ls_0 ([48,49,50,51,52,53,54,55,56,57]) (show ([48,49,50,51,52,53,54,55,56,57]:List UInt8).length ≤ LIMS by decide) e2 hG ok) rfl rfl ?_
 rintro _ w ⟨⟨rfl,ok⟩,l3⟩
 refine ⟨_,rfl,fun a E=>?_⟩
 refine lw E (qbt rfl rfl) fun a E=>aw E rfl fun a E=>wp_ret ?_
 exact fin hF ⟨ok,E.d,rz E rfl⟩
def qml (u:World) (m0:Mem) (S:Segs) (r:Bool) (a:Act) (w:World):Prop :=
 Ok u m0 S w ∧ a.defers = [] ∧ RVs Tryz.prog a w [.t 2 (.bool r)]
theorem qjk (N:Nat) (s_0:List UInt8) (ls_0:s_0.length ≤ LIMS) {r:Bool} (hF:qfu N s_0 = some r) (hG:Glob u) (ok:Ok u m0 S w) :
  Calls Tryz.prog 164 [vs s_0].toArray w fun e w'=>(e = .returned (.bool r) ∧ Ok u m0 S w'):=by
 unfold qfu at hF
 refine en (qml u m0 S) r Tryz.func164 rfl rfl rfl (fun _ _ h=>ra h rfl) fun fin a E=>sg<|aw E rfl fun a E=>sg<|mv E rfl fun a E=>bd hF fun r1 e2 hF=>qag E qpj rfl (qjl N s_0 ls_0 ([48]) (show ([48]:List UInt8).length ≤ LIMS by decide) e2 hG ok) rfl rfl ?_
 rintro _ w ⟨⟨rfl,ok⟩,l3⟩
 refine ⟨_,rfl,fun a E=>?_⟩
 refine lw E (qbt rfl rfl) fun a E=>aw E rfl fun a E=>wp_ret ?_
 exact fin hF ⟨ok,E.d,rz E rfl⟩
def qji (u:World) (m0:Mem) (S:Segs) (r:Bool) (a:Act) (w:World):Prop :=
 Ok u m0 S w ∧ a.defers = [] ∧ RVs Tryz.prog a w [.t 2 (.bool r)]
theorem qew (N:Nat) (vx_0:List Value) (x_0:Number) (hx_0:ql8 m0 vx_0 x_0) {r:Bool} (hF:qc2 N x_0 = some r) (hG:Glob u) (ok:Ok u m0 S w) :
  Calls Tryz.prog 161 [.agg vx_0.toArray].toArray w fun e w'=>(e = .returned (.bool r) ∧ Ok u m0 S w'):=by
 obtain ⟨rfl,l1,l2⟩:=hx_0
 unfold qc2 at hF
 refine en (qji u m0 S) r Tryz.func161 rfl rfl rfl (fun _ _ h=>ra h rfl) fun fin a E=>sg<|qfY E ok rfl rfl rfl fun b3 a w E ok=>aw E rfl fun a E=>sg<|fk E ok qpN qak rfl 0 rfl rfl fun a E=>bd hF fun r4 e5 hF=>lc E qoW rfl (qjk N x_0.whole l1 e5 hG ok) fun w ok a E=>mv E rfl fun a E=>qbj r4 (fun c6=>?_) (fun c6=>?_)
 rotate_left
 ·have hF:=qbg c6 hF
  have E:=E.upd 6 c6 rfl
  refine lsq E fun a E=>ls E fun a E=>pf E rfl rfl fun a E=>aw E rfl fun a E=>wp_ret ?_
  exact fin hF ⟨ok.drop,E.d,rz E rfl⟩
 have hF:=qbh c6 hF
 have E:=E.upd 6 c6 rfl
 refine fk E ok qpJ qak rfl 0 rfl rfl fun a E=>bd hF fun r7 e8 hF=>lc E qoW rfl (qjk N x_0.fraction l2 e8 hG ok) fun w ok a E=>pt E rfl rfl fun a E=>aw E rfl fun a E=>wp_ret ?_
 exact fin hF ⟨ok.drop,E.d,rz E rfl⟩
end Go.Proofs.YtllnjbnknjpbjaaGreatDoor
namespace Go.Proofs.YtllnjbnknjpbjaaGreatDoor
open Go.X
variable {u:World} {m0:Mem} {S:Segs} {w:World}
set_option maxHeartbeats 4000000
set_option maxRecDepth 100000
def qlD (u:World) (m0:Mem) (S:Segs) (r:Number × Bool) (a:Act) (w:World):Prop :=
 ∃ m1 v0,m0.le m1 ∧ Ok u m1 S w ∧ a.defers = [] ∧ RVs Tryz.prog a w [.c 2 214 (.agg v0.toArray),.t 3 (.bool r.2)] ∧ ql8 m1 v0 r.1
theorem qlV (N:Nat) (s_0:List UInt8) (ls_0:s_0.length ≤ LIMS) {r:Number × Bool} (hF:qfH N s_0 = some r) (hG:Glob u) (ok:Ok u m0 S w) :
  Calls Tryz.prog 150 [vs s_0].toArray w fun e w'=>∃ m1 v0,e = .returned (.tuple [(.agg v0.toArray),(.bool r.2)].toArray) ∧ m0.le m1 ∧ Ok u m1 S w' ∧ ql8 m1 v0 r.1:=by
 have le_m0:=Mem.le.refl m0
 unfold qfH at hF
 refine en (qlD u m0 S) r Tryz.func150 rfl rfl rfl (by rintro a w ⟨m1,v0,hle,ok,hd,hrv,h0⟩; exact qbO [.c 2 214 (.agg v0.toArray),.t 3 (.bool r.2)] hd rfl hrv ⟨m1,v0,rfl,hle,ok,h0⟩) fun fin a E=>sg<|qa4 E ok qjG rfl rfl fun b1 a w E ok=>aw E rfl fun a E=>sg<|mv E rfl fun a E=>bd hF fun r2 e3 hF=>qag E qo3 rfl (qhc N s_0 ls_0 ([45]) (show ([45]:List UInt8).length ≤ LIMS by decide) e3 hG ok) rfl rfl ?_
 rintro _ w ⟨⟨rfl,ok⟩,l4⟩
 refine ⟨_,rfl,fun a E=>?_⟩
 refine mv E rfl fun a E=>lw E (qa6 rfl rfl) fun a E=>lw E (qa6 rfl rfl) fun a E=>av E rfl fun a E=>aw E rfl fun a E=>sg<|mv E rfl fun a E=>bd hF fun r5 e6 hF=>qag E qrp rfl (qmM N r2.1 l4 ([46]) (show ([46]:List UInt8).length ≤ LIMS by decide) e6 hG ok) rfl rfl ?_
 rintro _ w ⟨⟨rfl,ok⟩,l7,l8⟩
 refine ⟨_,rfl,fun a E=>?_⟩
 refine mv E rfl fun a E=>lw E (qa6 rfl rfl) fun a E=>lw E (qa6 rfl rfl) fun a E=>lw E (qa6 rfl rfl) fun a E=>av E rfl fun a E=>av E rfl fun a E=>av E rfl fun a E=>wn<|sg<|mz E rfl rfl fun a E=>mv E rfl fun a E=>lw E (qau (ps:=[(0,.tmp 21),(1,.tmp 22),(2,.tmp 23)]) (qs:=[(0,[vb r2.2]),(1,[vs r5.1]),(2,[vs r5.2.1])]) (cs:=[vb r2.2,vs r5.1,vs r5.2.1]) qjG qow rfl ⟨rfl,rfl,rfl,⟨rfl,rfl,rfl,⟨rfl,rfl,rfl,trivial⟩⟩⟩ rfl) fun a E=>qa4 E ok qjG rfl rfl fun b9 a w E ok=>?_
 refine qae E ok 0 rfl rfl rfl qcB rfl rfl ⟨rfl,rfl,rfl,trivial⟩ rfl rfl fun w ok=>wn<|wp_seq<|wp_block<|sg<|mv E rfl fun a E=>lw E (qaI Tryz.underlying9 rfl) fun a E=>lw E (qaO rfl rfl) fun a E=>mv E rfl fun a E=>bu E 29 hF (fun c10 hF E=>?_) fun c10 hF E=>?_
 ·refine lsq E fun a E=>ls E fun a E=>pt E rfl rfl fun a E=>mv E rfl fun a E=>lsq E fun a E=>ls E fun a E=>pt E rfl rfl fun a E=>mv E rfl fun a E=>lsz E fun a E=>lsq E fun a E=>?_
  refine lsq E fun a E=>pt E rfl rfl fun a E=>aw E rfl fun a E=>c_if E rfl (fun _=>?_) (fun h=>by cases h)
  refine sg<|lv E ok (qas (cs:=[vb r2.2,vs r5.1,vs r5.2.1]) qbi rfl rfl (qad.own 0 rfl rfl)) fun a E=>qae E ok 1 rfl rfl rfl qcB rfl rfl ⟨rfl,rfl,rfl,trivial⟩ rfl rfl fun w ok=>aw E rfl fun a E=>wp_ret<|qaq<|qah ?_
  exact fin hF ⟨m0,[vb r2.2,vs r5.1,vs r5.2.1],le_m0,ok.drop.drop,E.d,⟨rv_c (cs:=[vb r2.2,vs r5.1,vs r5.2.1]) E ok rfl qbi rfl (qad.own 1 rfl rfl),rv_t E rfl,trivial⟩,⟨rfl,l7,l8⟩⟩
 refine mv E rfl fun a E=>lw E (qaI Tryz.underlying9 rfl) fun a E=>lw E (qbk rfl rfl) fun a E=>pf E rfl rfl fun a E=>mv E rfl fun a E=>bu E 34 hF (fun c11 hF E=>?_) fun c11 hF E=>?_
 ·refine lsq E fun a E=>ls E fun a E=>pt E rfl rfl fun a E=>mv E rfl fun a E=>lsz E fun a E=>lsz E fun a E=>pt E rfl rfl fun a E=>av E rfl fun a E=>wn<|c_if E rfl (fun _=>?_) (fun h=>by cases h)
  refine sg<|lv E ok (qas (cs:=[vb r2.2,vs r5.1,vs r5.2.1]) qbi rfl rfl (qad.own 0 rfl rfl)) fun a E=>qae E ok 1 rfl rfl rfl qcB rfl rfl ⟨rfl,rfl,rfl,trivial⟩ rfl rfl fun w ok=>aw E rfl fun a E=>wp_ret<|qaq<|qah ?_
  exact fin hF ⟨m0,[vb r2.2,vs r5.1,vs r5.2.1],le_m0,ok.drop.drop,E.d,⟨rv_c (cs:=[vb r2.2,vs r5.1,vs r5.2.1]) E ok rfl qbi rfl (qad.own 1 rfl rfl),rv_t E rfl,trivial⟩,⟨rfl,l7,l8⟩⟩
 refine mv E rfl fun a E=>bd hF fun r12 e13 hF=>lc E qkN rfl (qeX N r5.1 l7 e13 hG ok) fun w ok a E=>lw E (qaT rfl) fun a E=>pf E rfl rfl fun a E=>mv E rfl fun a E=>bu E 39 hF (fun c14 hF E=>?_) fun c14 hF E=>?_
 ·refine lsz E fun a E=>lsz E fun a E=>pt E rfl rfl fun a E=>aw E rfl fun a E=>c_if E rfl (fun _=>?_) (fun h=>by cases h)
  refine sg<|lv E ok (qas (cs:=[vb r2.2,vs r5.1,vs r5.2.1]) qbi rfl rfl (qad.own 0 rfl rfl)) fun a E=>qae E ok 1 rfl rfl rfl qcB rfl rfl ⟨rfl,rfl,rfl,trivial⟩ rfl rfl fun w ok=>aw E rfl fun a E=>wp_ret<|qaq<|qah ?_
  exact fin hF ⟨m0,[vb r2.2,vs r5.1,vs r5.2.1],le_m0,ok.drop.drop,E.d,⟨rv_c (cs:=[vb r2.2,vs r5.1,vs r5.2.1]) E ok rfl qbi rfl (qad.own 1 rfl rfl),rv_t E rfl,trivial⟩,⟨rfl,l7,l8⟩⟩
 refine mv E rfl fun a E=>lw E (qaI Tryz.underlying9 rfl) fun a E=>lw E (qbk rfl rfl) fun a E=>mv E rfl fun a E=>bw E 43 hF (fun c15 hF E=>?_) fun c15 hF E=>?_
 ·as_aux_lemma =>
   refine lsq E fun a E=>ls E fun a E=>pf E rfl rfl fun a E=>pf E rfl rfl fun a E=>aw E rfl fun a E=>c_if E rfl (fun h=>by cases h) (fun _=>?_)
   refine sg<|mz E rfl rfl fun a E=>qbj r5.2.2 (fun c45=>?_) (fun c45=>?_)
   rotate_left
   ·as_aux_lemma =>
     have hF:=qbg c45 hF
     have E:=E.upd 52 c45 rfl
     refine lsq E fun a E=>ls E fun a E=>pf E rfl rfl fun a E=>mz E rfl rfl fun a E=>lw E (qaI Tryz.underlying9 rfl) fun a E=>lw E (qbk rfl rfl) fun a E=>pf E rfl rfl fun a E=>mv E rfl fun a E=>bu E 62 hF (fun c59 hF E=>?_) fun c59 hF E=>?_
     ·refine lsq E fun a E=>ls E fun a E=>pt E rfl rfl fun a E=>aw E rfl fun a E=>c_if E rfl (fun _=>?_) (fun h=>by cases h)
      refine sg<|lv E ok (qas (cs:=[vb r2.2,vs r5.1,vs r5.2.1]) qbi rfl rfl (qad.own 0 rfl rfl)) fun a E=>qae E ok 1 rfl rfl rfl qcB rfl rfl ⟨rfl,rfl,rfl,trivial⟩ rfl rfl fun w ok=>aw E rfl fun a E=>wp_ret<|qaq<|qah ?_
      exact fin hF ⟨m0,[vb r2.2,vs r5.1,vs r5.2.1],le_m0,ok.drop.drop,E.d,⟨rv_c (cs:=[vb r2.2,vs r5.1,vs r5.2.1]) E ok rfl qbi rfl (qad.own 1 rfl rfl),rv_t E rfl,trivial⟩,⟨rfl,l7,l8⟩⟩
     refine mv E rfl fun a E=>bd hF fun r60 e61 hF=>lc E qkN rfl (qeX N r5.2.1 l8 e61 hG ok) fun w ok a E=>lw E (qaT rfl) fun a E=>pf E rfl rfl fun a E=>aw E rfl fun a E=>cf E rfl hF (fun c62 hF=>?_) fun c62 hF=>?_
     ·refine sg<|lv E ok (qas (cs:=[vb r2.2,vs r5.1,vs r5.2.1]) qbi rfl rfl (qad.own 0 rfl rfl)) fun a E=>qae E ok 1 rfl rfl rfl qcB rfl rfl ⟨rfl,rfl,rfl,trivial⟩ rfl rfl fun w ok=>aw E rfl fun a E=>wp_ret<|qaq<|qah ?_
      exact fin hF ⟨m0,[vb r2.2,vs r5.1,vs r5.2.1],le_m0,ok.drop.drop,E.d,⟨rv_c (cs:=[vb r2.2,vs r5.1,vs r5.2.1]) E ok rfl qbi rfl (qad.own 1 rfl rfl),rv_t E rfl,trivial⟩,⟨rfl,l7,l8⟩⟩
     refine wp_skip<|qaf<|qaa<|wp_seq<|bd hF fun o63 hJ hF=>qaG (Q':=fun e a w=>e = .normal ∧ Ok u m0 ([(b9,oc 214 [vb r2.2,vs r5.1,vs r5.2.1])] :: [(b1,oc 214 [vb o63.2.negative,vs o63.2.whole,vs o63.2.fraction])] :: S) w ∧ Env 76 a [(2,vp b1),(3,vb o63.1)] ∧ o63.2.whole.length ≤ LIMS ∧ o63.2.fraction.length ≤ LIMS) ?_ ?_
     rotate_left
     ·intro e a w hO
      obtain ⟨rfl,ok,E,l69,l70⟩:=hO
      refine qaa<|wp_ret ?_
      exact fin hF ⟨m0,[vb o63.2.negative,vs o63.2.whole,vs o63.2.fraction],le_m0,ok.drop.drop,E.d,⟨rv_c (cs:=[vb o63.2.negative,vs o63.2.whole,vs o63.2.fraction]) E ok rfl qbi rfl (qad.own 1 rfl rfl),rv_t E rfl,trivial⟩,⟨rfl,l69,l70⟩⟩
     have hF:=hJ
     refine qbj (!r2.2) (fun c66=>?_) (fun c66=>?_)
     ·have hF:=qbh c66 hF
      cases hF
      refine qbI [0] (Cls u m0 ([(b9,oc 214 [vb r2.2,vs r5.1,vs r5.2.1])] :: [(b1,oc 214 [vb false,(vs ([])),(vs ([]))])] :: [])) (Cls u m0 ([(b9,oc 214 [vb r2.2,vs r5.1,vs r5.2.1])] :: [])) (by kernel_rfl) ?_
      intro w hw
      replace ok:=qb3 ok hw
      clear hw
      refine qaw (cl1 (cq le_m0 ok [0,1] rfl) (cq le_m0 ok [0] rfl)) fun hT=>qdy 0 E rfl (by kernel_rfl) nP hT (qas (cs:=[vb r2.2,vs r5.1,vs r5.2.1]) qbi rfl rfl (qad.cown 0 rfl rfl)) rfl rfl fun a E=>kt 1 E rfl hT (qan rfl) fun a E=>kt 2 E rfl hT (qaT rfl) fun a E=>kt 3 E rfl hT (qan rfl) fun a E=>?_
      have E:=E.upd 71 c66 rfl
      refine qc5 4 false E rfl (by kernel_rfl) nP hT rfl rfl fun a E=>qc5 5 false E rfl (by kernel_rfl) nP hT rfl rfl fun a E=>qc5 6 false E rfl (by kernel_rfl) nP hT rfl rfl fun a E=>kt 7 E rfl hT (qbQ rfl rfl) fun a E=>qa1 [8] (by kernel_rfl) rfl (qa8 ?_)
      ·refine wo rfl<|qae E ok 1 rfl rfl rfl qcB rfl rfl ⟨rfl,rfl,rfl,trivial⟩ rfl rfl fun w ok=>wn<|qaw (cl2 (by kernel_rfl) (cq le_m0 ok [0] rfl)) fun hT=>kt 9 E rfl hT (qbx rfl) fun a E=>qbK (by kernel_rfl) ?_
       exact ⟨rfl,⟨ok,E.keep [2,3],l7,l8⟩⟩
     have hF:=qbg c66 hF
     obtain ⟨r67,e68,hF⟩:=bnd hF
     obtain rfl:=sj hF
     refine qbI [0] (Cls u m0 ([(b9,oc 214 [vb r2.2,vs r5.1,vs r5.2.1])] :: [(b1,oc 214 [vb false,(vs ([])),(vs ([]))])] :: [])) (Cls u m0 ([(b9,oc 214 [vb r2.2,vs r5.1,vs r5.2.1])] :: [])) (by kernel_rfl) ?_
     intro w hw
     replace ok:=qb3 ok hw
     clear hw
     refine qaw (cl1 (cq le_m0 ok [0,1] rfl) (cq le_m0 ok [0] rfl)) fun hT=>qdy 0 E rfl (by kernel_rfl) nP hT (qas (cs:=[vb r2.2,vs r5.1,vs r5.2.1]) qbi rfl rfl (qad.cown 0 rfl rfl)) rfl rfl fun a E=>kt 1 E rfl hT (qan rfl) fun a E=>kt 2 E rfl hT (qaT rfl) fun a E=>kt 3 E rfl hT (qan rfl) fun a E=>?_
     have E:=E.upd 71 c66 rfl
     refine kt 4 E rfl hT (qas (cs:=[vb r2.2,vs r5.1,vs r5.2.1]) qbi rfl rfl (qad.cown 0 rfl rfl)) fun a E=>qa1 [5] (by kernel_rfl) rfl (qa8 ?_)
     ·refine wo rfl<|lc E qlS rfl (qew N _ (Number.mk r2.2 r5.1 r5.2.1) ⟨rfl,l7,l8⟩ e68 hG ok) fun w ok a E=>wn<|qaw (cl1 (cq le_m0 ok [0,1] rfl) (cq le_m0 ok [0] rfl)) fun hT=>kt 6 E rfl hT (qaT rfl) fun a E=>kt 7 E rfl hT (qbW rfl rfl) fun a E=>qa1 [8] (by kernel_rfl) rfl (qa8 ?_)
      ·refine wo rfl<|qae E ok 1 rfl rfl rfl qcB rfl rfl ⟨rfl,rfl,rfl,trivial⟩ rfl rfl fun w ok=>wn<|qaw (cl2 (by kernel_rfl) (cq le_m0 ok [0] rfl)) fun hT=>kt 9 E rfl hT (qbx rfl) fun a E=>qbK (by kernel_rfl) ?_
       exact ⟨rfl,⟨ok,E.keep [2,3],l7,l8⟩⟩
   have hF:=qbh c45 hF
   have E:=E.upd 52 c45 rfl
   refine mv E rfl fun a E=>lw E (qaI Tryz.underlying9 rfl) fun a E=>lw E (qao rfl rfl) fun a E=>pt E rfl rfl fun a E=>mv E rfl fun a E=>bu E 57 hF (fun c46 hF E=>?_) fun c46 hF E=>?_
   ·refine lsq E fun a E=>ls E fun a E=>pt E rfl rfl fun a E=>mv E rfl fun a E=>lsq E fun a E=>ls E fun a E=>pt E rfl rfl fun a E=>aw E rfl fun a E=>c_if E rfl (fun _=>?_) (fun h=>by cases h)
    refine sg<|lv E ok (qas (cs:=[vb r2.2,vs r5.1,vs r5.2.1]) qbi rfl rfl (qad.own 0 rfl rfl)) fun a E=>qae E ok 1 rfl rfl rfl qcB rfl rfl ⟨rfl,rfl,rfl,trivial⟩ rfl rfl fun w ok=>aw E rfl fun a E=>wp_ret<|qaq<|qah ?_
    exact fin hF ⟨m0,[vb r2.2,vs r5.1,vs r5.2.1],le_m0,ok.drop.drop,E.d,⟨rv_c (cs:=[vb r2.2,vs r5.1,vs r5.2.1]) E ok rfl qbi rfl (qad.own 1 rfl rfl),rv_t E rfl,trivial⟩,⟨rfl,l7,l8⟩⟩
   refine mv E rfl fun a E=>lw E (qaI Tryz.underlying9 rfl) fun a E=>lw E (qbk rfl rfl) fun a E=>pf E rfl rfl fun a E=>mv E rfl fun a E=>bu E 62 hF (fun c47 hF E=>?_) fun c47 hF E=>?_
   ·refine lsq E fun a E=>ls E fun a E=>pt E rfl rfl fun a E=>aw E rfl fun a E=>c_if E rfl (fun _=>?_) (fun h=>by cases h)
    refine sg<|lv E ok (qas (cs:=[vb r2.2,vs r5.1,vs r5.2.1]) qbi rfl rfl (qad.own 0 rfl rfl)) fun a E=>qae E ok 1 rfl rfl rfl qcB rfl rfl ⟨rfl,rfl,rfl,trivial⟩ rfl rfl fun w ok=>aw E rfl fun a E=>wp_ret<|qaq<|qah ?_
    exact fin hF ⟨m0,[vb r2.2,vs r5.1,vs r5.2.1],le_m0,ok.drop.drop,E.d,⟨rv_c (cs:=[vb r2.2,vs r5.1,vs r5.2.1]) E ok rfl qbi rfl (qad.own 1 rfl rfl),rv_t E rfl,trivial⟩,⟨rfl,l7,l8⟩⟩
   refine mv E rfl fun a E=>bd hF fun r48 e49 hF=>lc E qkN rfl (qeX N r5.2.1 l8 e49 hG ok) fun w ok a E=>lw E (qaT rfl) fun a E=>pf E rfl rfl fun a E=>aw E rfl fun a E=>cf E rfl hF (fun c50 hF=>?_) fun c50 hF=>?_
   ·refine sg<|lv E ok (qas (cs:=[vb r2.2,vs r5.1,vs r5.2.1]) qbi rfl rfl (qad.own 0 rfl rfl)) fun a E=>qae E ok 1 rfl rfl rfl qcB rfl rfl ⟨rfl,rfl,rfl,trivial⟩ rfl rfl fun w ok=>aw E rfl fun a E=>wp_ret<|qaq<|qah ?_
    exact fin hF ⟨m0,[vb r2.2,vs r5.1,vs r5.2.1],le_m0,ok.drop.drop,E.d,⟨rv_c (cs:=[vb r2.2,vs r5.1,vs r5.2.1]) E ok rfl qbi rfl (qad.own 1 rfl rfl),rv_t E rfl,trivial⟩,⟨rfl,l7,l8⟩⟩
   refine wp_skip<|qaf<|qaa<|wp_seq<|bd hF fun o51 hJ hF=>qaG (Q':=fun e a w=>e = .normal ∧ Ok u m0 ([(b9,oc 214 [vb r2.2,vs r5.1,vs r5.2.1])] :: [(b1,oc 214 [vb o51.2.negative,vs o51.2.whole,vs o51.2.fraction])] :: S) w ∧ Env 76 a [(2,vp b1),(3,vb o51.1)] ∧ o51.2.whole.length ≤ LIMS ∧ o51.2.fraction.length ≤ LIMS) ?_ ?_
   rotate_left
   ·intro e a w hO
    obtain ⟨rfl,ok,E,l57,l58⟩:=hO
    refine qaa<|wp_ret ?_
    exact fin hF ⟨m0,[vb o51.2.negative,vs o51.2.whole,vs o51.2.fraction],le_m0,ok.drop.drop,E.d,⟨rv_c (cs:=[vb o51.2.negative,vs o51.2.whole,vs o51.2.fraction]) E ok rfl qbi rfl (qad.own 1 rfl rfl),rv_t E rfl,trivial⟩,⟨rfl,l57,l58⟩⟩
   have hF:=hJ
   refine qbj (!r2.2) (fun c54=>?_) (fun c54=>?_)
   ·have hF:=qbh c54 hF
    cases hF
    refine qbI [0] (Cls u m0 ([(b9,oc 214 [vb r2.2,vs r5.1,vs r5.2.1])] :: [(b1,oc 214 [vb false,(vs ([])),(vs ([]))])] :: [])) (Cls u m0 ([(b9,oc 214 [vb r2.2,vs r5.1,vs r5.2.1])] :: [])) (by kernel_rfl) ?_
    intro w hw
    replace ok:=qb3 ok hw
    clear hw
    refine qaw (cl1 (cq le_m0 ok [0,1] rfl) (cq le_m0 ok [0] rfl)) fun hT=>qdy 0 E rfl (by kernel_rfl) nP hT (qas (cs:=[vb r2.2,vs r5.1,vs r5.2.1]) qbi rfl rfl (qad.cown 0 rfl rfl)) rfl rfl fun a E=>kt 1 E rfl hT (qan rfl) fun a E=>kt 2 E rfl hT (qaT rfl) fun a E=>kt 3 E rfl hT (qan rfl) fun a E=>?_
    have E:=E.upd 71 c54 rfl
    refine qc5 4 false E rfl (by kernel_rfl) nP hT rfl rfl fun a E=>qc5 5 false E rfl (by kernel_rfl) nP hT rfl rfl fun a E=>qc5 6 false E rfl (by kernel_rfl) nP hT rfl rfl fun a E=>kt 7 E rfl hT (qbQ rfl rfl) fun a E=>qa1 [8] (by kernel_rfl) rfl (qa8 ?_)
    ·refine wo rfl<|qae E ok 1 rfl rfl rfl qcB rfl rfl ⟨rfl,rfl,rfl,trivial⟩ rfl rfl fun w ok=>wn<|qaw (cl2 (by kernel_rfl) (cq le_m0 ok [0] rfl)) fun hT=>kt 9 E rfl hT (qbx rfl) fun a E=>qbK (by kernel_rfl) ?_
     exact ⟨rfl,⟨ok,E.keep [2,3],l7,l8⟩⟩
   have hF:=qbg c54 hF
   obtain ⟨r55,e56,hF⟩:=bnd hF
   obtain rfl:=sj hF
   refine qbI [0] (Cls u m0 ([(b9,oc 214 [vb r2.2,vs r5.1,vs r5.2.1])] :: [(b1,oc 214 [vb false,(vs ([])),(vs ([]))])] :: [])) (Cls u m0 ([(b9,oc 214 [vb r2.2,vs r5.1,vs r5.2.1])] :: [])) (by kernel_rfl) ?_
   intro w hw
   replace ok:=qb3 ok hw
   clear hw
   refine qaw (cl1 (cq le_m0 ok [0,1] rfl) (cq le_m0 ok [0] rfl)) fun hT=>qdy 0 E rfl (by kernel_rfl) nP hT (qas (cs:=[vb r2.2,vs r5.1,vs r5.2.1]) qbi rfl rfl (qad.cown 0 rfl rfl)) rfl rfl fun a E=>kt 1 E rfl hT (qan rfl) fun a E=>kt 2 E rfl hT (qaT rfl) fun a E=>kt 3 E rfl hT (qan rfl) fun a E=>?_
   have E:=E.upd 71 c54 rfl
   refine kt 4 E rfl hT (qas (cs:=[vb r2.2,vs r5.1,vs r5.2.1]) qbi rfl rfl (qad.cown 0 rfl rfl)) fun a E=>qa1 [5] (by kernel_rfl) rfl (qa8 ?_)
   ·refine wo rfl<|lc E qlS rfl (qew N _ (Number.mk r2.2 r5.1 r5.2.1) ⟨rfl,l7,l8⟩ e56 hG ok) fun w ok a E=>wn<|qaw (cl1 (cq le_m0 ok [0,1] rfl) (cq le_m0 ok [0] rfl)) fun hT=>kt 6 E rfl hT (qaT rfl) fun a E=>kt 7 E rfl hT (qbW rfl rfl) fun a E=>qa1 [8] (by kernel_rfl) rfl (qa8 ?_)
    ·refine wo rfl<|qae E ok 1 rfl rfl rfl qcB rfl rfl ⟨rfl,rfl,rfl,trivial⟩ rfl rfl fun w ok=>wn<|qaw (cl2 (by kernel_rfl) (cq le_m0 ok [0] rfl)) fun hT=>kt 9 E rfl hT (qbx rfl) fun a E=>qbK (by kernel_rfl) ?_
     exact ⟨rfl,⟨ok,E.keep [2,3],l7,l8⟩⟩
 refine mv E rfl fun a E=>bd hF fun c16 e17 hF=>lv E ok (qaH Tryz.underlying9 rfl rfl e17) fun a E=>lw E (qao rfl rfl) fun a E=>pt E rfl rfl fun a E=>pf E rfl rfl fun a E=>aw E rfl fun a E=>cf E rfl hF (fun c18 hF=>?_) fun c18 hF=>?_
 ·refine sg<|lv E ok (qas (cs:=[vb r2.2,vs r5.1,vs r5.2.1]) qbi rfl rfl (qad.own 0 rfl rfl)) fun a E=>qae E ok 1 rfl rfl rfl qcB rfl rfl ⟨rfl,rfl,rfl,trivial⟩ rfl rfl fun w ok=>aw E rfl fun a E=>wp_ret<|qaq<|qah ?_
  exact fin hF ⟨m0,[vb r2.2,vs r5.1,vs r5.2.1],le_m0,ok.drop.drop,E.d,⟨rv_c (cs:=[vb r2.2,vs r5.1,vs r5.2.1]) E ok rfl qbi rfl (qad.own 1 rfl rfl),rv_t E rfl,trivial⟩,⟨rfl,l7,l8⟩⟩
 refine sg<|mz E rfl rfl fun a E=>qbj r5.2.2 (fun c19=>?_) (fun c19=>?_)
 rotate_left
 ·as_aux_lemma =>
   have hF:=qbg c19 hF
   have E:=E.upd 52 c19 rfl
   refine lsq E fun a E=>ls E fun a E=>pf E rfl rfl fun a E=>mz E rfl rfl fun a E=>lw E (qaI Tryz.underlying9 rfl) fun a E=>lw E (qbk rfl rfl) fun a E=>pf E rfl rfl fun a E=>mv E rfl fun a E=>bu E 62 hF (fun c33 hF E=>?_) fun c33 hF E=>?_
   ·refine lsq E fun a E=>ls E fun a E=>pt E rfl rfl fun a E=>aw E rfl fun a E=>c_if E rfl (fun _=>?_) (fun h=>by cases h)
    refine sg<|lv E ok (qas (cs:=[vb r2.2,vs r5.1,vs r5.2.1]) qbi rfl rfl (qad.own 0 rfl rfl)) fun a E=>qae E ok 1 rfl rfl rfl qcB rfl rfl ⟨rfl,rfl,rfl,trivial⟩ rfl rfl fun w ok=>aw E rfl fun a E=>wp_ret<|qaq<|qah ?_
    exact fin hF ⟨m0,[vb r2.2,vs r5.1,vs r5.2.1],le_m0,ok.drop.drop,E.d,⟨rv_c (cs:=[vb r2.2,vs r5.1,vs r5.2.1]) E ok rfl qbi rfl (qad.own 1 rfl rfl),rv_t E rfl,trivial⟩,⟨rfl,l7,l8⟩⟩
   refine mv E rfl fun a E=>bd hF fun r34 e35 hF=>lc E qkN rfl (qeX N r5.2.1 l8 e35 hG ok) fun w ok a E=>lw E (qaT rfl) fun a E=>pf E rfl rfl fun a E=>aw E rfl fun a E=>cf E rfl hF (fun c36 hF=>?_) fun c36 hF=>?_
   ·refine sg<|lv E ok (qas (cs:=[vb r2.2,vs r5.1,vs r5.2.1]) qbi rfl rfl (qad.own 0 rfl rfl)) fun a E=>qae E ok 1 rfl rfl rfl qcB rfl rfl ⟨rfl,rfl,rfl,trivial⟩ rfl rfl fun w ok=>aw E rfl fun a E=>wp_ret<|qaq<|qah ?_
    exact fin hF ⟨m0,[vb r2.2,vs r5.1,vs r5.2.1],le_m0,ok.drop.drop,E.d,⟨rv_c (cs:=[vb r2.2,vs r5.1,vs r5.2.1]) E ok rfl qbi rfl (qad.own 1 rfl rfl),rv_t E rfl,trivial⟩,⟨rfl,l7,l8⟩⟩
   refine wp_skip<|qaf<|qaa<|wp_seq<|bd hF fun o37 hJ hF=>qaG (Q':=fun e a w=>e = .normal ∧ Ok u m0 ([(b9,oc 214 [vb r2.2,vs r5.1,vs r5.2.1])] :: [(b1,oc 214 [vb o37.2.negative,vs o37.2.whole,vs o37.2.fraction])] :: S) w ∧ Env 76 a [(2,vp b1),(3,vb o37.1)] ∧ o37.2.whole.length ≤ LIMS ∧ o37.2.fraction.length ≤ LIMS) ?_ ?_
   rotate_left
   ·intro e a w hO
    obtain ⟨rfl,ok,E,l43,l44⟩:=hO
    refine qaa<|wp_ret ?_
    exact fin hF ⟨m0,[vb o37.2.negative,vs o37.2.whole,vs o37.2.fraction],le_m0,ok.drop.drop,E.d,⟨rv_c (cs:=[vb o37.2.negative,vs o37.2.whole,vs o37.2.fraction]) E ok rfl qbi rfl (qad.own 1 rfl rfl),rv_t E rfl,trivial⟩,⟨rfl,l43,l44⟩⟩
   have hF:=hJ
   refine qbj (!r2.2) (fun c40=>?_) (fun c40=>?_)
   ·have hF:=qbh c40 hF
    cases hF
    refine qbI [0] (Cls u m0 ([(b9,oc 214 [vb r2.2,vs r5.1,vs r5.2.1])] :: [(b1,oc 214 [vb false,(vs ([])),(vs ([]))])] :: [])) (Cls u m0 ([(b9,oc 214 [vb r2.2,vs r5.1,vs r5.2.1])] :: [])) (by kernel_rfl) ?_
    intro w hw
    replace ok:=qb3 ok hw
    clear hw
    refine qaw (cl1 (cq le_m0 ok [0,1] rfl) (cq le_m0 ok [0] rfl)) fun hT=>qdy 0 E rfl (by kernel_rfl) nP hT (qas (cs:=[vb r2.2,vs r5.1,vs r5.2.1]) qbi rfl rfl (qad.cown 0 rfl rfl)) rfl rfl fun a E=>kt 1 E rfl hT (qan rfl) fun a E=>kt 2 E rfl hT (qaT rfl) fun a E=>kt 3 E rfl hT (qan rfl) fun a E=>?_
    have E:=E.upd 71 c40 rfl
    refine qc5 4 false E rfl (by kernel_rfl) nP hT rfl rfl fun a E=>qc5 5 false E rfl (by kernel_rfl) nP hT rfl rfl fun a E=>qc5 6 false E rfl (by kernel_rfl) nP hT rfl rfl fun a E=>kt 7 E rfl hT (qbQ rfl rfl) fun a E=>qa1 [8] (by kernel_rfl) rfl (qa8 ?_)
    ·refine wo rfl<|qae E ok 1 rfl rfl rfl qcB rfl rfl ⟨rfl,rfl,rfl,trivial⟩ rfl rfl fun w ok=>wn<|qaw (cl2 (by kernel_rfl) (cq le_m0 ok [0] rfl)) fun hT=>kt 9 E rfl hT (qbx rfl) fun a E=>qbK (by kernel_rfl) ?_
     exact ⟨rfl,⟨ok,E.keep [2,3],l7,l8⟩⟩
   have hF:=qbg c40 hF
   obtain ⟨r41,e42,hF⟩:=bnd hF
   obtain rfl:=sj hF
   refine qbI [0] (Cls u m0 ([(b9,oc 214 [vb r2.2,vs r5.1,vs r5.2.1])] :: [(b1,oc 214 [vb false,(vs ([])),(vs ([]))])] :: [])) (Cls u m0 ([(b9,oc 214 [vb r2.2,vs r5.1,vs r5.2.1])] :: [])) (by kernel_rfl) ?_
   intro w hw
   replace ok:=qb3 ok hw
   clear hw
   refine qaw (cl1 (cq le_m0 ok [0,1] rfl) (cq le_m0 ok [0] rfl)) fun hT=>qdy 0 E rfl (by kernel_rfl) nP hT (qas (cs:=[vb r2.2,vs r5.1,vs r5.2.1]) qbi rfl rfl (qad.cown 0 rfl rfl)) rfl rfl fun a E=>kt 1 E rfl hT (qan rfl) fun a E=>kt 2 E rfl hT (qaT rfl) fun a E=>kt 3 E rfl hT (qan rfl) fun a E=>?_
   have E:=E.upd 71 c40 rfl
   refine kt 4 E rfl hT (qas (cs:=[vb r2.2,vs r5.1,vs r5.2.1]) qbi rfl rfl (qad.cown 0 rfl rfl)) fun a E=>qa1 [5] (by kernel_rfl) rfl (qa8 ?_)
   ·refine wo rfl<|lc E qlS rfl (qew N _ (Number.mk r2.2 r5.1 r5.2.1) ⟨rfl,l7,l8⟩ e42 hG ok) fun w ok a E=>wn<|qaw (cl1 (cq le_m0 ok [0,1] rfl) (cq le_m0 ok [0] rfl)) fun hT=>kt 6 E rfl hT (qaT rfl) fun a E=>kt 7 E rfl hT (qbW rfl rfl) fun a E=>qa1 [8] (by kernel_rfl) rfl (qa8 ?_)
    ·refine wo rfl<|qae E ok 1 rfl rfl rfl qcB rfl rfl ⟨rfl,rfl,rfl,trivial⟩ rfl rfl fun w ok=>wn<|qaw (cl2 (by kernel_rfl) (cq le_m0 ok [0] rfl)) fun hT=>kt 9 E rfl hT (qbx rfl) fun a E=>qbK (by kernel_rfl) ?_
     exact ⟨rfl,⟨ok,E.keep [2,3],l7,l8⟩⟩
 have hF:=qbh c19 hF
 have E:=E.upd 52 c19 rfl
 refine mv E rfl fun a E=>lw E (qaI Tryz.underlying9 rfl) fun a E=>lw E (qao rfl rfl) fun a E=>pt E rfl rfl fun a E=>mv E rfl fun a E=>bu E 57 hF (fun c20 hF E=>?_) fun c20 hF E=>?_
 ·refine lsq E fun a E=>ls E fun a E=>pt E rfl rfl fun a E=>mv E rfl fun a E=>lsq E fun a E=>ls E fun a E=>pt E rfl rfl fun a E=>aw E rfl fun a E=>c_if E rfl (fun _=>?_) (fun h=>by cases h)
  refine sg<|lv E ok (qas (cs:=[vb r2.2,vs r5.1,vs r5.2.1]) qbi rfl rfl (qad.own 0 rfl rfl)) fun a E=>qae E ok 1 rfl rfl rfl qcB rfl rfl ⟨rfl,rfl,rfl,trivial⟩ rfl rfl fun w ok=>aw E rfl fun a E=>wp_ret<|qaq<|qah ?_
  exact fin hF ⟨m0,[vb r2.2,vs r5.1,vs r5.2.1],le_m0,ok.drop.drop,E.d,⟨rv_c (cs:=[vb r2.2,vs r5.1,vs r5.2.1]) E ok rfl qbi rfl (qad.own 1 rfl rfl),rv_t E rfl,trivial⟩,⟨rfl,l7,l8⟩⟩
 refine mv E rfl fun a E=>lw E (qaI Tryz.underlying9 rfl) fun a E=>lw E (qbk rfl rfl) fun a E=>pf E rfl rfl fun a E=>mv E rfl fun a E=>bu E 62 hF (fun c21 hF E=>?_) fun c21 hF E=>?_
 ·refine lsq E fun a E=>ls E fun a E=>pt E rfl rfl fun a E=>aw E rfl fun a E=>c_if E rfl (fun _=>?_) (fun h=>by cases h)
  refine sg<|lv E ok (qas (cs:=[vb r2.2,vs r5.1,vs r5.2.1]) qbi rfl rfl (qad.own 0 rfl rfl)) fun a E=>qae E ok 1 rfl rfl rfl qcB rfl rfl ⟨rfl,rfl,rfl,trivial⟩ rfl rfl fun w ok=>aw E rfl fun a E=>wp_ret<|qaq<|qah ?_
  exact fin hF ⟨m0,[vb r2.2,vs r5.1,vs r5.2.1],le_m0,ok.drop.drop,E.d,⟨rv_c (cs:=[vb r2.2,vs r5.1,vs r5.2.1]) E ok rfl qbi rfl (qad.own 1 rfl rfl),rv_t E rfl,trivial⟩,⟨rfl,l7,l8⟩⟩
 refine mv E rfl fun a E=>bd hF fun r22 e23 hF=>lc E qkN rfl (qeX N r5.2.1 l8 e23 hG ok) fun w ok a E=>lw E (qaT rfl) fun a E=>pf E rfl rfl fun a E=>aw E rfl fun a E=>cf E rfl hF (fun c24 hF=>?_) fun c24 hF=>?_
 ·refine sg<|lv E ok (qas (cs:=[vb r2.2,vs r5.1,vs r5.2.1]) qbi rfl rfl (qad.own 0 rfl rfl)) fun a E=>qae E ok 1 rfl rfl rfl qcB rfl rfl ⟨rfl,rfl,rfl,trivial⟩ rfl rfl fun w ok=>aw E rfl fun a E=>wp_ret<|qaq<|qah ?_
  exact fin hF ⟨m0,[vb r2.2,vs r5.1,vs r5.2.1],le_m0,ok.drop.drop,E.d,⟨rv_c (cs:=[vb r2.2,vs r5.1,vs r5.2.1]) E ok rfl qbi rfl (qad.own 1 rfl rfl),rv_t E rfl,trivial⟩,⟨rfl,l7,l8⟩⟩
 refine wp_skip<|qaf<|qaa<|wp_seq<|bd hF fun o25 hJ hF=>qaG (Q':=fun e a w=>e = .normal ∧ Ok u m0 ([(b9,oc 214 [vb r2.2,vs r5.1,vs r5.2.1])] :: [(b1,oc 214 [vb o25.2.negative,vs o25.2.whole,vs o25.2.fraction])] :: S) w ∧ Env 76 a [(2,vp b1),(3,vb o25.1)] ∧ o25.2.whole.length ≤ LIMS ∧ o25.2.fraction.length ≤ LIMS) ?_ ?_
 rotate_left
 ·intro e a w hO
  obtain ⟨rfl,ok,E,l31,l32⟩:=hO
  refine qaa<|wp_ret ?_
  exact fin hF ⟨m0,[vb o25.2.negative,vs o25.2.whole,vs o25.2.fraction],le_m0,ok.drop.drop,E.d,⟨rv_c (cs:=[vb o25.2.negative,vs o25.2.whole,vs o25.2.fraction]) E ok rfl qbi rfl (qad.own 1 rfl rfl),rv_t E rfl,trivial⟩,⟨rfl,l31,l32⟩⟩
 have hF:=hJ
 refine qbj (!r2.2) (fun c28=>?_) (fun c28=>?_)
 ·have hF:=qbh c28 hF
  cases hF
  refine qbI [0] (Cls u m0 ([(b9,oc 214 [vb r2.2,vs r5.1,vs r5.2.1])] :: [(b1,oc 214 [vb false,(vs ([])),(vs ([]))])] :: [])) (Cls u m0 ([(b9,oc 214 [vb r2.2,vs r5.1,vs r5.2.1])] :: [])) (by kernel_rfl) ?_
  intro w hw
  replace ok:=qb3 ok hw
  clear hw
  refine qaw (cl1 (cq le_m0 ok [0,1] rfl) (cq le_m0 ok [0] rfl)) fun hT=>qdy 0 E rfl (by kernel_rfl) nP hT (qas (cs:=[vb r2.2,vs r5.1,vs r5.2.1]) qbi rfl rfl (qad.cown 0 rfl rfl)) rfl rfl fun a E=>kt 1 E rfl hT (qan rfl) fun a E=>kt 2 E rfl hT (qaT rfl) fun a E=>kt 3 E rfl hT (qan rfl) fun a E=>?_
  have E:=E.upd 71 c28 rfl
  refine qc5 4 false E rfl (by kernel_rfl) nP hT rfl rfl fun a E=>qc5 5 false E rfl (by kernel_rfl) nP hT rfl rfl fun a E=>qc5 6 false E rfl (by kernel_rfl) nP hT rfl rfl fun a E=>kt 7 E rfl hT (qbQ rfl rfl) fun a E=>qa1 [8] (by kernel_rfl) rfl (qa8 ?_)
  ·refine wo rfl<|qae E ok 1 rfl rfl rfl qcB rfl rfl ⟨rfl,rfl,rfl,trivial⟩ rfl rfl fun w ok=>wn<|qaw (cl2 (by kernel_rfl) (cq le_m0 ok [0] rfl)) fun hT=>kt 9 E rfl hT (qbx rfl) fun a E=>qbK (by kernel_rfl) ?_
   exact ⟨rfl,⟨ok,E.keep [2,3],l7,l8⟩⟩
 have hF:=qbg c28 hF
 obtain ⟨r29,e30,hF⟩:=bnd hF
 obtain rfl:=sj hF
 refine qbI [0] (Cls u m0 ([(b9,oc 214 [vb r2.2,vs r5.1,vs r5.2.1])] :: [(b1,oc 214 [vb false,(vs ([])),(vs ([]))])] :: [])) (Cls u m0 ([(b9,oc 214 [vb r2.2,vs r5.1,vs r5.2.1])] :: [])) (by kernel_rfl) ?_
 intro w hw
 replace ok:=qb3 ok hw
 clear hw
 refine qaw (cl1 (cq le_m0 ok [0,1] rfl) (cq le_m0 ok [0] rfl)) fun hT=>qdy 0 E rfl (by kernel_rfl) nP hT (qas (cs:=[vb r2.2,vs r5.1,vs r5.2.1]) qbi rfl rfl (qad.cown 0 rfl rfl)) rfl rfl fun a E=>kt 1 E rfl hT (qan rfl) fun a E=>kt 2 E rfl hT (qaT rfl) fun a E=>kt 3 E rfl hT (qan rfl) fun a E=>?_
 have E:=E.upd 71 c28 rfl
 refine kt 4 E rfl hT (qas (cs:=[vb r2.2,vs r5.1,vs r5.2.1]) qbi rfl rfl (qad.cown 0 rfl rfl)) fun a E=>qa1 [5] (by kernel_rfl) rfl (qa8 ?_)
 ·refine wo rfl<|lc E qlS rfl (qew N _ (Number.mk r2.2 r5.1 r5.2.1) ⟨rfl,l7,l8⟩ e30 hG ok) fun w ok a E=>wn<|qaw (cl1 (cq le_m0 ok [0,1] rfl) (cq le_m0 ok [0] rfl)) fun hT=>kt 6 E rfl hT (qaT rfl) fun a E=>kt 7 E rfl hT (qbW rfl rfl) fun a E=>qa1 [8] (by kernel_rfl) rfl (qa8 ?_)
  ·refine wo rfl<|qae E ok 1 rfl rfl rfl qcB rfl rfl ⟨rfl,rfl,rfl,trivial⟩ rfl rfl fun w ok=>wn<|qaw (cl2 (by kernel_rfl) (cq le_m0 ok [0] rfl)) fun hT=>kt 9 E rfl hT (qbx rfl) fun a E=>qbK (by kernel_rfl) ?_
   exact ⟨rfl,⟨ok,E.keep [2,3],l7,l8⟩⟩
def ql1 (u:World) (m0:Mem) (S:Segs) (r:Bool) (a:Act) (w:World):Prop :=
 Ok u m0 S w ∧ a.defers = [] ∧ RVs Tryz.prog a w [.t 2 (.bool r)]
theorem qlK (N:Nat) (s_0:List UInt8) (ls_0:s_0.length ≤ LIMS) {r:Bool} (hF:qe7 N s_0 = some r) (hG:Glob u) (ok:Ok u m0 S w) :
  Calls Tryz.prog 136 [vs s_0].toArray w fun e w'=>(e = .returned (.bool r) ∧ Ok u m0 S w'):=by
 have hb0:=ok.base
 have le_m0:=Mem.le.refl m0
 unfold qe7 at hF
 refine en (ql1 u m0 S) r Tryz.func136 rfl rfl rfl (fun _ _ h=>ra h rfl) fun fin a E=>sg<|aw E rfl fun a E=>sg<|mv E rfl fun a E=>bd hF fun r1 e2 hF=>qag E qq7 rfl (qlV N s_0 ls_0 e2 hG ok) rfl rfl ?_
 rintro _ w ⟨m3,vs4,rfl,hle,ok,h5⟩
 have le_m0:=le_m0.trans hle
 obtain ⟨rfl,l6,l7⟩:=h5
 refine ⟨_,rfl,fun a E=>?_⟩
 refine mv E rfl fun a E=>lw E (qa6 rfl rfl) fun a E=>lw E (qa6 rfl rfl) fun a E=>qa4 E ok qjG rfl rfl fun b8 a w E ok=>qae E ok 0 rfl rfl rfl qcB rfl rfl ⟨rfl,rfl,rfl,trivial⟩ rfl rfl fun w ok=>aw E rfl fun a E=>sg<|mv E rfl fun a E=>aw E rfl fun a E=>wp_ret ?_
 exact fin hF ⟨(ok.drop).down hb0 le_m0,E.d,rz E rfl⟩
def qny (u:World) (m0:Mem) (S:Segs) (r:Bool) (a:Act) (w:World):Prop :=
 Ok u m0 S w ∧ a.defers = [] ∧ RVs Tryz.prog a w [.t 4 (.bool r)]
theorem qna (N:Nat) (kind_0:Int) (rkind_0:InR .i64 kind_0) (s_1:List UInt8) (ls_1:s_1.length ≤ LIMS) {r:Bool} (hF:qgO N kind_0 s_1 = some r) (hG:Glob u) (ok:Ok u m0 S w) :
  Calls Tryz.prog 115 [vi kind_0,vs s_1].toArray w fun e w'=>(e = .returned (.bool r) ∧ Ok u m0 S w'):=by
 unfold qgO at hF
 refine en (qny u m0 S) r Tryz.func115 rfl rfl rfl (fun _ _ h=>ra h rfl) fun fin a E=>sg<|aw E rfl fun a E=>wp_seq<|sg<|mv E rfl fun a E=>lw E (qao rfl rfl) fun a E=>wn<|cf E rfl hF (fun c1 hF=>?_) fun c1 hF=>?_
 ·refine sg<|mv E rfl fun a E=>bd hF fun r2 e3 hF=>lc E qlT rfl (qg5 N s_1 ls_1 e3 hG ok) fun w ok a E=>aw E rfl fun a E=>wp_ret<|qah ?_
  exact fin hF ⟨ok,E.d,rz E rfl⟩
 refine wp_skip<|qaa<|sg<|mv E rfl fun a E=>bd hF fun r4 e5 hF=>qag E qo3 rfl (qhc N s_1 ls_1 ([61]) (show ([61]:List UInt8).length ≤ LIMS by decide) e5 hG ok) rfl rfl ?_
 rintro _ w ⟨⟨rfl,ok⟩,l6⟩
 refine ⟨_,rfl,fun a E=>?_⟩
 refine mv E rfl fun a E=>lw E (qa6 rfl rfl) fun a E=>lw E (qa6 rfl rfl) fun a E=>av E rfl fun a E=>aw E rfl fun a E=>sg<|mv E rfl fun a E=>bd hF fun r7 e8 hF=>lc E qrm rfl (qmn N s_1 ls_1 e8 hG ok) fun w ok a E=>mv E rfl fun a E=>qbj r7 (fun c9=>?_) (fun c9=>?_)
 ·have hF:=qbh c9 hF
  have E:=E.upd 18 c9 rfl
  refine lsz E fun a E=>ls E fun a E=>pt E rfl rfl fun a E=>av E rfl fun a E=>wn<|wp_ret ?_
  exact fin hF ⟨ok,E.d,rz E rfl⟩
 have hF:=qbg c9 hF
 have E:=E.upd 18 c9 rfl
 refine mz E rfl rfl fun a E=>qbj r4.2 (fun c10=>?_) (fun c10=>?_)
 rotate_left
 ·have hF:=qbg c10 hF
  have E:=E.upd 20 c10 rfl
  refine lsq E fun a E=>pf E rfl rfl fun a E=>pf E rfl rfl fun a E=>aw E rfl fun a E=>wp_ret ?_
  exact fin hF ⟨ok,E.d,rz E rfl⟩
 have hF:=qbh c10 hF
 have E:=E.upd 20 c10 rfl
 refine mv E rfl fun a E=>bd hF fun r11 e12 hF=>lc E qra rfl (qlK N r4.1 l6 e12 hG ok) fun w ok a E=>pt E rfl rfl fun a E=>pf E rfl rfl fun a E=>aw E rfl fun a E=>wp_ret ?_
 exact fin hF ⟨ok,E.d,rz E rfl⟩
def qgr (u:World) (m0:Mem) (S:Segs) (x0:List (List UInt8 × Bool)) (vm0:Value) (Mm0:List (Nat × Obj)) (r:Bool × (List (List UInt8 × Bool))) (a:Act) (w:World):Prop :=
 ∃ m1 M1,m0.le m1 ∧ Ok u m1 ([] :: M1 :: S) w ∧ a.defers = [] ∧ RVs Tryz.prog a w [.t 8 (.bool r.1)] ∧ OMap kS (oneV pB) m1 vm0 r.2 M1
def qgs (u:World) (m0:Mem) (S:Segs) (x0:List (List UInt8 × Bool)) (vm0:Value) (Mm0:List (Nat × Obj)) (r:Bool × (List (List UInt8 × Bool))) (a:Act) (w:World):Prop :=
 ∃ m1 M9,m0.le m1 ∧ Ok u m1 ([] :: M9 :: S) w ∧ a.defers = [] ∧ RVs Tryz.prog a w [.t 8 (.bool r.1)] ∧ OMap kS (oneV pB) m1 vm0 r.2 M9
def qdF (N:Nat):Prop:=∀ {u:World} {m0:Mem} {S:Segs} {w:World} (vl_1:Value) (l_1:List (Part)) (hl_1:(pL 6 qa0) m0 [vl_1] l_1) (depth_2:Int) (rdepth_2:InR .i64 depth_2) (counting_3:Bool) {vm0:Value} {Mm0:List (Nat × Obj)} (x0:List (List UInt8 × Bool)) (hm0:OMap kS (oneV pB) m0 vm0 x0 Mm0) {r:Bool × (List (List UInt8 × Bool))} (hF:qbf N l_1 depth_2 counting_3 x0 = some r) (hG:Glob u) (ok:Ok u m0 ([] :: Mm0 :: S) w),Calls Tryz.prog 67 [Value.agg [vm0].toArray,vl_1,vi depth_2,vb counting_3].toArray w fun e w'=>∃ m1 M1,e = .returned (.bool r.1) ∧ m0.le m1 ∧ Ok u m1 ([] :: M1 :: S) w' ∧ OMap kS (oneV pB) m1 vm0 r.2 M1
def qdz (N:Nat):Prop:=∀ {u:World} {m0:Mem} {S:Segs} {w:World} (vx_1:List Value) (x_1:Part) (hx_1:qa0 m0 vx_1 x_1) (depth_2:Int) (rdepth_2:InR .i64 depth_2) (counting_3:Bool) {vm0:Value} {Mm0:List (Nat × Obj)} (x0:List (List UInt8 × Bool)) (hm0:OMap kS (oneV pB) m0 vm0 x0 Mm0) {r:Bool × (List (List UInt8 × Bool))} (hF:qbS N x_1 depth_2 counting_3 x0 = some r) (hG:Glob u) (ok:Ok u m0 ([] :: Mm0 :: S) w),Calls Tryz.prog 91 [Value.agg [vm0].toArray,.agg vx_1.toArray,vi depth_2,vb counting_3].toArray w fun e w'=>∃ m1 M9,e = .returned (.bool r.1) ∧ m0.le m1 ∧ Ok u m1 ([] :: M9 :: S) w' ∧ OMap kS (oneV pB) m1 vm0 r.2 M9
theorem qh8 (N:Nat) (ih_syntax_checker_parts:qdF N) (ih_syntax_checker_cases:qdz N):qdF (N + 1):=by
 intro u m0 S w vl_1 l_1 hl_1 depth_2 rdepth_2 counting_3 vm0 Mm0 x0 hm0 r hF hG ok
 have le_m0:=Mem.le.refl m0
 have hF0:qc6 (qbf N) (qbS N) N l_1 depth_2 counting_3 x0 = some r:=hF
 have hF:=hF0
 clear hF0
 unfold qc6 at hF
 refine en (qgr u m0 S x0 vm0 Mm0) r Tryz.func67 rfl rfl rfl (by rintro a w ⟨m1,M1,hle,ok,hd,hrv,h0⟩; exact qbO [.t 8 (.bool r.1)] hd rfl hrv ⟨m1,M1,rfl,hle,ok,h0⟩) fun fin a E=>sg<|qfY E ok rfl rfl rfl fun b3 a w E ok=>aw E rfl fun a E=>wp_seq<|sg<|mv E rfl fun a E=>lv E ok (qaQ qbc hl_1 rfl) fun a E=>mv E rfl fun a E=>wn<|wp_block<|bd hF fun o8 hL hF=>qa9 _ (fun (s:Int × (List (List UInt8 × Bool))) a w=>∃ m9 M11,m0.le m9 ∧ Ok u m9 ([(b3,oc 128 [vm0])] :: [] :: M11 :: S) w ∧ Env 94 a [(1,vl_1),(2,vi depth_2),(3,vb counting_3),(4,vp b3),(11,vl_1),(12,(vi (l_1.length:Int))),(13,vi s.1)] ∧ InR .i64 s.1 ∧ OMap kS (oneV pB) m9 vm0 s.2 M11) (fun (b:(((List (List UInt8 × Bool))) ⊕ (Bool × (List (List UInt8 × Bool))))) e a w=>(Sum.elim (fun b138=>e = (.exit 0) ∧ ∃ m139 M140,m0.le m139 ∧ Ok u m139 ([(b3,oc 128 [vm0])] :: [] :: M140 :: S) w ∧ Env 94 a [] ∧ OMap kS (oneV pB) m139 vm0 b138 M140) (fun b142=>e = .ret ∧ qgr u m0 S x0 vm0 Mm0 b142 a w)) b) ?_ ?_ N _ a w hL ⟨m0,Mm0,Mem.le.refl _,ok,E.keep [1,2,3,4,11,12,13],(ir 0),hm0⟩
 rotate_left
 ·intro e a w _ hO
  rcases o8 with o8 | o8
  rotate_left
  ·obtain ⟨rfl,hret⟩:=hO
   refine qaq<|qah ?_
   exact fin hF hret
  have hF:=qbV hF
  obtain ⟨rfl,m135,M136,hle,ok,E,h137⟩:=hO
  have le_m0:=le_m0.trans hle
  have hl_1:=(mL qai).up hle hl_1
  refine qbm<|qaa<|sg<|aw E rfl fun a E=>wp_ret ?_
  exact fin hF ⟨m135,M136,le_m0,ok.drop,E.d,rz E rfl,h137⟩
 rintro ⟨v13,v14⟩ a w r ⟨m15,M17,hle,ok,E,r16,h18⟩ hF
 replace hF:qcR (qbf N) (qbS N) N l_1 depth_2 counting_3 v13 v14 = some r:=hF
 unfold qcR at hF
 have le_m0:=le_m0.trans hle
 have hl_1:=(mL qai).up hle hl_1
 refine sg<|lw E (qaO rfl rfl) fun a E=>wn<|wp_seq<|cg E rfl hF (fun c19 hF=>?_) fun c19 hF=>?_
 ·refine wp_exit<|qaU ?_
  cases hF
  exact so (sl ⟨rfl,⟨m15,M17,le_m0,ok,E.keep [],h18⟩⟩)
 refine wp_skip<|qaa<|wp_seq<|wp_block<|sg<|mv E rfl fun a E=>?_
 obtain ⟨x20,e21,hF⟩:=bnd hF
 obtain ⟨b22,o23,es24,hl25,rr26,at27,yy28⟩:=ia E 11 13 qbc hl_1 e21
 obtain ⟨c33,c35,rfl,r29,l30,l31,l32,h34,h36⟩:=(qaK.1 rr26)
 refine lv E ok (yy28 _ _) fun a E=>lv E ok (qas (cs:=[vi x20.Kind,vs x20.Text,vs x20.Name,vs x20.Style,c33,c35]) qdr rfl rfl (qad.ro at27)) fun a E=>qa4 E ok qbv rfl rfl fun b37 a w E ok=>av E rfl fun a E=>qae E ok 0 rfl rfl rfl qfd rfl rfl ⟨rfl,rfl,rfl,rfl,(qcD h34),(qcD h36),trivial⟩ rfl rfl fun w ok=>wn<|wp_seq<|wp_seq<|bd hF fun o38 hJ hF=>qaG (Q':=fun e a w=>e = .normal ∧ Ok u m15 ([(b37,oc 82 [vi x20.Kind,vs x20.Text,vs x20.Name,vs x20.Style,c33,c35])] :: [(b3,oc 128 [vm0])] :: [] :: M17 :: S) w ∧ Env 94 a [(1,vl_1),(2,vi depth_2),(3,vb counting_3),(4,vp b3),(10,vp b37),(11,vl_1),(12,(vi (l_1.length:Int))),(13,vi v13),(47,vb o38)]) ?_ ?_
 ·as_aux_lemma =>
   have hF:=hJ
   refine qac<|lv E ok (qas (cs:=[vi x20.Kind,vs x20.Text,vs x20.Name,vs x20.Style,c33,c35]) qdr rfl rfl (qad.own 0 rfl rfl)) fun a E=>bd hF fun r39 e40 hF=>lc E qsa rfl (qlU N _ x20 (qaK.2 ⟨_,_,rfl,r29,l30,l31,l32,h34,h36⟩) e40 hG ok) fun w ok a E=>lw E (qaT rfl) fun a E=>mv E rfl fun a E=>bu E 21 hF (fun c41 hF E=>?_) fun c41 hF E=>?_
   ·refine lsz E fun a E=>lsq E fun a E=>ls E fun a E=>pt E rfl rfl fun a E=>mv E rfl fun a E=>lsz E fun a E=>lsq E fun a E=>ls E fun a E=>?_
    refine lsz E fun a E=>lsz E fun a E=>ls E fun a E=>pt E rfl rfl fun a E=>wpList_nil ?_
    cases hF
    exact ⟨rfl,⟨ok,E.keep [1,2,3,4,10,11,12,13,47]⟩⟩
   refine fk E ok qay qap rfl 0 rfl rfl fun a E=>lw E (qao rfl rfl) fun a E=>mv E rfl fun a E=>bw E 25 hF (fun c42 hF E=>?_) fun c42 hF E=>?_
   ·refine lsq E fun a E=>pf E rfl rfl fun a E=>pf E rfl rfl fun a E=>mz E rfl rfl fun a E=>lw E (qbk rfl rfl) fun a E=>mv E rfl fun a E=>bw E 33 hF (fun c63 hF E=>?_) fun c63 hF E=>?_
    ·refine lsq E fun a E=>ls E fun a E=>pf E rfl rfl fun a E=>mv E rfl fun a E=>lsz E fun a E=>lsq E fun a E=>ls E fun a E=>pf E rfl rfl fun a E=>pf E rfl rfl fun a E=>wpList_nil ?_
     cases hF
     exact ⟨rfl,⟨ok,E.keep [1,2,3,4,10,11,12,13,47]⟩⟩
    refine fk E ok qay qap rfl 0 rfl rfl fun a E=>lw E (qao rfl rfl) fun a E=>pt E rfl rfl fun a E=>mv E rfl fun a E=>bw E 38 hF (fun c64 hF E=>?_) fun c64 hF E=>?_
    ·refine lsz E fun a E=>lsq E fun a E=>ls E fun a E=>pf E rfl rfl fun a E=>pf E rfl rfl fun a E=>wpList_nil ?_
     cases hF
     exact ⟨rfl,⟨ok,E.keep [1,2,3,4,10,11,12,13,47]⟩⟩
    refine mz E rfl rfl fun a E=>lw E (qod rfl rfl (InR.dec r16 (ir 0) c63)) fun a E=>?_
    obtain ⟨x65,e66,hF⟩:=bnd hF
    obtain ⟨b67,o68,es69,hl70,rr71,at72,yy73⟩:=ia E 39 41 qbc hl_1 e66
    obtain ⟨c78,c80,rfl,r74,l75,l76,l77,h79,h81⟩:=(qaK.1 rr71)
    refine lv E ok (yy73 _ _) fun a E=>fv E qay rfl fun a E=>lv E ok (qat qap rfl (qad.ro (At.sub 0 1 at72))) fun a E=>lw E (qao rfl rfl) fun a E=>pt E rfl rfl fun a E=>pf E rfl rfl fun a E=>wpList_nil ?_
    cases hF
    exact ⟨rfl,⟨ok,E.keep [1,2,3,4,10,11,12,13,47]⟩⟩
   refine mv E rfl fun a E=>lw E (qaT rfl) fun a E=>pt E rfl rfl fun a E=>pf E rfl rfl fun a E=>mv E rfl fun a E=>bu E 30 hF (fun c43 hF E=>?_) fun c43 hF E=>?_
   ·refine lsz E fun a E=>lsz E fun a E=>lsz E fun a E=>lsz E fun a E=>?_
    refine pt E rfl rfl fun a E=>wpList_nil ?_
    cases hF
    exact ⟨rfl,⟨ok,E.keep [1,2,3,4,10,11,12,13,47]⟩⟩
   refine mv E rfl fun a E=>lw E (qbk rfl rfl) fun a E=>mv E rfl fun a E=>bw E 33 hF (fun c44 hF E=>?_) fun c44 hF E=>?_
   ·refine lsq E fun a E=>ls E fun a E=>pf E rfl rfl fun a E=>mv E rfl fun a E=>lsz E fun a E=>lsq E fun a E=>ls E fun a E=>pf E rfl rfl fun a E=>pf E rfl rfl fun a E=>wpList_nil ?_
    cases hF
    exact ⟨rfl,⟨ok,E.keep [1,2,3,4,10,11,12,13,47]⟩⟩
   refine fk E ok qay qap rfl 0 rfl rfl fun a E=>lw E (qao rfl rfl) fun a E=>pt E rfl rfl fun a E=>mv E rfl fun a E=>bw E 38 hF (fun c45 hF E=>?_) fun c45 hF E=>?_
   ·refine lsz E fun a E=>lsq E fun a E=>ls E fun a E=>pf E rfl rfl fun a E=>pf E rfl rfl fun a E=>wpList_nil ?_
    cases hF
    exact ⟨rfl,⟨ok,E.keep [1,2,3,4,10,11,12,13,47]⟩⟩
   refine mz E rfl rfl fun a E=>lw E (qod rfl rfl (InR.dec r16 (ir 0) c44)) fun a E=>?_
   obtain ⟨x46,e47,hF⟩:=bnd hF
   obtain ⟨b48,o49,es50,hl51,rr52,at53,yy54⟩:=ia E 39 41 qbc hl_1 e47
   obtain ⟨c59,c61,rfl,r55,l56,l57,l58,h60,h62⟩:=(qaK.1 rr52)
   refine lv E ok (yy54 _ _) fun a E=>fv E qay rfl fun a E=>lv E ok (qat qap rfl (qad.ro (At.sub 0 1 at53))) fun a E=>lw E (qao rfl rfl) fun a E=>pt E rfl rfl fun a E=>pf E rfl rfl fun a E=>wpList_nil ?_
   cases hF
   exact ⟨rfl,⟨ok,E.keep [1,2,3,4,10,11,12,13,47]⟩⟩
 intro e a w hO
 obtain ⟨rfl,ok,E⟩:=hO
 refine qaa<|cf E rfl hF (fun c82 hF=>?_) fun c82 hF=>?_
 ·refine sg<|aw E rfl fun a E=>wp_ret<|qah<|qaq<|qah ?_
  cases hF
  exact so (sr ⟨rfl,⟨m15,M17,le_m0,ok.drop.drop,E.d,rz E rfl,h18⟩⟩)
 refine wp_skip<|qaa<|wp_seq<|sg<|fk E ok qay qap rfl 0 rfl rfl fun a E=>lw E (qao rfl rfl) fun a E=>mv E rfl fun a E=>bw E 51 hF (fun c83 hF E=>?_) fun c83 hF E=>?_
 ·as_aux_lemma =>
   refine lsz E fun a E=>lsz E fun a E=>lsz E fun a E=>pf E rfl rfl fun a E=>wn<|c_if E rfl (fun h=>by cases h) (fun _=>?_)
   refine wp_skip<|qaa<|wp_seq<|sg<|fk E ok qay qap rfl 0 rfl rfl fun a E=>bd hF fun r113 e114 hF=>lc E qiQ rfl (qcO N x20.Kind r29 e114 hG ok) fun w ok a E=>mv E rfl fun a E=>qbj r113 (fun c115=>?_) (fun c115=>?_)
   rotate_left
   ·as_aux_lemma =>
     have hF:=qbg c115 hF
     have E:=E.upd 68 c115 rfl
     refine lsz E fun a E=>lsz E fun a E=>lsq E fun a E=>ls E fun a E=>pf E rfl rfl fun a E=>wn<|c_if E rfl (fun h=>by cases h) (fun _=>?_)
     refine wp_skip<|qaa<|sg<|fk E ok qay qap rfl 0 rfl rfl fun a E=>lw E (qbN rfl rfl) fun a E=>mv E rfl fun a E=>bw E 84 hF (fun c129 hF E=>?_) fun c129 hF E=>?_
     ·refine lsq E fun a E=>ls E fun a E=>pf E rfl rfl fun a E=>wn<|c_if E rfl (fun h=>by cases h) (fun _=>?_)
      refine wp_skip<|qaf<|qaa<|qac<|lw E (qaA rfl rfl (InR.inc r16 (qal hl_1) c19)) fun a E=>mv E rfl fun a E=>wpList_nil ?_
      cases hF
      exact qar ⟨m15,M17,le_m0,(ok.pk 4 [1,2,3] rfl (by decide)),E.keep [1,2,3,4,11,12,13],(InR.inc r16 (qal hl_1) c19),h18⟩
     refine fk E ok qaN qak rfl 0 rfl rfl fun a E=>lw E (qce rfl rfl) fun a E=>pt E rfl rfl fun a E=>wn<|cg E rfl hF (fun c130 hF=>?_) fun c130 hF=>?_
     ·refine wp_skip<|qaf<|qaa<|qac<|lw E (qaA rfl rfl (InR.inc r16 (qal hl_1) c19)) fun a E=>mv E rfl fun a E=>wpList_nil ?_
      cases hF
      exact qar ⟨m15,M17,le_m0,(ok.pk 4 [1,2,3] rfl (by decide)),E.keep [1,2,3,4,11,12,13],(InR.inc r16 (qal hl_1) c19),h18⟩
     refine qac<|fk E ok qig qje rfl 1 rfl rfl fun a E=>fk E ok qaN qak rfl 0 rfl rfl fun a E=>bd hF fun l131 e132 hF=>qkM (.inl rfl) E ok 3 (qdV Tryz.underlying9) Tryz.underlying126 h18 rfl rfl rfl rfl ⟨rfl,l31⟩ qjS e132 rfl fun M133 w ok h134=>wpList_nil<|qaf<|qaa<|qac<|lw E (qaA rfl rfl (InR.inc r16 (qal hl_1) c19)) fun a E=>mv E rfl fun a E=>wpList_nil ?_
     cases hF
     exact qar ⟨m15,M133,le_m0,(ok.pk 4 [1,2,3] rfl (by decide)),E.keep [1,2,3,4,11,12,13],(InR.inc r16 (qal hl_1) c19),h134⟩
   have hF:=qbh c115 hF
   have E:=E.upd 68 c115 rfl
   refine mv E rfl fun a E=>lw E (qb2 rfl rfl) fun a E=>mv E rfl fun a E=>bu E 71 hF (fun c116 hF E=>?_) fun c116 hF E=>?_
   ·refine lsz E fun a E=>lsq E fun a E=>ls E fun a E=>pt E rfl rfl fun a E=>pt E rfl rfl fun a E=>wn<|c_if E rfl (fun _=>?_) (fun h=>by cases h)
    refine sg<|aw E rfl fun a E=>wp_ret<|qah<|qaq<|qah ?_
    cases hF
    exact so (sr ⟨rfl,⟨m15,M17,le_m0,ok.drop.drop,E.d,rz E rfl,h18⟩⟩)
   refine lv E ok (qas (cs:=[vm0]) qjd rfl rfl (qad.own 1 rfl rfl)) fun a E=>lv E ok (qas (cs:=[vi x20.Kind,vs x20.Text,vs x20.Name,vs x20.Style,c33,c35]) qdr rfl rfl (qad.own 0 rfl rfl)) fun a E=>mv E rfl fun a E=>lw E (qaM rfl rfl) fun a E=>mv E rfl fun a E=>?_
   obtain ⟨r117,e118,hF⟩:=bnd hF
   replace ok:Ok u m15 ([] :: M17 :: [(b37,oc 82 [vi x20.Kind,vs x20.Text,vs x20.Name,vs x20.Style,c33,c35])] :: [(b3,oc 128 [vm0])] :: S) w:=(ok.pk 4 [2,3,0,1] rfl (by decide))
   refine qag E qqe rfl (ih_syntax_checker_cases _ x20 (qaK.2 ⟨_,_,rfl,r29,l30,l31,l32,h34,h36⟩) (IntKind.wrap .i64 (depth_2 + 1)) (InR.wrap _ _) counting_3 v14 h18 e118 hG ok) rfl rfl ?_
   rintro _ w ⟨m119,M120,rfl,hle,ok,h121⟩
   have le_m0:=le_m0.trans hle
   have hl_1:=(mL qai).up hle hl_1
   have h34:=(mL qaC).up hle h34
   have h36:=(mL qai).up hle h36
   have at27:=At.up hle at27
   refine ⟨_,rfl,fun a E=>?_⟩
   refine lw E (qaT rfl) fun a E=>pf E rfl rfl fun a E=>pt E rfl rfl fun a E=>wn<|cf E rfl hF (fun c122 hF=>?_) fun c122 hF=>?_
   ·refine sg<|aw E rfl fun a E=>wp_ret<|qah<|qaq<|qah ?_
    cases hF
    exact so (sr ⟨rfl,⟨m119,M120,le_m0,(ok.pk 4 [0,1] rfl (by decide)),E.d,rz E rfl,h121⟩⟩)
   refine wp_skip<|qaa<|sg<|fk E ok qay qap rfl 2 rfl rfl fun a E=>lw E (qbN rfl rfl) fun a E=>mv E rfl fun a E=>bw E 84 hF (fun c123 hF E=>?_) fun c123 hF E=>?_
   ·refine lsq E fun a E=>ls E fun a E=>pf E rfl rfl fun a E=>wn<|c_if E rfl (fun h=>by cases h) (fun _=>?_)
    refine wp_skip<|qaf<|qaa<|qac<|lw E (qaA rfl rfl (InR.inc r16 (qal hl_1) c19)) fun a E=>mv E rfl fun a E=>wpList_nil ?_
    cases hF
    exact qar ⟨m119,M120,le_m0,(ok.pk 4 [3,0,1] rfl (by decide)),E.keep [1,2,3,4,11,12,13],(InR.inc r16 (qal hl_1) c19),h121⟩
   refine fk E ok qaN qak rfl 2 rfl rfl fun a E=>lw E (qce rfl rfl) fun a E=>pt E rfl rfl fun a E=>wn<|cg E rfl hF (fun c124 hF=>?_) fun c124 hF=>?_
   ·refine wp_skip<|qaf<|qaa<|qac<|lw E (qaA rfl rfl (InR.inc r16 (qal hl_1) c19)) fun a E=>mv E rfl fun a E=>wpList_nil ?_
    cases hF
    exact qar ⟨m119,M120,le_m0,(ok.pk 4 [3,0,1] rfl (by decide)),E.keep [1,2,3,4,11,12,13],(InR.inc r16 (qal hl_1) c19),h121⟩
   refine qac<|fk E ok qig qje rfl 3 rfl rfl fun a E=>fk E ok qaN qak rfl 2 rfl rfl fun a E=>bd hF fun l125 e126 hF=>qkM (.inl rfl) E ok 1 (qdV Tryz.underlying9) Tryz.underlying126 h121 rfl rfl rfl rfl ⟨rfl,l31⟩ qjS e126 rfl fun M127 w ok h128=>wpList_nil<|qaf<|qaa<|qac<|lw E (qaA rfl rfl (InR.inc r16 (qal hl_1) c19)) fun a E=>mv E rfl fun a E=>wpList_nil ?_
   cases hF
   exact qar ⟨m119,M127,le_m0,(ok.pk 4 [3,0,1] rfl (by decide)),E.keep [1,2,3,4,11,12,13],(InR.inc r16 (qal hl_1) c19),h128⟩
 refine mv E rfl fun a E=>lw E (qb2 rfl rfl) fun a E=>mv E rfl fun a E=>bu E 54 hF (fun c84 hF E=>?_) fun c84 hF E=>?_
 ·refine lsz E fun a E=>lsz E fun a E=>pt E rfl rfl fun a E=>pt E rfl rfl fun a E=>wn<|c_if E rfl (fun _=>?_) (fun h=>by cases h)
  refine sg<|aw E rfl fun a E=>wp_ret<|qah<|qaq<|qah ?_
  cases hF
  exact so (sr ⟨rfl,⟨m15,M17,le_m0,ok.drop.drop,E.d,rz E rfl,h18⟩⟩)
 refine lv E ok (qas (cs:=[vm0]) qjd rfl rfl (qad.own 1 rfl rfl)) fun a E=>fk E ok qbR qbu rfl 0 rfl rfl fun a E=>mv E rfl fun a E=>lw E (qaM rfl rfl) fun a E=>mv E rfl fun a E=>?_
 obtain ⟨r85,e86,hF⟩:=bnd hF
 replace ok:Ok u m15 ([] :: M17 :: [(b37,oc 82 [vi x20.Kind,vs x20.Text,vs x20.Name,vs x20.Style,c33,c35])] :: [(b3,oc 128 [vm0])] :: S) w:=(ok.pk 4 [2,3,0,1] rfl (by decide))
 refine qag E qmU rfl (ih_syntax_checker_parts _ x20.Parts h36 (IntKind.wrap .i64 (depth_2 + 1)) (InR.wrap _ _) counting_3 v14 h18 e86 hG ok) rfl rfl ?_
 rintro _ w ⟨m87,M88,rfl,hle,ok,h89⟩
 have le_m0:=le_m0.trans hle
 have hl_1:=(mL qai).up hle hl_1
 have h34:=(mL qaC).up hle h34
 have h36:=(mL qai).up hle h36
 have at27:=At.up hle at27
 refine ⟨_,rfl,fun a E=>?_⟩
 refine lw E (qaT rfl) fun a E=>pf E rfl rfl fun a E=>pt E rfl rfl fun a E=>wn<|cf E rfl hF (fun c90 hF=>?_) fun c90 hF=>?_
 ·refine sg<|aw E rfl fun a E=>wp_ret<|qah<|qaq<|qah ?_
  cases hF
  exact so (sr ⟨rfl,⟨m87,M88,le_m0,(ok.pk 4 [0,1] rfl (by decide)),E.d,rz E rfl,h89⟩⟩)
 refine wp_skip<|qaa<|wp_seq<|sg<|fk E ok qay qap rfl 2 rfl rfl fun a E=>bd hF fun r91 e92 hF=>lc E qiQ rfl (qcO N x20.Kind r29 e92 hG ok) fun w ok a E=>mv E rfl fun a E=>qbj r91 (fun c93=>?_) (fun c93=>?_)
 rotate_left
 ·as_aux_lemma =>
   have hF:=qbg c93 hF
   have E:=E.upd 68 c93 rfl
   refine lsz E fun a E=>lsz E fun a E=>lsq E fun a E=>ls E fun a E=>pf E rfl rfl fun a E=>wn<|c_if E rfl (fun h=>by cases h) (fun _=>?_)
   refine wp_skip<|qaa<|sg<|fk E ok qay qap rfl 2 rfl rfl fun a E=>lw E (qbN rfl rfl) fun a E=>mv E rfl fun a E=>bw E 84 hF (fun c107 hF E=>?_) fun c107 hF E=>?_
   ·refine lsq E fun a E=>ls E fun a E=>pf E rfl rfl fun a E=>wn<|c_if E rfl (fun h=>by cases h) (fun _=>?_)
    refine wp_skip<|qaf<|qaa<|qac<|lw E (qaA rfl rfl (InR.inc r16 (qal hl_1) c19)) fun a E=>mv E rfl fun a E=>wpList_nil ?_
    cases hF
    exact qar ⟨m87,M88,le_m0,(ok.pk 4 [3,0,1] rfl (by decide)),E.keep [1,2,3,4,11,12,13],(InR.inc r16 (qal hl_1) c19),h89⟩
   refine fk E ok qaN qak rfl 2 rfl rfl fun a E=>lw E (qce rfl rfl) fun a E=>pt E rfl rfl fun a E=>wn<|cg E rfl hF (fun c108 hF=>?_) fun c108 hF=>?_
   ·refine wp_skip<|qaf<|qaa<|qac<|lw E (qaA rfl rfl (InR.inc r16 (qal hl_1) c19)) fun a E=>mv E rfl fun a E=>wpList_nil ?_
    cases hF
    exact qar ⟨m87,M88,le_m0,(ok.pk 4 [3,0,1] rfl (by decide)),E.keep [1,2,3,4,11,12,13],(InR.inc r16 (qal hl_1) c19),h89⟩
   refine qac<|fk E ok qig qje rfl 3 rfl rfl fun a E=>fk E ok qaN qak rfl 2 rfl rfl fun a E=>bd hF fun l109 e110 hF=>qkM (.inl rfl) E ok 1 (qdV Tryz.underlying9) Tryz.underlying126 h89 rfl rfl rfl rfl ⟨rfl,l31⟩ qjS e110 rfl fun M111 w ok h112=>wpList_nil<|qaf<|qaa<|qac<|lw E (qaA rfl rfl (InR.inc r16 (qal hl_1) c19)) fun a E=>mv E rfl fun a E=>wpList_nil ?_
   cases hF
   exact qar ⟨m87,M111,le_m0,(ok.pk 4 [3,0,1] rfl (by decide)),E.keep [1,2,3,4,11,12,13],(InR.inc r16 (qal hl_1) c19),h112⟩
 have hF:=qbh c93 hF
 have E:=E.upd 68 c93 rfl
 refine mv E rfl fun a E=>lw E (qb2 rfl rfl) fun a E=>mv E rfl fun a E=>bu E 71 hF (fun c94 hF E=>?_) fun c94 hF E=>?_
 ·refine lsz E fun a E=>lsq E fun a E=>ls E fun a E=>pt E rfl rfl fun a E=>pt E rfl rfl fun a E=>wn<|c_if E rfl (fun _=>?_) (fun h=>by cases h)
  refine sg<|aw E rfl fun a E=>wp_ret<|qah<|qaq<|qah ?_
  cases hF
  exact so (sr ⟨rfl,⟨m87,M88,le_m0,(ok.pk 4 [0,1] rfl (by decide)),E.d,rz E rfl,h89⟩⟩)
 refine lv E ok (qas (cs:=[vm0]) qjd rfl rfl (qad.own 3 rfl rfl)) fun a E=>lv E ok (qas (cs:=[vi x20.Kind,vs x20.Text,vs x20.Name,vs x20.Style,c33,c35]) qdr rfl rfl (qad.own 2 rfl rfl)) fun a E=>mv E rfl fun a E=>lw E (qaM rfl rfl) fun a E=>mv E rfl fun a E=>bd hF fun r95 e96 hF=>qag E qqe rfl (ih_syntax_checker_cases _ x20 (qaK.2 ⟨_,_,rfl,r29,l30,l31,l32,h34,h36⟩) (IntKind.wrap .i64 (depth_2 + 1)) (InR.wrap _ _) counting_3 r85.2 h89 e96 hG ok) rfl rfl ?_
 rintro _ w ⟨m97,M98,rfl,hle,ok,h99⟩
 have le_m0:=le_m0.trans hle
 have hl_1:=(mL qai).up hle hl_1
 have h34:=(mL qaC).up hle h34
 have h36:=(mL qai).up hle h36
 have at27:=At.up hle at27
 refine ⟨_,rfl,fun a E=>?_⟩
 refine lw E (qaT rfl) fun a E=>pf E rfl rfl fun a E=>pt E rfl rfl fun a E=>wn<|cf E rfl hF (fun c100 hF=>?_) fun c100 hF=>?_
 ·refine sg<|aw E rfl fun a E=>wp_ret<|qah<|qaq<|qah ?_
  cases hF
  exact so (sr ⟨rfl,⟨m97,M98,le_m0,(ok.pk 4 [0,1] rfl (by decide)),E.d,rz E rfl,h99⟩⟩)
 refine wp_skip<|qaa<|sg<|fk E ok qay qap rfl 2 rfl rfl fun a E=>lw E (qbN rfl rfl) fun a E=>mv E rfl fun a E=>bw E 84 hF (fun c101 hF E=>?_) fun c101 hF E=>?_
 ·refine lsq E fun a E=>ls E fun a E=>pf E rfl rfl fun a E=>wn<|c_if E rfl (fun h=>by cases h) (fun _=>?_)
  refine wp_skip<|qaf<|qaa<|qac<|lw E (qaA rfl rfl (InR.inc r16 (qal hl_1) c19)) fun a E=>mv E rfl fun a E=>wpList_nil ?_
  cases hF
  exact qar ⟨m97,M98,le_m0,(ok.pk 4 [3,0,1] rfl (by decide)),E.keep [1,2,3,4,11,12,13],(InR.inc r16 (qal hl_1) c19),h99⟩
 refine fk E ok qaN qak rfl 2 rfl rfl fun a E=>lw E (qce rfl rfl) fun a E=>pt E rfl rfl fun a E=>wn<|cg E rfl hF (fun c102 hF=>?_) fun c102 hF=>?_
 ·refine wp_skip<|qaf<|qaa<|qac<|lw E (qaA rfl rfl (InR.inc r16 (qal hl_1) c19)) fun a E=>mv E rfl fun a E=>wpList_nil ?_
  cases hF
  exact qar ⟨m97,M98,le_m0,(ok.pk 4 [3,0,1] rfl (by decide)),E.keep [1,2,3,4,11,12,13],(InR.inc r16 (qal hl_1) c19),h99⟩
 refine qac<|fk E ok qig qje rfl 3 rfl rfl fun a E=>fk E ok qaN qak rfl 2 rfl rfl fun a E=>bd hF fun l103 e104 hF=>qkM (.inl rfl) E ok 1 (qdV Tryz.underlying9) Tryz.underlying126 h99 rfl rfl rfl rfl ⟨rfl,l31⟩ qjS e104 rfl fun M105 w ok h106=>wpList_nil<|qaf<|qaa<|qac<|lw E (qaA rfl rfl (InR.inc r16 (qal hl_1) c19)) fun a E=>mv E rfl fun a E=>wpList_nil ?_
 cases hF
 exact qar ⟨m97,M105,le_m0,(ok.pk 4 [3,0,1] rfl (by decide)),E.keep [1,2,3,4,11,12,13],(InR.inc r16 (qal hl_1) c19),h106⟩
theorem qhY (N:Nat) (ih_syntax_checker_parts:qdF N) (ih_syntax_checker_cases:qdz N):qdz (N + 1):=by
 intro u m0 S w vx_1 x_1 hx_1 depth_2 rdepth_2 counting_3 vm0 Mm0 x0 hm0 r hF hG ok
 obtain ⟨c5,c7,rfl,r1,l2,l3,l4,h6,h8⟩:=(qaK.1 hx_1)
 have le_m0:=Mem.le.refl m0
 have hF0:qc7 (qbf N) (qbS N) N x_1 depth_2 counting_3 x0 = some r:=hF
 have hF:=hF0
 clear hF0
 unfold qc7 at hF
 refine en (qgs u m0 S x0 vm0 Mm0) r Tryz.func91 rfl rfl rfl (by rintro a w ⟨m1,M9,hle,ok,hd,hrv,h0⟩; exact qbO [.t 8 (.bool r.1)] hd rfl hrv ⟨m1,M9,rfl,hle,ok,h0⟩) fun fin a E=>sg<|qfY E ok rfl rfl rfl fun b11 a w E ok=>qfY E ok rfl rfl rfl fun b12 a w E ok=>aw E rfl fun a E=>sg<|qmI kS (oneV pB) E ok rfl rfl fun c13 M14 a w E ok h15=>aw E rfl fun a E=>wp_seq<|sg<|fk E ok qa2 qbo rfl 1 rfl rfl fun a E=>lv E ok (qaQ qbr h6 rfl) fun a E=>mv E rfl fun a E=>wn<|wp_block<|bd hF fun o23 hL hF=>qa9 _ (fun (s:Int × (List (List UInt8 × Bool)) × (List (List UInt8 × Bool))) a w=>∃ m24 M26 c28 M29,m0.le m24 ∧ Ok u m24 (M29 :: [(b12,oc 82 [vi x_1.Kind,vs x_1.Text,vs x_1.Name,vs x_1.Style,c5,c7])] :: [(b11,oc 128 [vm0])] :: [] :: M26 :: S) w ∧ Env 58 a [(2,vi depth_2),(3,vb counting_3),(4,vp b11),(5,vp b12),(9,c28),(14,c5),(15,(vi (x_1.Cases.length:Int))),(16,vi s.1)] ∧ InR .i64 s.1 ∧ OMap kS (oneV pB) m24 vm0 s.2.1 M26 ∧ OMap kS (oneV pB) m24 c28 s.2.2 M29) (fun (b:(((List (List UInt8 × Bool)) × (List (List UInt8 × Bool))) ⊕ (Bool × (List (List UInt8 × Bool))))) e a w=>(Sum.elim (fun b97=>e = (.exit 0) ∧ ∃ m98 M99 c101 M102,m0.le m98 ∧ Ok u m98 (M102 :: [(b12,oc 82 [vi x_1.Kind,vs x_1.Text,vs x_1.Name,vs x_1.Style,c5,c7])] :: [(b11,oc 128 [vm0])] :: [] :: M99 :: S) w ∧ Env 58 a [(5,vp b12),(9,c101)] ∧ OMap kS (oneV pB) m98 vm0 b97.1 M99 ∧ OMap kS (oneV pB) m98 c101 b97.2 M102) (fun b104=>e = .ret ∧ qgs u m0 S x0 vm0 Mm0 b104 a w)) b) ?_ ?_ N _ a w hL ⟨m0,Mm0,c13,M14,Mem.le.refl _,ok,E.keep [2,3,4,5,9,14,15,16],(ir 0),hm0,h15⟩
 rotate_left
 ·intro e a w _ hO
  rcases o23 with o23 | o23
  rotate_left
  ·obtain ⟨rfl,hret⟩:=hO
   refine qaq<|qah ?_
   exact fin hF hret
  have hF:=qbV hF
  obtain ⟨rfl,m86,M87,c89,M90,hle,ok,E,h88,h91⟩:=hO
  have le_m0:=le_m0.trans hle
  have h6:=(mL qaC).up hle h6
  have h8:=(mL qai).up hle h8
  refine qbm<|qaa<|sg<|fk E ok qa2 qbo rfl 1 rfl rfl fun a E=>lv E ok (qaQ qbr h6 rfl) fun a E=>lw E (qc4 rfl rfl) fun a E=>mv E rfl fun a E=>bw E 54 hF (fun c92 hF E=>?_) fun c92 hF E=>?_
  ·refine lsq E fun a E=>pf E rfl rfl fun a E=>aw E rfl fun a E=>wp_ret ?_
   exact fin hF ⟨m86,M87,le_m0,ok.drop.drop.drop,E.d,rz E rfl,h88⟩
  refine mv E rfl fun a E=>?_
  obtain ⟨xv93,h94,yy95,yy96⟩:=qqt (P:=Tryz.prog) (mo:=.tmp 55) (ko:=.const (vs ([111,116,104,101,114]))) (zx:=(false:Bool)) ok 0 (qdV Tryz.underlying9) Tryz.underlying126 h91 rfl (qcy E rfl) (qcy E rfl) ⟨rfl,(show ([111,116,104,101,114]:List UInt8).length ≤ LIMS by decide)⟩ qnR qjS
  obtain rfl:=qpm h94
  refine lv E ok (yy95 _) fun a E=>pt E rfl rfl fun a E=>aw E rfl fun a E=>wp_ret ?_
  exact fin hF ⟨m86,M87,le_m0,ok.drop.drop.drop,E.d,rz E rfl,h88⟩
 rintro ⟨v31,v32,v33⟩ a w r ⟨m34,M36,c38,M39,hle,ok,E,r35,h37,h40⟩ hF
 replace hF:qcS (qbf N) (qbS N) N x_1 depth_2 counting_3 v31 v32 v33 = some r:=hF
 unfold qcS at hF
 have le_m0:=le_m0.trans hle
 have h6:=(mL qaC).up hle h6
 have h8:=(mL qai).up hle h8
 refine sg<|lw E (qaO rfl rfl) fun a E=>wn<|wp_seq<|cg E rfl hF (fun c41 hF=>?_) fun c41 hF=>?_
 ·refine wp_exit<|qaU ?_
  cases hF
  exact so (sl ⟨rfl,⟨m34,M36,c38,M39,le_m0,ok,E.keep [5,9],h37,h40⟩⟩)
 refine wp_skip<|qaa<|wp_seq<|wp_block<|sg ?_
 obtain ⟨x42,e43,hF⟩:=bnd hF
 obtain ⟨b44,o45,es46,hl47,rr48,at49,yy50⟩:=ia E 14 16 qbr h6 e43
 obtain ⟨c52,rfl,l51,h53⟩:=rr48
 refine lv E ok (yy50 _ _) fun a E=>lv E ok (qas (cs:=[vs x42.Key,c52]) qiF rfl rfl (qad.ro at49)) fun a E=>qa4 E ok qdq rfl rfl fun b54 a w E ok=>qae E ok 0 rfl rfl rfl qiu rfl rfl ⟨rfl,(qcD h53),trivial⟩ rfl rfl fun w ok=>wn<|wp_seq<|wp_seq<|bd hF fun o55 hJ hF=>qaG (Q':=fun e a w=>e = .normal ∧ ∃ m56 M57,m34.le m56 ∧ Ok u m56 ([(b54,oc 85 [vs x42.Key,c52])] :: M39 :: [(b12,oc 82 [vi x_1.Kind,vs x_1.Text,vs x_1.Name,vs x_1.Style,c5,c7])] :: [(b11,oc 128 [vm0])] :: [] :: M57 :: S) w ∧ Env 58 a [(2,vi depth_2),(3,vb counting_3),(4,vp b11),(5,vp b12),(9,c38),(11,vp b54),(14,c5),(15,(vi (x_1.Cases.length:Int))),(16,vi v31),(45,vb o55.1)] ∧ OMap kS (oneV pB) m56 vm0 o55.2 M57) ?_ ?_
 rotate_left
 ·intro e a w hO
  obtain ⟨rfl,m78,M79,hle,ok,E,h80⟩:=hO
  have le_m0:=le_m0.trans hle
  have h6:=(mL qaC).up hle h6
  have h8:=(mL qai).up hle h8
  have h40:=OMap.up (ql2 mB) hle h40
  have h53:=(mL qai).up hle h53
  have at49:=At.up hle at49
  refine qaa<|cf E rfl hF (fun c81 hF=>?_) fun c81 hF=>?_
  ·refine sg<|aw E rfl fun a E=>wp_ret<|qah<|qaq<|qah ?_
   cases hF
   exact so (sr ⟨rfl,⟨m78,M79,le_m0,ok.drop.drop.drop.drop,E.d,rz E rfl,h80⟩⟩)
  refine wp_skip<|qaa<|qac<|mv E rfl fun a E=>fk E ok qda qak rfl 0 rfl rfl fun a E=>bd hF fun l82 e83 hF=>qkM (.inl rfl) E ok 1 (qdV Tryz.underlying9) Tryz.underlying126 h40 rfl rfl rfl rfl ⟨rfl,l51⟩ qjS e83 rfl fun M84 w ok h85=>wpList_nil<|qaf<|qaa<|qac<|lw E (qaA rfl rfl (InR.inc r35 (qal h6) c41)) fun a E=>mv E rfl fun a E=>wpList_nil ?_
  cases hF
  exact qar ⟨m78,M79,c38,M84,le_m0,(ok.pk 6 [1,2,3,4,5] rfl (by decide)),E.keep [2,3,4,5,9,14,15,16],(InR.inc r35 (qal h6) c41),h80,h85⟩
 have hF:=hJ
 have le_m34:=Mem.le.refl m34
 refine qac<|fk E ok qay qap rfl 2 rfl rfl fun a E=>fk E ok qda qak rfl 0 rfl rfl fun a E=>bd hF fun r59 e60 hF=>lc E qrk rfl (qna N x_1.Kind r1 x42.Key l51 e60 hG ok) fun w ok a E=>lw E (qaT rfl) fun a E=>mv E rfl fun a E=>bu E 26 hF (fun c61 hF E=>?_) fun c61 hF E=>?_
 ·refine lsz E fun a E=>pt E rfl rfl fun a E=>mv E rfl fun a E=>lsz E fun a E=>lsz E fun a E=>lsq E fun a E=>?_
  refine lsq E fun a E=>pt E rfl rfl fun a E=>wpList_nil ?_
  cases hF
  exact ⟨rfl,⟨m34,M36,le_m34,ok,E.keep [2,3,4,5,9,11,14,15,16,45],h37⟩⟩
 refine mv E rfl fun a E=>fk E ok qda qak rfl 0 rfl rfl fun a E=>?_
 obtain ⟨xv62,h63,yy64,yy65⟩:=qqt (P:=Tryz.prog) (mo:=.tmp 27) (ko:=.tmp 29) (zx:=(false:Bool)) ok 1 (qdV Tryz.underlying9) Tryz.underlying126 h40 rfl (qcy E rfl) (qcy E rfl) ⟨rfl,l51⟩ qnR qjS
 obtain rfl:=qpm h63
 refine lv E ok (yy64 _) fun a E=>pf E rfl rfl fun a E=>mv E rfl fun a E=>bu E 32 hF (fun c66 hF E=>?_) fun c66 hF E=>?_
 ·refine lsz E fun a E=>lsz E fun a E=>lsz E fun a E=>pt E rfl rfl fun a E=>wpList_nil ?_
  cases hF
  exact ⟨rfl,⟨m34,M36,le_m34,ok,E.keep [2,3,4,5,9,11,14,15,16,45],h37⟩⟩
 refine lv E ok (qas (cs:=[vm0]) qjd rfl rfl (qad.own 3 rfl rfl)) fun a E=>fk E ok qeh qbu rfl 0 rfl rfl fun a E=>mz E rfl rfl fun a E=>mv E rfl fun a E=>qbj counting_3 (fun c67=>?_) (fun c67=>?_)
 ·have hF:=qbh c67 hF
  have E:=E.upd 38 c67 rfl
  refine lsq E fun a E=>ls E fun a E=>pt E rfl rfl fun a E=>?_
  obtain ⟨r68,e69,hF⟩:=bnd hF
  replace ok:Ok u m34 ([] :: M36 :: [(b54,oc 85 [vs x42.Key,c52])] :: M39 :: [(b12,oc 82 [vi x_1.Kind,vs x_1.Text,vs x_1.Name,vs x_1.Style,c5,c7])] :: [(b11,oc 128 [vm0])] :: S) w:=(ok.pk 6 [4,5,0,1,2,3] rfl (by decide))
  refine qag E qmU rfl (ih_syntax_checker_parts _ x42.Parts h53 depth_2 rdepth_2 true v32 h37 e69 hG ok) rfl rfl ?_
  rintro _ w ⟨m70,M71,rfl,hle,ok,h72⟩
  have le_m0:=le_m0.trans hle
  have le_m34:=le_m34.trans hle
  have h6:=(mL qaC).up hle h6
  have h8:=(mL qai).up hle h8
  have h40:=OMap.up (ql2 mB) hle h40
  have h53:=(mL qai).up hle h53
  have at49:=At.up hle at49
  refine ⟨_,rfl,fun a E=>?_⟩
  refine lw E (qaT rfl) fun a E=>pf E rfl rfl fun a E=>wpList_nil ?_
  cases hF
  exact ⟨rfl,⟨m70,M71,le_m34,(ok.pk 6 [2,3,4,5,0,1] rfl (by decide)),E.keep [2,3,4,5,9,11,14,15,16,45],h72⟩⟩
 have hF:=qbg c67 hF
 have E:=E.upd 38 c67 rfl
 refine fk E ok qay qap rfl 2 rfl rfl fun a E=>lw E (qbN rfl rfl) fun a E=>pf E rfl rfl fun a E=>?_
 obtain ⟨r73,e74,hF⟩:=bnd hF
 replace ok:Ok u m34 ([] :: M36 :: [(b54,oc 85 [vs x42.Key,c52])] :: M39 :: [(b12,oc 82 [vi x_1.Kind,vs x_1.Text,vs x_1.Name,vs x_1.Style,c5,c7])] :: [(b11,oc 128 [vm0])] :: S) w:=(ok.pk 6 [4,5,0,1,2,3] rfl (by decide))
 refine qag E qmU rfl (ih_syntax_checker_parts _ x42.Parts h53 depth_2 rdepth_2 (x_1.Kind != 9) v32 h37 e74 hG ok) rfl rfl ?_
 rintro _ w ⟨m75,M76,rfl,hle,ok,h77⟩
 have le_m0:=le_m0.trans hle
 have le_m34:=le_m34.trans hle
 have h6:=(mL qaC).up hle h6
 have h8:=(mL qai).up hle h8
 have h40:=OMap.up (ql2 mB) hle h40
 have h53:=(mL qai).up hle h53
 have at49:=At.up hle at49
 refine ⟨_,rfl,fun a E=>?_⟩
 refine lw E (qaT rfl) fun a E=>pf E rfl rfl fun a E=>wpList_nil ?_
 cases hF
 exact ⟨rfl,⟨m75,M76,le_m34,(ok.pk 6 [2,3,4,5,0,1] rfl (by decide)),E.keep [2,3,4,5,9,11,14,15,16,45],h77⟩⟩
theorem qh4:qdF 0:=by
 intro u m0 S w vl_1 l_1 hl_1 depth_2 rdepth_2 counting_3 vm0 Mm0 x0 hm0 r hF hG ok
 replace hF:none = some r:=hF
 cases hF
theorem qh1:qdz 0:=by
 intro u m0 S w vx_1 x_1 hx_1 depth_2 rdepth_2 counting_3 vm0 Mm0 x0 hm0 r hF hG ok
 replace hF:none = some r:=hF
 cases hF
theorem qhl (N:Nat):qdF N ∧ qdz N:=by
 induction N with
 | zero=>exact ⟨qh4,qh1⟩
 | succ N h=>exact ⟨qh8 N h.1 h.2,qhY N h.1 h.2⟩
theorem qi3 {u:World} {m0:Mem} {S:Segs} {w:World} (N:Nat) (vl_1:Value) (l_1:List (Part)) (hl_1:(pL 6 qa0) m0 [vl_1] l_1) (depth_2:Int) (rdepth_2:InR .i64 depth_2) (counting_3:Bool) {vm0:Value} {Mm0:List (Nat × Obj)} (x0:List (List UInt8 × Bool)) (hm0:OMap kS (oneV pB) m0 vm0 x0 Mm0) {r:Bool × (List (List UInt8 × Bool))} (hF:qbf N l_1 depth_2 counting_3 x0 = some r) (hG:Glob u) (ok:Ok u m0 ([] :: Mm0 :: S) w) :
 Calls Tryz.prog 67 [Value.agg [vm0].toArray,vl_1,vi depth_2,vb counting_3].toArray w fun e w'=>∃ m1 M1,e = .returned (.bool r.1) ∧ m0.le m1 ∧ Ok u m1 ([] :: M1 :: S) w' ∧ OMap kS (oneV pB) m1 vm0 r.2 M1:=(qhl N).1 vl_1 l_1 hl_1 depth_2 rdepth_2 counting_3 x0 hm0 hF hG ok
theorem qi9 {u:World} {m:Mem} {S:Segs} {w:World} {b:Nat} {v:Value} (ok:Ok u m ([(b,oc 68 [(Value.pointer none),v])] :: S) w) :
  Calls Tryz.prog 55 [.pointer (some ⟨b,0,none⟩)].toArray w fun e w'=>e = .returned (.tuple [].toArray) ∧ Ok u m ([(b,oc 68 [vp b,v])] :: S) w':=by
 have fin:∀ a w,(a.defers = [] ∧ Ok u m ([(b,oc 68 [vp b,v])] :: S) w) → bodyPost Tryz.prog Tryz.f55 (fun e w'=>e = .returned (.tuple [].toArray) ∧ Ok u m ([(b,oc 68 [vp b,v])] :: S) w') .ret a w:=fun a w h=>qbO [] h.1 rfl trivial ⟨rfl,h.2⟩
 refine enter Tryz.func55 rfl rfl rfl fun a E=>sg<|mv E rfl fun a E=>lw E (qam rfl) fun a E=>fk E ok qkT qnz rfl 0 rfl rfl fun a E=>lv E ok (qpc Tryz.underlying65 rfl rfl) fun a E=>wn<|c_if E rfl (fun _=>?_) (fun h=>by cases h)
 refine qac<|mz E rfl rfl fun a E=>lv E ok (qop Tryz.underlying65 Tryz.underlying130 qrA (by decide) (qmE (c:=[(Value.pointer none),v]) 0 rfl) (Nat.le_of_ble_eq_true rfl) rfl) fun a E=>lv E ok (qos Tryz.func70 (by kernel_rfl) (by kernel_rfl) (by kernel_rfl) (by kernel_rfl) rfl) fun a E=>lv E ok (qnb Tryz.underlying130 Tryz.underlying65 qn5 (qmE (c:=[(Value.pointer none),v]) 0 rfl) qqZ rfl) fun a E=>lw E (qam rfl) fun a E=>fv E qkT rfl fun a E=>qae E ok 0 rfl rfl rfl qrc rfl rfl ⟨rfl,trivial⟩ rfl rfl fun w ok=>wpList_nil ?_
 exact fin _ _ ⟨E.d,ok⟩
theorem qiT {u:World} {m:Mem} {S:Segs} {w:World} {b:Nat} {v:Value} (ok:Ok u m ([(b,oc 68 [vp b,v])] :: S) w) :
  Calls Tryz.prog 55 [.pointer (some ⟨b,0,none⟩)].toArray w fun e w'=>e = .returned (.tuple [].toArray) ∧ Ok u m ([(b,oc 68 [vp b,v])] :: S) w':=by
 have fin:∀ a w,(a.defers = [] ∧ Ok u m ([(b,oc 68 [vp b,v])] :: S) w) → bodyPost Tryz.prog Tryz.f55 (fun e w'=>e = .returned (.tuple [].toArray) ∧ Ok u m ([(b,oc 68 [vp b,v])] :: S) w') .ret a w:=fun a w h=>qbO [] h.1 rfl trivial ⟨rfl,h.2⟩
 refine enter Tryz.func55 rfl rfl rfl fun a E=>sg<|mv E rfl fun a E=>lw E (qam rfl) fun a E=>fk E ok qkT qnz rfl 0 rfl rfl fun a E=>lv E ok (qpc Tryz.underlying65 rfl rfl) fun a E=>wn<|c_if E rfl (fun h=>by cases h) (fun _=>?_)
 refine sg<|mv E rfl fun a E=>lw E (qam rfl) fun a E=>fk E ok qkT qnz rfl 0 rfl rfl fun a E=>mv E rfl fun a E=>lv E ok (qoS Tryz.underlying65 qn5 rfl rfl) fun a E=>wn<|c_if E rfl (fun h=>by cases h) (fun _=>?_)
 refine wp_skip ?_
 exact fin _ _ ⟨E.d,ok⟩
theorem qhd {u:World} {m:Mem} {S:Segs} {w:World} {b:Nat} {a v:Value} (ha:BAd b a) (ok:Ok u m ([(b,oc 68 [a,v])] :: S) w) :
  Calls Tryz.prog 55 [.pointer (some ⟨b,0,none⟩)].toArray w fun e w'=>e = .returned (.tuple [].toArray) ∧ Ok u m ([(b,oc 68 [vp b,v])] :: S) w':=by
 rcases ha with rfl | rfl
 ·exact qi9 ok
 ·exact qiT ok
def qhy (u:World) (m0:Mem) (S:Segs) (pb0:Nat) (x0:Builder) (c1:Value) (c3:Value) (M4:List (Nat × Obj)) (r:Unit × Builder) (a:Act) (w:World):Prop :=
 ∃ c6 c8 M9,Ok u m0 ([(pb0,oc 68 [c6,c8])] :: M9 :: S) w ∧ a.defers = [] ∧ RVs Tryz.prog a w [.t 4 .nilIface] ∧ BAd pb0 c6 ∧ ORow 5 1 (pI .u8) m0 c8 r.2.buf M9
theorem qcN (N:Nat) (c_1:Int) (rc_1:InR .u8 c_1) {pb0:Nat} {c1:Value} {c3:Value} {M4:List (Nat × Obj)} (x0:Builder) (h2:BAd pb0 c1) (h5:ORow 5 1 (pI .u8) m0 c3 x0.buf M4) {r:Unit × Builder} (hF:qbC N c_1 x0 = some r) (hG:Glob u) (ok:Ok u m0 ([(pb0,oc 68 [c1,c3])] :: M4 :: S) w) :
  Calls Tryz.prog 38 [vp pb0,Value.int .u8 c_1].toArray w fun e w'=>∃ c6 c8 M9,(e = .returned .nilIface ∧ Ok u m0 ([(pb0,oc 68 [c6,c8])] :: M9 :: S) w') ∧ BAd pb0 c6 ∧ ORow 5 1 (pI .u8) m0 c8 r.2.buf M9:=by
 unfold qbC at hF
 refine en (qhy u m0 S pb0 x0 c1 c3 M4) r Tryz.func38 rfl rfl rfl (by rintro a w ⟨c6,c8,M9,ok,hd,hrv,h0,h1⟩; exact qbO [.t 4 .nilIface] hd rfl hrv ⟨c6,c8,M9,⟨rfl,ok⟩,h0,h1⟩) fun fin a E=>sg<|aw E rfl fun a E=>sg<|mv E rfl fun a E=>lc E qqp rfl (qhd h2 ok) fun w ok a E=>wn<|sg<|mz E rfl rfl fun a E=>lw E (qam rfl) fun a E=>fv E qkW rfl fun a E=>ld E ok qpB 0 rfl rfl rfl fun a E=>mv E rfl fun a E=>qbq (R:=(pI .u8)) (xo:=[.tmp 12]) (xs:=([c_1]:List (Int))) E ok qff qen rfl ⟨⟨_,rfl,rfl,(qej rc_1)⟩,trivial⟩ rfl rfl rfl rfl fun c11 M12 a w E ok h13=>?_
 refine bd hF fun l14 e15 hF=>qbX (R:=(pI .u8)) E ok 2 (mI .u8) qff Tryz.underlying66 rfl h5 (qbs.ofRow h13 0 rfl ok) e15 ⟨_,qen,rfl⟩ rfl rfl rfl rfl fun c16 M17 a w E ok h18=>lw E (qam rfl) fun a E=>fv E qkW rfl fun a E=>qae E ok 1 rfl rfl rfl qo5 (ORow.cells h18) rfl ⟨(ORow.one h18),trivial⟩ rfl rfl fun w ok=>wn<|sg<|aw E rfl fun a E=>wp_ret ?_
 exact fin hF ⟨(vp pb0),c16,M17,ok.drop,E.d,rz E rfl,(.inr rfl),h18⟩
def qlQ (u:World) (m0:Mem) (S:Segs) (r:Bool) (a:Act) (w:World):Prop :=
 Ok u m0 S w ∧ a.defers = [] ∧ RVs Tryz.prog a w [.t 2 (.bool r)]
theorem qlI (N:Nat) (c_0:Int) (rc_0:InR .u8 c_0) {r:Bool} (hF:qfF N c_0 = some r) (hG:Glob u) (ok:Ok u m0 S w) :
  Calls Tryz.prog 116 [Value.int .u8 c_0].toArray w fun e w'=>(e = .returned (.bool r) ∧ Ok u m0 S w'):=by
 unfold qfF at hF
 refine en (qlQ u m0 S) r Tryz.func116 rfl rfl rfl (fun _ _ h=>ra h rfl) fun fin a E=>sg<|aw E rfl fun a E=>wp_seq<|sg<|mv E rfl fun a E=>wn<|wp_block<|wp_seq<|sg<|lw E (qao rfl rfl) fun a E=>aw E rfl fun a E=>bd hF fun o1 hJ hF=>qaG (Q':=fun e a w=>e = .normal ∧ Ok u m0 (S) w ∧ Env 11 a [(4,vb o1)]) ?_ ?_
 rotate_left
 ·intro e a w hO
  obtain ⟨rfl,ok,E⟩:=hO
  refine qaa<|cf E rfl hF (fun c7 hF=>?_) fun c7 hF=>?_
  ·refine sg<|aw E rfl fun a E=>wp_ret<|qaq<|qah ?_
   exact fin hF ⟨ok,E.d,rz E rfl⟩
  refine wp_skip<|qaf<|qaa<|sg<|aw E rfl fun a E=>wp_ret ?_
  exact fin hF ⟨ok,E.d,rz E rfl⟩
 have hF:=hJ
 refine cf E rfl hF (fun c2 hF=>?_) fun c2 hF=>?_
 ·refine wp_skip ?_
  cases hF
  exact ⟨rfl,⟨ok,E.keep [4]⟩⟩
 refine sg<|lw E (qao rfl rfl) fun a E=>aw E rfl fun a E=>cf E rfl hF (fun c3 hF=>?_) fun c3 hF=>?_
 ·refine wp_skip ?_
  cases hF
  exact ⟨rfl,⟨ok,E.keep [4]⟩⟩
 refine sg<|lw E (qao rfl rfl) fun a E=>aw E rfl fun a E=>cf E rfl hF (fun c4 hF=>?_) fun c4 hF=>?_
 ·refine wp_skip ?_
  cases hF
  exact ⟨rfl,⟨ok,E.keep [4]⟩⟩
 refine sg<|lw E (qao rfl rfl) fun a E=>aw E rfl fun a E=>cf E rfl hF (fun c5 hF=>?_) fun c5 hF=>?_
 ·refine wp_skip ?_
  cases hF
  exact ⟨rfl,⟨ok,E.keep [4]⟩⟩
 refine sg<|lw E (qao rfl rfl) fun a E=>aw E rfl fun a E=>cf E rfl hF (fun c6 hF=>?_) fun c6 hF=>?_
 ·refine wp_skip ?_
  cases hF
  exact ⟨rfl,⟨ok,E.keep [4]⟩⟩
 refine qac<|lw E (qao rfl rfl) fun a E=>av E rfl fun a E=>wpList_nil ?_
 cases hF
 exact ⟨rfl,⟨ok,E.keep [4]⟩⟩
def qmh (u:World) (m0:Mem) (S:Segs) (r:(List UInt8)) (a:Act) (w:World):Prop :=
 Ok u m0 S w ∧ a.defers = [] ∧ RVs Tryz.prog a w [.t 2 (.string (bs r))] ∧ r.length ≤ LIMS
theorem qmq (N:Nat) (s_0:List UInt8) (ls_0:s_0.length ≤ LIMS) {r:(List UInt8)} (hF:qf7 N s_0 = some r) (hG:Glob u) (ok:Ok u m0 S w) :
  Calls Tryz.prog 92 [vs s_0].toArray w fun e w'=>(e = .returned (.string (bs r)) ∧ Ok u m0 S w') ∧ r.length ≤ LIMS:=by
 unfold qf7 at hF
 refine en (qmh u m0 S) r Tryz.func92 rfl rfl rfl (fun _ _ h=>rb h rfl) fun fin a E=>sg<|aw E rfl fun a E=>sg<|qa4 E ok qnS rfl rfl fun b1 a w E ok=>wn<|wp_seq<|sg<|mv E rfl fun a E=>lw E (qaI Tryz.underlying9 rfl) fun a E=>mv E rfl fun a E=>wn<|wp_block ?_
 obtain ⟨M9,ok,h10⟩:=qeq (e:=5) (k:=1) (R:=(pI .u8)) ok
 refine bd hF fun o11 hL hF=>qa9 _ (fun (s:Int × Builder) a w=>∃ c13 c15 M16,Ok u m0 (M16 :: [(b1,oc 68 [c13,c15])] :: S) w ∧ Env 21 a [(0,vs s_0),(3,vp b1),(6,(vi (s_0.length:Int))),(7,vi s.1)] ∧ InR .i64 s.1 ∧ BAd b1 c13 ∧ ORow 5 1 (pI .u8) m0 c15 s.2.buf M16) (fun (b:Builder) e a w=>e = (.exit 0) ∧ ∃ c63 c65 M66,Ok u m0 (M66 :: [(b1,oc 68 [c63,c65])] :: S) w ∧ Env 21 a [(3,vp b1)] ∧ BAd b1 c63 ∧ ORow 5 1 (pI .u8) m0 c65 b.buf M66) ?_ ?_ N _ a w hL ⟨(Value.pointer none),(Value.slice none 0 0),M9,ok,E.keep [0,3,6,7],(ir 0),(.inl rfl),h10⟩
 rotate_left
 ·intro e a w _ hO
  obtain ⟨rfl,c57,c59,M60,ok,E,h58,h61⟩:=hO
  refine qbm<|qaa<|sg ?_
  replace ok:Ok u m0 ([(b1,oc 68 [c57,c59])] :: M60 :: S) w:=(ok.pk 2 [1,0] rfl (by decide))
  refine qag E qqj rfl (qlZ Tryz.lays169 Tryz.Builder_Extra_169 h61 ok) rfl rfl ?_
  rintro _ w ⟨⟨rfl,ok⟩,l62⟩
  refine ⟨_,rfl,fun a E=>?_⟩
  refine aw E rfl fun a E=>wp_ret ?_
  exact fin hF ⟨ok,E.d,rz E rfl,l62⟩
 rintro ⟨v18,v19⟩ a w r ⟨c21,c23,M24,ok,E,r20,h22,h25⟩ hF
 replace hF:qev N s_0 v18 v19 = some r:=hF
 unfold qev at hF
 refine sg<|lw E (qaO rfl rfl) fun a E=>wn<|wp_seq<|cg E rfl hF (fun c26 hF=>?_) fun c26 hF=>?_
 ·refine wp_exit<|qaU ?_
  cases hF
  exact so (⟨rfl,⟨c21,c23,M24,ok,E.keep [3],h22,h25⟩⟩)
 refine wp_skip<|qaa<|wp_seq<|wp_block<|sg<|mv E rfl fun a E=>av E rfl fun a E=>wn<|wp_seq<|sg<|mz E rfl rfl fun a E=>bd hF fun c27 e28 hF=>lv E ok (qaH Tryz.underlying9 rfl rfl e28) fun a E=>?_
 refine bd hF fun r29 e30 hF=>lc E qrz rfl (qlI N (c27.toNat:Int) (InR.byte c27) e30 hG ok) fun w ok a E=>wn<|cg E rfl hF (fun c31 hF=>?_) fun c31 hF=>?_
 ·refine wp_skip<|qaa<|qac<|mz E rfl rfl fun a E=>bd hF fun c48 e49 hF=>lv E ok (qaH Tryz.underlying9 rfl rfl e49) fun a E=>?_
  obtain ⟨r50,e51,hF⟩:=bnd hF
  replace ok:Ok u m0 ([(b1,oc 68 [c21,c23])] :: M24 :: S) w:=(ok.pk 2 [1,0] rfl (by decide))
  refine qag E qlz rfl (qcN N (c48.toNat:Int) (InR.byte c48) (Builder.mk () v19.buf) h22 h25 e51 hG ok) rfl rfl ?_
  rintro _ w ⟨c52,c54,M55,⟨rfl,ok⟩,h53,h56⟩
  refine ⟨_,rfl,fun a E=>?_⟩
  refine wpList_nil<|qaf<|qaa<|qac<|lw E (qaA rfl rfl (InR.inc r20 (InR.len ls_0) c26)) fun a E=>mv E rfl fun a E=>wpList_nil ?_
  cases hF
  exact qar ⟨c52,c54,M55,(ok.pk 2 [1,0] rfl (by decide)),E.keep [0,3,6,7],(InR.inc r20 (InR.len ls_0) c26),h53,h56⟩
 refine qac ?_
 obtain ⟨r32,e33,hF⟩:=bnd hF
 replace ok:Ok u m0 ([(b1,oc 68 [c21,c23])] :: M24 :: S) w:=(ok.pk 2 [1,0] rfl (by decide))
 refine qag E qlz rfl (qcN N 92 (show InR .u8 (92) by decide) (Builder.mk () v19.buf) h22 h25 e33 hG ok) rfl rfl ?_
 rintro _ w ⟨c34,c36,M37,⟨rfl,ok⟩,h35,h38⟩
 refine ⟨_,rfl,fun a E=>?_⟩
 refine wn<|qac<|mz E rfl rfl fun a E=>bd hF fun c39 e40 hF=>lv E ok (qaH Tryz.underlying9 rfl rfl e40) fun a E=>bd hF fun r41 e42 hF=>qag E qlz rfl (qcN N (c39.toNat:Int) (InR.byte c39) (Builder.mk () r32.2.buf) h35 h38 e42 hG ok) rfl rfl ?_
 rintro _ w ⟨c43,c45,M46,⟨rfl,ok⟩,h44,h47⟩
 refine ⟨_,rfl,fun a E=>?_⟩
 refine wpList_nil<|qaf<|qaa<|qac<|lw E (qaA rfl rfl (InR.inc r20 (InR.len ls_0) c26)) fun a E=>mv E rfl fun a E=>wpList_nil ?_
 cases hF
 exact qar ⟨c43,c45,M46,(ok.pk 2 [1,0] rfl (by decide)),E.keep [0,3,6,7],(InR.inc r20 (InR.len ls_0) c26),h44,h47⟩
end Go.Proofs.YtllnjbnknjpbjaaGreatDoor
